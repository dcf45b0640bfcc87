/- Part. -/
import Derived.Orders
import Derived.OrdersHeld
import Derived.Below
import Derived.KernelRfl
import Derived.Deep.LoopGhost
import Derived.WalkKit
import Derived.OwnWalk
import Derived.Maps.RangeRun
import Derived.DeepKeys3
set_option linter.all false
namespace Go
def qA:=@of_decide_eq_true
def qB:=@of_decide_eq_false
def qC:=@Bool.and_eq_true
def qD:=@Int.natCast_nonneg
def qE:=@Nat.eq_of_beq_eq_true
def qF:=@List.getD_eq_getElem?_getD
def qG:=@List.mem_cons
def qH:=@Option.bind_eq_bind
def qI:=@Int.le_refl
def qJ:=@Int.toNat_natCast
def qK:=@if_neg
def qL:=@List.mem_cons_of_mem
def qM:=@List.length_set
def qN:=@Option.map_eq_some_iff
def qO:=@List.mem_singleton
def qP:=@List.getElem?_eq_getElem
def qQ:=@if_pos
def qR:=@List.eq_nil_of_length_eq_zero
def qS:=@Nat.le_of_ble_eq_true
def qT:=@cond_true
def qU:=@List.length_take
def qV:=@Decidable.byContradiction
def qW:=@List.take_of_length_le
def qX:=@Nat.le_trans
def qY:=@List.mem_append
def qZ:=@Nat.le_refl
def rA:=@List.length_singleton
def rB:=@List.mem_cons_self
def rC:=@Nat.lt_of_lt_of_le
def rD:=@Option.some.injEq
def rE:=@List.length_cons
def rF:=@cond_false
def rG:=@decide_eq_true
def rH:=@decide_eq_false
def rI:=@List.length_replicate
def rJ:=@Bool.or_eq_false_iff
def rK:=@Nat.zero_le
def rL:=@List.length_append
def rM:=@Nat.mul_le_mul_right
def rN:=@Rat.add_zero
def rO:=@Bool.not_eq_true'
def rP:=@List.take_add_one
def rQ:=@decide_eq_false_iff_not
def rR:=@List.getElem?_eq_none
def rS:=@decide_eq_true_eq
def rT:=@List.getElem?_take_of_lt
def rU:=@List.getElem?_eq_some_iff
def rV:=@Array.getElem?_eq_some_iff
def rW:=@Nat.lt_succ_self
def rX:=@Nat.pow_le_pow_right
def rY:=@List.mem_of_mem_take
def rZ:=@List.not_mem_nil
def sA:=@List.map_cons
def sB:=@List.nodup_cons
def sC:=@Nat.pow_succ
def sD:=@List.drop_of_length_le
def sE:=@Nat.lt_or_ge
def sF:=@Nat.zero_add
def sG:=@Int.fdiv_eq_ediv_of_nonneg
def sH:=@Int.mul_le_mul_of_nonneg_right
def sI:=@List.cons.injEq
def sJ:=@List.mem_append_left
def sL:=@List.length_drop
def sM:=@Nat.mul_assoc
def sN:=@Int.toNat_of_nonneg
def sO:=@List.mem_of_getElem?
def sP:=@Int.ofNat_lt
def sQ:=@List.mem_map
def sR:=@Array.length_toList
def sS:=@Nat.mul_le_mul_left
def sU:=@Nat.pos_of_ne_zero
def sV:=@List.length_map
def sW:=@List.nodup_append
def sX:=@Nat.min_eq_left
def sY:=@List.all_cons
def sZ:=@Nat.mul_add
def tA:=@Array.getElem?_setIfInBounds
def tB:=@List.getElem?_set_self
def tC:=@Nat.add_zero
def tD:=@Rat.sub_eq_add_neg
def tF:=@List.getElem?_set_ne
def tG:=@Nat.mul_comm
def tH:=@Rat.zero_add
def tI:=@List.mem_append_right
def tJ:=@Int.mul_nonneg
def tK:=@Rat.zero_mul
def tL:=@Nat.div_lt_iff_lt_mul
def tN:=@Nat.pow_pos
def tO:=@List.all_eq_true
def tP:=@Nat.mod_eq_of_lt
def tR:=@congrArg
def tS:=@Int.sign_eq_one_of_pos
def tT:=@Nat.ne_of_lt
def tU:=@Int.mul_le_mul_of_nonneg_left
def tV:=@Int.tmod_eq_emod_of_nonneg
def tW:=@List.drop_zero
def tX:=@List.getElem?_append_right
def tY:=@List.pairwise_append
def tZ:=@Array.getElem?_eq_getElem
def uA:=@List.pairwise_iff_getElem
def uB:=@List.mem_iff_getElem
def uC:=@Nat.div_eq_of_lt
def uD:=@Bool.or_eq_true
def uE:=@List.append_assoc
def uF:=@List.map_append
def uG:=@List.mem_filter
def uH:=@Int.natAbs_natCast
def uI:=@List.mem_range
def uJ:=@List.take_append_drop
def uK:=@Rat.mul_zero
def uL:=@Int.eq_ofNat_of_zero_le
def uM:=@List.getElem?_cons_succ
def uN:=@Nat.add_assoc
def uO:=@List.getElem?_append_left
def uP:=@Int.natCast_mul
def uQ:=@Decidable.not_not
def uR:=@Nat.succ_mul
def uS:=@Int.dvd_mul_of_dvd_right
def uT:=@Array.getD_eq_getD_getElem?
def uU:=@Nat.add_mul
def uV:=@List.getElem?_replicate
def uW:=@List.take_length
def uX:=@Array.toArray_toList
def uY:=@Nat.le_succ
def uZ:=@Nat.pow_add
def vA:=@Nat.ne_of_beq_eq_false
def vB:=@Nat.not_lt_zero
def vC:=@Option.getD_some
def vD:=@List.length_pos_iff
def vE:=@List.mem_map_of_mem
def vF:=@Nat.le_div_iff_mul_le
def vG:=@List.mem_of_mem_drop
def vH:=@Nat.eq_zero_or_pos
def vJ:=@or_false
def vK:=@List.nil_append
def vL:=@Rat.mul_assoc
def vM:=@Nat.div_div_eq_div_mul
def vN:=@and_true
def vO:=@List.ext_getElem?
def vP:=@List.pairwise_map
def vQ:=@Nat.lt_succ_of_lt
def vR:=@List.getElem?_toArray
def vS:=@Int.natAbs_mul
def vT:=@List.drop_drop
def vV:=@List.append_nil
def vW:=@Option.map_some
def vX:=@Bool.false_eq_true
def vY:=@Option.bind_some
def vZ:=@Bool.false_or
def wA:=@Int.sign_eq_neg_one_of_neg
def wB:=@List.getElem?_map
def wC:=@List.getElem?_set
def wD:=@Nat.add_comm
def wE:=@Nat.le_of_lt
def wF:=@Nat.mod_lt
def wG:=@beq_eq_false_iff_ne
def wH:=@List.range_succ
def wI:=@Option.isNone_iff_eq_none
def wJ:=@Array.getElem?_toList
def wK:=@List.cons_append
def wL:=@List.filter_append
def wM:=@List.getElem?_take
def wN:=@List.getElem_inj
def wO:=@List.getElem_mem
def wP:=@decide_eq_decide
def wQ:=@Nat.mul_zero
def wR:=@Rat.neg_zero
def wS:=@List.Perm.refl
def wT:=@List.mapM_cons
def wU:=@List.any_eq_false
def wV:=@Int.natCast_add
def wW:=@Nat.div_add_mod
def wX:=@Nat.div_le_self
def wY:=@Option.some.inj
def wZ:=@Rat.mul_eq_zero
def xA:=@Nat.gcd_comm
def xB:=@Nat.mul_lt_mul_of_pos_right
def xC:=@Nat.lt_irrefl
def xD:=@Rat.div_def
def xE:=@List.getElem?_drop
def xF:=@Nat.lt_of_mul_lt_mul_right
def xG:=@Bool.and_eq_false_iff
def xH:=@Array.mapM_eq_mapM_toList
def xI:=@Int.natAbs_ediv_le_natAbs
def xJ:=@List.drop_eq_getElem_cons
def xK:=@Int.natCast_pow
def xL:=@List.length_nil
def xM:=@Int.le_of_lt
def xN:=@List.length_range
def xO:=@Nat.beq_refl
def xP:=@Nat.one_mul
def xQ:=@Nat.sub_self
def xR:=@Rat.one_mul
def xS:=@if_true
def xT:=@Array.getElem?_replicate
def xU:=@Int.mul_ediv_cancel_left
def xV:=@List.length_erase_of_mem
def xW:=@List.any_eq_true
def xX:=@List.nodup_nil
def xY:=@Nat.mul_div_cancel_left
def xZ:=@BitVec.toNat_ofInt
def yA:=@Int.ofNat_dvd_left
def yB:=@List.length_pos_of_mem
def yC:=@Nat.lt_of_le_of_lt
def yD:=@Nat.zero_mul
def yE:=@List.foldl_cons
def yF:=@Rat.num_eq_zero
def yG:=@if_false
def yH:=@List.any_cons
def yI:=@Rat.add_assoc
def yJ:=@Rat.lt_irrefl
def yK:=@Int.mul_ediv_add_emod
def yL:=@List.length_filter_le
def yM:=@Nat.add_mul_div_right
def yN:=@Iff.rfl
def yO:=@List.flatMap_cons
def yP:=@List.idxOf_lt_length_of_mem
def yQ:=@Nat.gcd_dvd_right
def yR:=@Nat.le_succ_of_le
def yS:=@Int.natAbs_neg
def yT:=@Int.tdiv_eq_ediv_of_nonneg
def yU:=@List.mem_erase_of_ne
def yV:=@Nat.mul_le_mul
def yW:=@Nat.mul_one
def yX:=@Rat.mkRat_zero
def yY:=@Rat.mul_nonneg
def yZ:=@Int.mul_neg_of_pos_of_neg
def zA:=@Int.sign_eq_zero_iff_zero
def zB:=@Nat.add_mul_mod_self_left
def zC:=@List.drop_set_of_lt
def zD:=@List.take_set_of_le
def zE:=@Nat.div_mul_le_self
def zF:=@Array.setIfInBounds_comm
def zG:=@Int.ediv_nonpos_of_nonneg_of_nonpos
def zH:=@Int.tmod_nonneg
def zI:=@List.drop_left'
def zJ:=@Nat.mul_ne_zero
def zK:=@Int.emod_lt_of_pos
def zL:=@Int.mul_nonneg_of_nonpos_of_nonpos
def zM:=@List.mem_replicate
def zN:=@Nat.mul_right_comm
def zO:=@Option.toList_some
def zP:=@List.pairwise_singleton
def zQ:=@List.findIdx?_eq_some_iff_getElem
def zR:=@Array.getElem?_eq_none
def zS:=@Int.gcd_dvd_right
def zT:=@Int.lt_trichotomy
def zU:=@List.size_toArray
def zV:=@Nat.mul_left_comm
def zW:=@Nat.mul_div_mul_right
def zX:=@Array.toList_inj
def zY:=@Int.gcd_dvd_left
def zZ:=@List.take_append
def g0a:=@Rat.divInt_ofNat
def g0b:=@Rat.mkRat_eq_div
def g0c:=@beq_iff_eq
def g0d:=@Bool.not_true
def g0e:=@Bool.true_and
def g0f:=@Int.ofNat.inj
def g0g:=@Prod.mk.injEq
def g0h:=@Nat.shiftLeft_add_eq_or_of_lt
def g0i:=@Int.ediv_nonneg
def g0j:=@List.take_left'
def g0k:=@Array.toList_filter
def g0l:=@Array.toList_modify
def g0m:=@List.filter_eq_self
def g0n:=@List.getElem?_range
def g0o:=@List.toList_toArray
def g0p:=@Rat.mkRat_mul_mkRat
def g0q:=@decide_false
def g0r:=@getElem!_pos
def g0s:=@Bool.false_and
def g0t:=@Bool.not_eq_false'
def g0u:=@Int.natAbs_sign_of_ne_zero
def g0v:=@List.Pairwise.take
def g0w:=@List.drop_take
def g0x:=@List.getElem_idxOf
def g0y:=@List.take_take
def g0z:=@List.take_zero
def g1a:=@Nat.gcd_zero_right
def g1b:=@Rat.inv_mul_cancel
def g1c:=@Rat.mul_inv_cancel
def g1d:=@Rat.num_divInt_den
def g1e:=@List.findIdx?_eq_none_iff
def g1f:=@List.mem_or_eq_of_mem_set
def g1g:=@Array.toList_push
def g1h:=@Int.natAbs_add_le
def g1i:=@List.getElem_take
def g1j:=@Rat.neg_num
def g1k:=@Nat.gcd_pos_of_pos_right
def g1l:=@Option.isSome_iff_exists
def g1m:=@Array.toList_map
def g1n:=@List.ext_getElem
def g1o:=@List.filter_cons
def g1p:=@List.filter_cons_of_neg
def g1q:=@List.filter_cons_of_pos
def g1r:=@List.getElem?_cons_zero
def g1s:=@List.zipIdx_cons
def g1t:=@Nat.add_sub_cancel_left
def g1u:=@Nat.gcd_pos_of_pos_left
def g1v:=@Option.bind_eq_some_iff
def g1w:=@Option.bind_none
def g1x:=@Option.getD_none
def g1y:=@Bool.true_or
def g1z:=@Int.ediv_lt_iff_lt_mul
def g2a:=@Int.le_ediv_iff_mul_le
def g2b:=@Int.mul_comm
def g2c:=@List.length_eq_one_iff
def g2d:=@List.map_nil
def g2e:=@Nat.sub_zero
def g2f:=@Int.emod_nonneg
def g2g:=@Nat.min_le_left
def g2h:=@Nat.mul_add_div
def g2i:=@Nat.mul_add_mod
def g2j:=@Rat.den_intCast
def g2k:=@Rat.natCast_pos
def g2l:=@Rat.num_intCast
def g2m:=@Array.getElem?_modify
def g2n:=@List.Perm.append_left
def g2o:=@List.mem_iff_getElem?
def g2p:=@List.set_append_right
def g2q:=@Array.mem_toList_iff
def g2r:=@Array.toList_extract
def g2s:=@Bool.not_false
def g2t:=@Decidable.of_not_not
def g2u:=@Int.dvd_add
def g2v:=@Int.ediv_emod_unique
def g2w:=@List.drop_left
def g2x:=@List.range_eq_range'
def g2y:=@List.take_left
def g2z:=@Nat.add_mul_div_left
def g3a:=@Nat.div_one
def g3b:=@Nat.gcd_rec
def g3c:=@Prod.mk.inj
def g3d:=@Rat.add_mul
def g3e:=@Rat.den_pos
def g3f:=@Rat.mkRat_self
def g3g:=@Rat.mul_one
def g3h:=@Rat.neg_den
def g3i:=@Rat.num_nonneg
def g3j:=@decide_true
def g3k:=@or_congr
def g3l:=@Int.natCast_eq_zero
def g3m:=@Int.neg_ediv_of_dvd
def g3n:=@List.getElem_of_mem
def g3o:=@List.map_congr_left
def g3p:=@Int.toNat_mul
def g3q:=@Array.foldl_toList
def g3r:=@List.Pairwise.imp₂
def g3s:=@List.pairwise_cons
def g3t:=@List.set_cons_succ
def g3u:=@Nat.mul_div_cancel
def g3v:=@Rat.add_neg_cancel
def g3w:=@Rat.not_lt
def g3x:=@decide_eq_true_iff
def g3y:=@Bool.or_true
def g3z:=@Decidable.em
def g4a:=@Int.emod_eq_of_lt
def g4b:=@Int.le_total
def g4c:=@Int.lt_or_le
def g4d:=@Int.sign_mul
def g4e:=@List.Pairwise.imp
def g4f:=@List.set_set
def g4g:=@Nat.pow_zero
def g4h:=@Nat.zero_div
def g4i:=@Rat.add_comm
def g4j:=@Rat.le_of_lt
def g4k:=@Rat.mul_comm
def g4l:=@ne_eq
def g4m:=@Int.natCast_ediv
def g4n:=@List.drop_append
def g4o:=@List.getElem_set
def g4p:=@List.isEmpty_iff
def g4q:=@List.range'_succ
def g4r:=@Nat.gcd_dvd_left
def g4s:=@Nat.le_max_right
def g4t:=@Nat.le_of_not_lt
def g4u:=@Nat.shiftLeft_eq
def g4v:=@Nat.mod_one
def g4w:=@Nat.mul_pos
def g4x:=@Rat.le_refl
def g4y:=@not_or
def g4z:=@and_congr
def g5a:=@not_congr
end Go
namespace Go.Gw
open Go Go.RowKit
open Go.IntKind (i64)
abbrev G2:=Nat->Value
def upd (E:G2) (d:Nat) (v:Value):G2:=fun t=>bif Nat.beq t d then v else E t
def kD (E:G2):Option Tmp->Value->G2
 |some d,v=>upd E d v
 |none,_=>E
def ev (E:G2):Operand->Value
 | .tmp t=>E t
 | .const v=>v
 | .global g=> .pointer (some ⟨g,0,none⟩)
 | .func f=> .func (.func f) #[] #[]
def D1 {t d:Nat} (h:t≠d):Nat.beq t d=false:=by
 cases a:Nat.beq t d with
 |false=>rfl
 |true=>exact absurd (qE a) h
def C3 (E:G2) (d:Nat) (v:Value):upd E d v d=v:=by simp[upd]
def C4 (E:G2) (d t:Nat) (v:Value) (h:t≠d):upd E d v t=E t:=by
 have:Nat.beq t d=false:=D1 h;simp[upd,this]
structure C5 (n:Nat) (a:Act) (E:G2):Prop where
 size:a.tmps.size=n
 get:∀t,a.tmps.getD t undef=E t
 defers:a.defers= []
def C5.ev {n:Nat} {a:Act} {E:G2} (h:C5 n a E):a.eval=Gw.ev E:=by
 funext x;cases x with
 |tmp t=>exact h.get t
 | _=>rfl
def cZ (n:Nat) (l:List Oper):Bool:=l.all fun o=>match o.dst with|some d=>decide (d<n) |none=>true
def C5.put {n:Nat} {a:Act} {E:G2} (h:C5 n a E) (o:Option Tmp) (v:Value) (b:∀d,o=some d->d<n):C5 n (a.put o v) (kD E o v):=by
 cases o with
 |none=>exact h
 |some d=>
  have c:=b d rfl;refine⟨by simp[Act.put,h.size],fun t=> ?_,h.defers⟩;have g:=h.size;have f:=h.get t;by_cases b:t=d
  . subst b;simp[Act.put,kD,C3,tA,g,c]
  . simp only[kD,C4 _ _ _ _ b];rw[<-f];simp[Act.put,tA,Ne.symm b]
def Du (all:List Oper) (E:G2) (j:Nat):Option Bool:=
 match(all[j]?).bind (·.dst)with
 |some t=>match E t with| .bool b=>some b| _=>none
 |none=>none
def E5 (all:List Oper) (o:Oper) (E:G2):Bool:=
 match o.guard with
 |none=>true
 |some (j,a)=>Du all E j==some a
def C5.yielded {n:Nat} {a:Act} {E:G2} (h:C5 n a E) (all:List Oper) (j:Nat):yielded all.toArray a.tmps j=Du all E j:=by
 unfold Go.yielded Du;rw[vR];cases b:(all[j]?).bind (·.dst)with
 |none=>simp
 |some t=>
  simp only[vY];have b:=h.get t;cases c:a.tmps[t]? with
  |none=>
   have:a.tmps.getD t undef=undef:=by simp[c]
   rw[this]at b;simp[<-b,undef]
  |some v=>
   have:a.tmps.getD t undef=v:=by simp[c]
   rw[this]at b;rw[<-b];cases v<;>rfl
def C5.wanted {n:Nat} {a:Act} {E:G2} (h:C5 n a E) (all:List Oper) (o:Oper):Region.wanted o (Go.yielded all.toArray a.tmps)=E5 all o E:=by
 unfold Region.wanted E5;cases o.guard with
 |none=>rfl
 |some g=>simp only[h.yielded]
def I5 (P:Program) (all:List Oper) (o:Oper) (next:G2->World->Prop) (E:G2) (w:World):Prop:=
 if E5 all o E=true then
  match(execOp (ev E) o).run P w with
  | .ok (.value v) a=>next (kD E o.dst v) a
  | .ok .skip a=>next (kD E o.dst undef) a
  | .ok (.enter f a) b=>Calls P f a b fun e c=>∃v,e= .returned v/\next (kD E o.dst v) c
  | _=>False
 else next (kD E o.dst undef) w
def B7x (P:Program) (all:List Oper) (next:G2->World->Prop):List Oper->G2->World->Prop
 | []=>next
 |o::r=>I5 P all o (B7x P all next r)
def FU (n:Nat) (Q:Exit->G2->World->Prop):Exit->Act->World->Prop:=fun e a w=>∃E,C5 n a E/\Q e E w
def C0 {P:Program} {all:List Oper} {o:Oper} {next a:G2->World->Prop} (h:∀E w,next E w->a E w) {E:G2} {w:World} (hs:I5 P all o next E w):I5 P all o a E w:=by
 unfold I5 at*;split
 . rename_i a;simp only[a,xS]at hs;generalize (execOp (ev E) o).run P w=r at*;cases r with
   |ok m b=>
    cases m<;>simp only at hs⊢
    case value v=>exact h _ _ hs
    case skip=>exact h _ _ hs
    case enter f args=>exact hs.mono fun e b ⟨v,he,hn⟩=>⟨v,he,h _ _ hn⟩
   |halt x b=>exact hs
 . rename_i a;simp only[a]at hs;exact h _ _ hs
def Wg {P:Program} {n:Nat} {all:List Oper} (c:cZ n all=true) {i:Nat} {o:Oper} (g:all[i]? =some o) {Q:Exit->Act->World->Prop} {K:Act->World->Prop} {next:G2->World->Prop}
 (hK:∀a E w,C5 n a E->next E w->K a w) {a:Act} {E:G2} {w:World} (hr:C5 n a E) (h:I5 P all o next E w):wpOp P all.toArray Q i K a w:=by
 have b:∀d,o.dst=some d->d<n:=fun d b=>by
  have:=tO.1 c o (sO g);simpa[b]using this
 unfold wpOp;simp only[vR,g];rw[hr.wanted];unfold I5 at h;split
 . rename_i g;simp only[g,xS]at h;refine .inl ?_;unfold Oper.wp;rw[hr.ev];generalize (execOp (ev E) o).run P w=r at*;cases r with
   |ok m j=>
    cases m<;>simp only at h
    case value v=>exact hK _ _ _ (hr.put _ _ b) h
    case skip=>exact hK _ _ _ (hr.put _ _ b) h
    case enter f args=>
     refine h.mono fun e j ⟨v,he,c⟩=> ?_
     subst he;exact hK _ _ _ (hr.put _ _ b) c
   |halt x c=>exact h.elim
 . rename_i g;simp only[g]at h;exact hK _ _ _ (hr.put _ _ b) h
def YH {P:Program} {n:Nat} {all:List Oper} (d:cZ n all=true) {Q:Exit->G2->World->Prop} :
 ∀(b:List Oper) (k:Nat),(∀j,b[j]? =all[k+j]?)->∀(a:Act) (E:G2) (w:World),C5 n a E->B7x P all (Q .normal) b E w->
  wpOps P all.toArray (FU n Q) (List.range' k b.length) a w
 | [],_,_,a,E,w,c,h=>⟨E,c,h⟩
 |o::b,k,c,a,E,w,l,h=>by
  have g:all[k]? =some o:=by simpa using(c 0).symm
  rw[rE,g4q,wpOps_cons];refine Wg d g (fun f E' s r i=> ?_) l h;exact YH d b (k+1) (fun j=>by have:=c (j+1);simpa[uN,wD 1 j]using this) f E' s r i
inductive fO where
 |done
 |q (i:Nat) (p:fO)
 |p (i:Nat) (p:fO)
 |e (i:Nat) (p:fO)
 |br (i:Nat) (p:fO) (j:Nat) (p':fO)
def G4 (tails:List Nat) (listed:Array Bool):Bool:=tails.any fun i=>listed.getD i false
inductive Reach (ops:Array Oper) (j:Nat):Nat->Prop
 |one {oj:Oper} {e:Edge} :ops[j]? =some oj->e∈oj.after->Region.binds .any e=true->Reach ops j e.on
 |more {i:Nat} {oi:Oper} {e:Edge} :Reach ops j i->ops[i]? =some oi->e∈oi.after->Region.binds .any e=true->Reach ops j e.on
def A3n (all:List Oper) (i:Nat):List Nat:=match all[i]? with
 |some o=>(o.after.toList.filter fun e=>Region.binds .any e).map (·.on)
 |none=> []
def A2j (all:List Oper):List Nat->List Nat->List Nat
 | [],s=>s
 |i::r,s=>A2j all r (bif s.contains i then s++(A3n all i).filter (fun x=> !(s.contains x))else s)
def EX (all:List Oper) (a tails:List Nat):Bool:=
 tails.all fun j=>(fun s=>a.all fun i=>s.contains i) (A2j all (List.range j).reverse (A3n all j))
def kS {all:List Oper} {i x:Nat} (h:x∈A3n all i):∃a e,all.toArray[i]? =some a/\e∈a.after/\Region.binds .any e=true/\e.on=x:=by
 unfold A3n at h;split at h
 . rename_i o d;obtain⟨e,c,rfl⟩:=sQ.1 h;obtain⟨a,b⟩:=uG.1 c;exact⟨o,e,by rw[vR];exact d,by simpa using a,b,rfl⟩
 . cases h
def eV {all:List Oper} {j:Nat} :∀ {r s:List Nat},(∀x∈s,Reach all.toArray j x)->∀x∈A2j all r s,Reach all.toArray j x
 | [],_,h,x,a=>h x a
 |i::r,s,h,x,b=>by
  refine eV (r:=r) (fun y a=> ?_) x b;cases b:s.contains i with
  |false=>rw[b]at a;exact h y a
  |true=>
   rw[b]at a;simp only[qT,qY]at a;rcases a with a|a
   . exact h y a
   . obtain⟨g,e,c,d,f,rfl⟩:=kS (uG.1 a).1;exact .more (h i (by simpa using b)) c d f
def BO {all:List Oper} {a tails:List Nat} (f:EX all a tails=true):∀(j:Nat) (b:Oper),all.toArray[j]? =some b->j∈tails->∀h∈a,Reach all.toArray j h:=by
 intro j b a d h c;have a:=tO.1 f j d;have b:=tO.1 a h c;refine eV (fun x a=> ?_) h (by simpa using b);obtain⟨f,e,b,c,d,rfl⟩:=kS a;exact .one b c d
def JA (P:Program) (S:World->Prop) (all:List Oper) (o:Oper) (next:G2->World->Prop) (E:G2) (w:World):Prop:=
 (E5 all o E=true/\∃v,(∀a,S a->(execOp (ev E) o).run P a= .ok (.value v) a)/\next (kD E o.dst v) w)\/
 (E5 all o E=false/\next (kD E o.dst undef) w)
def cY (P:Program) (S:World->Prop) (all:List Oper) (tails:List Nat) (next:G2->World->Prop):fO->Bool->G2->World->Prop
 | .done,_=>next
 | .q i p,t=>fun E w=>∃o,all[i]? =some o/\JA P S all o (cY P S all tails next p t) E w
 | .p i p,t=>fun E w=>∃o,all[i]? =some o/\JA P (fun _=>True) all o (cY P S all tails next p t) E w
 | .e i p,t=>fun E w=>∃o,all[i]? =some o/\I5 P all o (fun E' a=>((t||tails.contains i)=true\/S a)/\cY P S all tails next p (t||tails.contains i) E' a) E w
 | .br i p j b,t=>fun E w=>(∃o,all[i]? =some o/\I5 P all o (fun E' a=>((t||tails.contains i)=true\/S a)/\cY P S all tails next p (t||tails.contains i) E' a) E w)/\
  (∃o,all[j]? =some o/\I5 P all o (fun E' a=>((t||tails.contains j)=true\/S a)/\cY P S all tails next b (t||tails.contains j) E' a) E w)
section held
variable {P:Program} {ops:Array Oper} {Q:Exit->Act->World->Prop} {S:World->Prop} {heads tails:List Nat}
def Y7 (P:Program) (ops:Array Oper) (Q:Exit->Act->World->Prop) (S:World->Prop) (tails:List Nat):Nat->Array Bool->Act->World->Prop
 |0,listed,a,w=>Region.ready .any ops listed= []/\Q .normal a w
 |fuel+1,listed,a,w=>
  (Region.ready .any ops listed= []->Q .normal a w)/\∀i∈Region.ready .any ops listed,wpOp P ops Q i (fun c b=>(G4 tails (listed.setIfInBounds i true)=true\/S b)/\Y7 P ops Q S tails fuel (listed.setIfInBounds i true) c b) a w
def aR:∀(fuel:Nat) (listed:Array Bool) (a:Act) (w:World),Y7 P ops Q S tails fuel listed a w->wpAny P .any ops Q fuel listed a w
 |0,_,_,_,h=>h
 |fuel+1,_,_,_,h=>⟨h.1,fun i d=>wpOp_mono (fun b f c=>aR fuel _ b f c.2) (h.2 i d)⟩
def pP (ops:Array Oper) (listed:Array Bool):Prop:=∀(i:Nat) (a:Oper),ops[i]? =some a->listed.getD i false=true->∀e∈a.after,Region.binds .any e=true->listed.getD e.on false=true
def aV (ops:Array Oper) (heads tails:List Nat) (listed:Array Bool):Prop:=pP ops listed/\(G4 tails listed=true->∀h∈heads,listed.getD h false=true)
def lV (ops:Array Oper) (n:Nat):pP ops (Array.replicate n false):=fun i b _ a=>by
 simp only[uT,xT]at a;split at a<;>cases a
def Reach.listed {ops:Array Oper} {listed:Array Bool} {j h:Nat} (d:pP ops listed) (g:j∈Region.ready .any ops listed) (a:Reach ops j h):listed.getD h false=true:=by
 induction a with
 |one i f c=>
  obtain⟨_,k,a,b⟩:=mem_ready.1 g;rw[i]at a;cases a;exact b _ f c
 |more _ c b a f=>exact d _ _ c f _ b a
def GZ {listed:Array Bool} {i:Nat} (h:listed.getD i true=false):listed.getD i false=false:=by
 rcases sE i listed.size with a|a
 . simp[a]at h⊢;exact h
 . simp[zR a]
def H8 {listed:Array Bool} {i:Nat} (c:i∉tails):G4 tails (listed.setIfInBounds i true)=G4 tails listed:=by
 unfold G4;rw[Bool.eq_iff_iff,xW,xW];constructor
 . rintro⟨x,a,h⟩;have b:i≠x:=fun e=>c (by rw[e];exact a)
   exact⟨x,a,by rw[getD_set_ne false b]at h;exact h⟩
 . rintro⟨x,a,h⟩;have b:i≠x:=fun e=>c (by rw[e];exact a)
   exact⟨x,a,by rw[getD_set_ne false b];exact h⟩
def Dz {listed:Array Bool} {i:Nat} (h:G4 tails listed=true):G4 tails (listed.setIfInBounds i true)=true:=by
 unfold G4 at*;rw[xW]at*;obtain⟨x,a,h⟩:=h;exact⟨x,a,getD_set_true h⟩
def aV.set (t:∀(j:Nat) (c:Oper),ops[j]? =some c->j∈tails->∀h∈heads,Reach ops j h) {listed:Array Bool} {j:Nat} (a:aV ops heads tails listed) (k:j∈Region.ready .any ops listed):aV ops heads tails (listed.setIfInBounds j true):=by
 obtain⟨_,c,n,s⟩:=mem_ready.1 k;refine⟨fun r u b l e f d=> ?_,fun o h g=> ?_⟩
 . by_cases i:r=j
   . subst i;rw[n]at b;cases b;exact getD_set_true (s e f d)
   . rw[getD_set_ne false (Ne.symm i)]at l;exact getD_set_true (a.1 r u b l e f d)
 . by_cases b:j∈tails
   . exact getD_set_true ((t j c n b h g).listed a.1 k)
   . rw[H8 b]at o;exact getD_set_true (a.2 o h g)
def NI {i:Nat} {f:Oper} {v:Value} (s:ops[i]? =some f) (y:i∈heads) (F:i∉tails) (A:∀(j:Nat) (o:Oper) cs b,ops[j]? =some o->o.op≠ .select cs b)
 (B:∀(j:Nat) (d:Oper),ops[j]? =some d->j∈tails->∀h∈heads,Reach ops j h)
 (E:∀c a w,Q (.panic c) (a.put f.dst v) w->Q (.panic c) a w):
 ∀(g:Nat) (listed:Array Bool) (a:Act) (w:World),aV ops heads tails listed->
  (∀j d,ops[j]? =some d->j≠i->listed.getD j true=false->(∀e∈d.after,Region.binds .any e=true->e.on≠i)->f.apart ops d=true)->
  i∈Region.ready .any ops listed->YieldsIf P ops S f v a->S w->
  Y7 P ops Q S tails g (listed.setIfInBounds i true) (a.put f.dst v) w->Y7 P ops Q S tails (g+1) listed a w:=by
 intro g
 induction g with
 |zero=>
  intro listed a w _ _ l n k H;refine⟨fun h=>(by rw[h]at l;cases l),fun j hj=> ?_⟩;by_cases l:j=i
  . subst l;exact n.wpOp s k ⟨.inr k,H⟩
  . have:=ready_mono hj l;rw[H.1]at this;cases this
 |succ g M=>
  intro listed a w r x n D g H;have u:listed.getD i false=false:=GZ (mem_ready.1 n).1;refine⟨fun h=>(by rw[h]at n;cases n),fun j hj=> ?_⟩;by_cases l:j=i
  . subst l;exact D.wpOp s g ⟨.inr g,H⟩
  . obtain⟨z,d,k,t⟩:=mem_ready.1 hj;have G:∀e∈d.after,Region.binds .any e=true->e.on≠i:=fun e he hb heq=>by
     have g:=t e he hb;rw[heq]at g;rw[u]at g;cases g
    have t:j∉tails:=fun t=>by
     have:=(B j d k t i y).listed r.1 hj;rw[u]at this;cases this
    have I:G4 tails listed=false:=by
     cases J:G4 tails listed with
     |false=>rfl
     |true=>have:=r.2 J i y;rw[u]at this;cases this
    have g:=H.2 j (ready_mono hj l);have u:=wpOp_putIf k (x j d k l z G) (fun cs b=>A i f cs b s) (fun cs b=>A j d cs b k) E D g;have y:∀k d,ops[k]? =some d->k≠i->(listed.setIfInBounds j true).getD k true=false->
     (∀e∈d.after,Region.binds .any e=true->e.on≠i)->f.apart ops d=true:=fun k d g s f A=>by
     refine x k d g s ?_ A;by_cases d:j=k
     . subst d;exact z
     . rw[getD_set_ne true d]at f;exact f
    refine wpOp_mono (fun s k f=> ?_) u;have d:S k:=by
     rcases f.2.1 with g|d
     . rw[H8 t,H8 F,I]at g;cases g
     . exact d
    refine⟨.inr d,M (listed.setIfInBounds j true) s k (r.set B hj) y (ready_mono n (Ne.symm l)) f.1 d ?_⟩;rw[zF _ _ l];exact f.2.2
def DK {i:Nat} {d:Oper} {v:Value} (k:ops[i]? =some d) (z:i∉tails) (t:∀(j:Nat) (o:Oper) cs b,ops[j]? =some o->o.op≠ .select cs b)
 (y:∀c a w,Q (.panic c) (a.put d.dst v) w->Q (.panic c) a w):
 ∀(g:Nat) (listed:Array Bool) (a:Act) (w:World),
  (∀j f,ops[j]? =some f->j≠i->listed.getD j true=false->(∀e∈f.after,Region.binds .any e=true->e.on≠i)->d.apart ops f=true)->
  i∈Region.ready .any ops listed->YieldsIf P ops (fun _=>True) d v a->(G4 tails listed=true\/S w)->
  Y7 P ops Q S tails g (listed.setIfInBounds i true) (a.put d.dst v) w->Y7 P ops Q S tails (g+1) listed a w:=by
 intro g
 induction g with
 |zero=>
  intro listed a w _ h r n H;refine⟨fun l=>(by rw[l]at h;cases h),fun j hj=> ?_⟩;by_cases h:j=i
  . subst h;exact r.wpOp k trivial ⟨n.imp Dz id,H⟩
  . have:=ready_mono hj h;rw[H.1]at this;cases this
 |succ g D=>
  intro listed a w r l u n H;have A:listed.getD i false=false:=GZ (mem_ready.1 l).1;refine⟨fun h=>(by rw[h]at l;cases l),fun j hj=> ?_⟩;by_cases g:j=i
  . subst g;exact u.wpOp k trivial ⟨n.imp Dz id,H⟩
  . obtain⟨s,f,n,x⟩:=mem_ready.1 hj;have B:∀e∈f.after,Region.binds .any e=true->e.on≠i:=fun e he hb heq=>by
     have h:=x e he hb;rw[heq]at h;rw[A]at h;cases h
    have h:=H.2 j (ready_mono hj g);have x:=wpOp_putIf n (r j f n g s B) (fun cs b=>t i d cs b k) (fun cs b=>t j f cs b n) y u h;have t:∀k f,ops[k]? =some f->k≠i->(listed.setIfInBounds j true).getD k true=false->
     (∀e∈f.after,Region.binds .any e=true->e.on≠i)->d.apart ops f=true:=fun k f d n h u=>by
     refine r k f d n ?_ u;by_cases d:j=k
     . subst d;exact s
     . rw[getD_set_ne true d]at h;exact h
    refine wpOp_mono (fun n k d=> ?_) x;have f:G4 tails (listed.setIfInBounds j true)=true\/S k:=by
     refine d.2.1.imp (fun h=> ?_) id;rw[zF _ _ (Ne.symm g),H8 z]at h;exact h
    refine⟨f,D (listed.setIfInBounds j true) n k t (ready_mono l (Ne.symm g)) d.1 f ?_⟩;rw[zF _ _ g];exact d.2.2
end held
def T8 {l:List Nat} {i:Nat} (h:l.contains i=false):i∉l:=by
 intro a;have:l.contains i=true:=by simpa using a
 rw[h]at this;cases this
def lI {tails:List Nat} {listed:Array Bool} {i:Nat} (b:i<listed.size):G4 tails (listed.setIfInBounds i true)=(G4 tails listed||tails.contains i):=by
 cases a:tails.contains i with
 |false=>rw[H8 (T8 a)];simp
 |true=>
  rw[g3y];unfold G4;rw[xW];exact⟨i,by simpa using a,by simp[tA,b]⟩
def B4k {ops:Array Oper} {listed:Array Bool} {i:Nat} (h:i∈Region.ready .any ops listed):i<listed.size:=by
 have:=(mem_ready.1 h).1;rcases sE i listed.size with a|a
 . exact a
 . simp[zR a]at this
def X8 (n:Nat):Code->Bool
 | .region _ ops _=>cZ n ops.toList
 | .seq a b=>X8 n a&&X8 n b
 | .cond _ a b=>X8 n a&&X8 n b
 | .block _ b=>X8 n b
 | .loop b=>X8 n b
 | .scope b=>X8 n b
 | .rangeFunc .. =>false
 | _=>true
def Wp (P:Program) (n:Nat) (c:Code) (Q:Exit->G2->World->Prop) (E:G2) (w:World):Prop:=
 X8 n c=true->∀a,C5 n a E->c.wp P (FU n Q) a w
inductive Fr where
 |code (c:Code)
 |blk (id:Nat)
 |ops (all rest:List Oper)
 |dops (S:World->Prop) (all:List Oper) (tails:List Nat) (p:fO) (t:Bool)
 |chk (S:World->Prop)
 |upto (I:G2->World->Prop)
def Den (P:Program) (n:Nat) (R:G2->World->Prop):List Fr->Exit->G2->World->Prop
 | [], .normal=>R
 | [], .ret=>R
 | [],_=>fun _ _=>False
 | .code c::k, .normal=>Wp P n c (Den P n R k)
 | .blk _::k, .normal=>Den P n R k .normal
 | .ops a b::k, .normal=>B7x P a (Den P n R k .normal) b
 | .dops S a b p t::k, .normal=>cY P S a b (Den P n R k .normal) p t
 | .chk S::k, .normal=>fun E w=>S w/\Den P n R k .normal E w
 | .upto I:: _, .normal=>I
 | .blk id::k, .exit j=>if j=id then Den P n R k .normal else Den P n R k (.exit j)
 | _::k,e=>Den P n R k e
structure Go (P:Program) (n:Nat) (R:G2->World->Prop) (k:List Fr) (E:G2) (w:World):Prop where
 out:Den P n R k .normal E w
section rules
variable {P:Program} {n:Nat} {R:G2->World->Prop} {k:List Fr} {E:G2} {w:World}
def Uz:∀k:List Fr,R E w->Den P n R k .ret E w
 | [],h=>h
 | .code _::k,h=>Uz k h
 | .blk _::k,h=>Uz k h
 | .ops _ _::k,h=>Uz k h
 | .dops _ _ _ _ _::k,h=>Uz k h
 | .chk _::k,h=>Uz k h
 | .upto _::k,h=>Uz k h
def go_ret (h:R E w):Go P n R (.code .ret::k) E w:=⟨fun _ b a=>wp_ret ⟨E,a,Uz k h⟩⟩
def kN (a:List Nat) (E E0:G2):Prop:=∀t,a.contains t=false->E t=E0 t
def kN.refl (a:List Nat) (E:G2):kN a E E:=fun _ _=>rfl
def kN.upd {a:List Nat} {E E0:G2} {d:Nat} {v:Value} (b:a.contains d=true) (h:kN a E E0):kN a (upd E d v) E0:=fun t a=>by
 rw[C4]
 . exact h t a
 . intro e;subst e;rw[b]at a;cases a
end rules
def QW (args:List Value):G2:=fun t=>(args[t]?).getD undef
def Zs {P:Program} {f:FuncId} {fn:Func} {c:Code} {args:List Value} {w:World} {Φ:Value->World->Prop} (b:P.funcs[f]? =some fn) (a:fn.body=some c)
 (g:args.length<=fn.ntmps) (d:X8 fn.ntmps c=true) (R:G2->World->Prop)
 (g:∀E w (tmps:Array Value),(∀t,tmps.getD t undef=E t)->R E w->∃v,(results fn tmps).run P w= .ok v w/\Φ v w)
 (h:Go P fn.ntmps R [.code c] (QW args) w):
 Calls P f args.toArray w fun e w'=>∃v,e= .returned v/\Φ v w':=by
 refine calls_of_wp b a ?_;have a:C5 fn.ntmps {tmps:=args.toArray++Array.replicate (fn.ntmps-args.toArray.size) undef,defers:= []} (QW args):=by
  refine⟨by simp;omega,fun t=> ?_,rfl⟩;unfold QW;simp only[uT,Array.getElem?_append,zU,vR,xT];split
  . rfl
  . rename_i b;rw[rR (by omega)];split<;>rfl
 refine wp_mono (h.out d _ a) ?_;rintro e d w' ⟨E',b,a⟩;cases e with
 |normal=>obtain⟨v,i,j⟩:=g E' w' d.tmps b.get a;exact⟨b.defers,v,i,v,rfl,j⟩
 |ret=>obtain⟨v,i,j⟩:=g E' w' d.tmps b.get a;exact⟨b.defers,v,i,v,rfl,j⟩
 |exit j=>exact a.elim
 |goto l=>exact a.elim
 |panic c=>exact a.elim
 |outgrown=>exact a.elim
def E7 (P:Program) (E:G2) (ty:TypeId) (op:Op) (w:World) (v:Value) (w':World):Prop:=
 ∀(d:Option Tmp) (b:String) (a:Array Edge) (g:Option (Nat×Bool)),(execOp (ev E) ⟨d,op,ty,b,a,g⟩).run P w= .ok (.value v) w'
def QO (P:Program) (E:G2) (ty:TypeId) (op:Op) (w w':World):Prop:=
 ∀(d:Option Tmp) (b:String) (a:Array Edge) (g:Option (Nat×Bool)),(execOp (ev E) ⟨d,op,ty,b,a,g⟩).run P w= .ok .skip w'
def A9g (P:Program) (E:G2) (ty:TypeId) (op:Op) (w:World) (f:FuncId) (args:List Value):Prop:=
 ∀(d:Option Tmp) (b:String) (a:Array Edge) (g:Option (Nat×Bool)),(execOp (ev E) ⟨d,op,ty,b,a,g⟩).run P w= .ok (.enter f args.toArray) w
def cK (P:Program) (f:FuncId) (args:List Value) (w:World) (Φ:Value->World->Prop):Prop:=
 Calls P f args.toArray w fun e a=>∃v,e= .returned v/\Φ v a
def cK.mono {P:Program} {f:FuncId} {args:List Value} {w:World} {Φ Φ':Value->World->Prop} (h:cK P f args w Φ) (a:∀v w',Φ v w'->Φ' v w'):cK P f args w Φ':=
 Calls.mono h fun _ _ ⟨v,he,hv⟩=>⟨v,he,a _ _ hv⟩
def YG {all:List Oper} {d:Option Tmp} {op:Op} {ty:TypeId} {pos:String} {aft:Array Edge} {j t:Nat} {b:Bool} {E:G2} (a:(all[j]?).bind (·.dst)=some t) (c:E t= .bool b):E5 all ⟨d,op,ty,pos,aft,some (j,b)⟩ E=true:=by
 simp[E5,Du,a,c]
section frames
variable {P:Program} {n:Nat} {R:G2->World->Prop} {k:List Fr} {E:G2} {w:World} {all rest:List Oper} {d:Nat} {op:Op} {ty:TypeId} {pos:String} {aft:Array Edge} {g:Option (Nat×Bool)}
variable {S:World->Prop} {i:Nat} {p:fO} {tails:List Nat} {t:Bool}
end frames
def Jn (P:Program) (t:TypeId):Bool:=match P.underlying t with|some (.struct _)=>false|some (.array _ _)=>false|some _=>true|none=>false
def kT (P:Program) (t:TypeId) (s:Nat):Bool:=
 (match P.underlying t with|some (.struct _)=>true|some (.array _ _)=>true| _=>false)&&(match P.info? t with|some i=>i.size==s|none=>false)
def Tu (P:Program) (t:TypeId) (s:Nat):Bool:=match P.info? t with|some i=>i.size==s|none=>false
def ON (P:Program) (t:TypeId) (f off:Nat):Bool:=
 match P.underlying t with
 |some (.struct a)=>(match a[f]? with|some x=>x.offset==off&&(match P.info? x.type with|some i=> !(i.size==0) |none=>false) |none=>false)
 | _=>false
def Ho (P:Program) (t e:TypeId) (s:Nat):Bool:=(match P.underlying t with|some (.slice e')=>e'==e| _=>false)&&Tu P e s
def Gu (P:Program) (f:FuncId):Bool:=match P.funcs[f]? with|some fn=> !(fn.name== "runtime.NumGoroutine")&&fn.body.isSome|none=>false
def Hw (P:Program) (t:TypeId):Option Value:=(P.info? t).bind (·.zero)
section ops
variable {P:Program} {E:G2} {w:World} {ty:TypeId}
def B5t {x:Operand} :E7 P E ty (.move x) w (ev E x) w:=fun _ _ _ _=>rfl
def pG {x:Operand} :E7 P E ty (.assign x) w (ev E x) w:=fun _ _ _ _=>rfl
def C3w {c a b:Operand} {t:Bool} (d:ev E c= .bool t):E7 P E ty (.pick c a b) w (bif t then ev E a else ev E b) w:=fun _ _ _ _=>by
 cases t<;>simp[execOp,d,asBool,go_sem]
def A8x {x:Operand} {vs:Array Value} {v:Value} {i:Nat} (b:ev E x= .tuple vs) (a:vs[i]? =some v):E7 P E ty (.extract x i) w v w:=fun _ _ _ _=>by
 simp[execOp,b,Instr.extract,a,go_sem]
def C7u {T:TypeId} {x:Operand} {b:Bool} (a:ev E x= .bool b):E7 P E ty (.unOp .not T x) w (.bool !b) w:=fun _ _ _ _=>by
 simp[execOp,a,Op.unary,go_sem]
def C7t {T:TypeId} {x:Operand} {k:IntKind} {a:Int} (b:ev E x= .int k a):E7 P E ty (.unOp .neg T x) w (.int k (k.wrap (-a))) w:=fun _ _ _ _=>by
 simp[execOp,b,Op.unary,Op.intArith,go_sem]
def mH {op:BinOp} {T:TypeId} {x y:Operand} {k k':IntKind} {a b:Int} :(eqGuard op T x y (.int k a) (.int k' b)).run P w= .ok () w:=by
 unfold eqGuard;cases op<;>rfl
def B5r {op:BinOp} {T T':TypeId} {x y:Operand} {k k':IntKind} {a b:Int} {v:Value} (c:ev E x= .int k a) (d:ev E y= .int k' b) (h:(binOp op T (.int k a) (.int k' b)).run P w= .ok v w):E7 P E ty (.binOp op T x y T') w v w:=fun _ _ _ _=>by
 simp only[execOp,c,d];have c:=mH (P:=P) (w:=w) (op:=op) (T:=T) (x:=x) (y:=y) (k:=k) (k':=k') (a:=a) (b:=b);simp[go_sem,c,h]
def C3t {x y:Operand} {ts:Array TypeId} {k k':IntKind} {a b:Int} (d:ev E x= .int k a) (f:ev E y= .int k' b):E7 P E ty (.call ⟨.builtin .max, #[x,y],ts⟩) w (.int k (max a b)) w:=fun _ _ _ _=>by
 have c:(if b>a then b else a)=max a b:=by by_cases h:a<b<;>simp only[gt_iff_lt,h,xS,yG]<;>omega
 simp[execOp,resolve,invoke,builtin,Builtin.max_,Builtin.max2,d,f,go_sem];exact c
def C3u {x y z:Operand} {ts:Array TypeId} {k k' d:IntKind} {a b c:Int} (f:ev E x= .int k a) (g:ev E y= .int k' b) (i:ev E z= .int d c):E7 P E ty (.call ⟨.builtin .max, #[x,y,z],ts⟩) w (.int k (max (max a b) c)) w:=fun _ _ _ _=>by
 have d:∀a b:Int,(if b>a then b else a)=max a b:=fun a b=>by by_cases h:a<b<;>simp only[gt_iff_lt,h,xS,yG]<;>omega
 simp only[execOp,resolve,invoke,builtin,Builtin.max_,go_sem];simp[f,g,i,Builtin.max2,d,go_sem]
def C3v {x y:Operand} {ts:Array TypeId} {k k':IntKind} {a b:Int} (d:ev E x= .int k a) (f:ev E y= .int k' b):E7 P E ty (.call ⟨.builtin .min, #[x,y],ts⟩) w (.int k (min a b)) w:=fun _ _ _ _=>by
 have c:(if b<a then b else a)=min a b:=by by_cases h:b<a<;>simp only[h,xS,yG]<;>omega
 simp[execOp,resolve,invoke,builtin,Builtin.min_,Builtin.min2,d,f,go_sem];exact c
def C7q {x:Operand} {t e:TypeId} {s len c:Nat} {a:Option Addr} (f:ev E x= .slice a len c) (b:Ho P t e s=true):E7 P E ty (.call ⟨.builtin .len, #[x], #[t]⟩) w (.int .i64 len) w:=fun _ _ _ _=>by
 have d:P.underlying t=some (.slice e):=by
  unfold Ho at b;simp only[qC]at b;obtain⟨b,_⟩:=b;split at b
  . rename_i g c;simp at b;subst b;exact c
  . cases b
 simp[execOp,resolve,invoke,builtin,Builtin.len_,f,run_underlying d,goInt,go_sem]
end ops
def Gd {P:Program} {E:G2} {w:World} {ty:TypeId} {c:Operand} {f:FuncId} {b args:List Value} {as:List Operand} {ts:Array TypeId} (g:ev E c= .func (.func f) #[] b.toArray) (a:Gu P f=true) (d:as.map (ev E)++b=args):
 A9g P E ty (.call ⟨.value c,as.toArray,ts⟩) w f args:=fun _ _ _ _=>by
 unfold Gu at a;split at a
 . rename_i fn h;simp only[qC,rO]at a;have c:¬fn.body=none:=by intro hb;rw[hb]at a;simp at a
   have b:¬fn.name= "runtime.NumGoroutine" :=by simpa using a.1
   subst d;simp[execOp,resolve,g,Deferred.ofValue,invoke,callFunc,h,b,c,go_sem]
 . cases a
def C7r {P:Program} {E:G2} {w:World} {ty:TypeId} {fn:Fn} {a:List Operand} {vs:List Value} (b:a.map (ev E)=vs):E7 P E ty (.makeFunc fn #[] a.toArray) w (.func fn #[] vs.toArray) w:=fun _ _ _ _=>by
 subst b;simp[execOp,Instr.makeFunc]
def C7s {P:Program} {E:G2} {w:World} {ty:TypeId} {T T':TypeId} {x y:Operand} {a b:Bool} (g:ev E x= .bool a) (h:ev E y= .bool b) (d:P.underlying T=some .bool):E7 P E ty (.binOp .neq T x y T') w (.bool (a !=b)) w:=fun _ _ _ _=>by
 have c:=run_equalIn_bool' (P:=P) w 9999 T a b d;have f:(eqGuard .neq T x y (.bool a) (.bool b)).run P w= .ok () w:=rfl;have d:(binOp .neq T (.bool a) (.bool b)).run P w= .ok (.bool (a !=b)) w:=by
  show((Op.equal T (.bool a) (.bool b))>>=fun r=>pure (Value.bool (!r))).run P w= _;unfold Op.equal Op.maxDepth;rw[Sem.run_bind,c];rfl
 simp only[execOp,g,h];simp[f,d]
def NN (w:World) (b:Nat) (cs:Array Value) (t:TypeId):Prop:=w.heap[b]? =some (.cells cs t (0,0))
structure R8 (w w':World):Prop extends Below w.heap.size w w' where
 drw:True
def NN.lt {w:World} {b:Nat} {cs:Array Value} {t:TypeId} (h:NN w b cs t):b<w.heap.size:=(rV.1 h).1
def NN.ext {w w':World} {b:Nat} {cs:Array Value} {t:TypeId} (h:NN w b cs t) (a:R8 w w'):NN w' b cs t:=(a.block b h.lt).trans h
def NN.cell {w:World} {b o:Nat} {cs:Array Value} {t:TypeId} {v:Value} (h:NN w b cs t) (a:cs[o]? =some v):w.cell? ⟨b,o,none⟩=some v:=by
 unfold NN at h;simp[World.cell?,h,a]
def R8.refl (w:World):R8 w w:=⟨Below.refl _ _,trivial⟩
def R8.trans {a b c:World} (h:R8 a b) (k:R8 b c):R8 a c:=⟨Below.trans h.toBelow (Below.mono k.toBelow h.size),trivial⟩
def R8.drew {a b:World} (h:R8 a b):R8 a b.drew:=⟨Below.drew h.toBelow,trivial⟩
def R8.alloc (w:World) (o:Obj):R8 w (w.alloc o):=⟨(Below.refl _ _).alloc (qZ _) o,trivial⟩
section mem
variable {P:Program} {E:G2} {w:World} {ty:TypeId}
def Jd {t:TypeId} (h:Jn P t=true):(isAgg t).run P w= .ok false w:=by
 unfold Jn at h;cases a:P.underlying t with
 |none=>simp[a]at h
 |some d=>cases d<;>simp[a]at h<;>simp[isAgg,run_underlying a,go_sem]
def Qx {t:TypeId} {s:Nat} (h:kT P t s=true):(isAgg t).run P w= .ok true w/\(sizeOf t).run P w= .ok s w:=by
 unfold kT at h;simp only[qC]at h;obtain⟨c,a⟩:=h;constructor
 . cases b:P.underlying t with
   |none=>simp[b]at c
   |some d=>cases d<;>simp[b]at c<;>simp[isAgg,run_underlying b,go_sem]
 . cases b:P.info? t with
   |none=>simp[b]at a
   |some i=>simp[b]at a;simp[sizeOf,typeInfo,b,a,go_sem]
def Ga {t:TypeId} {s:Nat} (h:Tu P t s=true):(sizeOf t).run P w= .ok s w:=by
 unfold Tu at h;cases a:P.info? t with
 |none=>simp[a]at h
 |some i=>simp[a]at h;simp[sizeOf,typeInfo,a,h,go_sem]
def A3g {T:TypeId} {x:Operand} {a:Addr} {v:Value} (f:ev E x= .pointer (some a)) (d:Jn P T=true) (c:w.cell? a=some v):E7 P E ty (.load T x) w v w:=fun _ _ _ _=>by
 have b:=Jd (P:=P) (w:=w) d;simp[execOp,f,Instr.loadAt,Instr.sureAddr,loadVar,b,c,go_sem]
def J4 (w:World) (a:Addr) (cs:List Value):Prop:=∀j v,cs[j]? =some v->w.cell? (a.add j)=some v
def A3h {T:TypeId} {x:Operand} {a:Addr} {cs:List Value} {s:Nat} (h:ev E x= .pointer (some a)) (b:kT P T s=true) (g:cs.length=s) (f:J4 w a cs):E7 P E ty (.load T x) w (.agg cs.toArray) w:=fun _ _ _ _=>by
 obtain⟨c,d⟩:=Qx (P:=P) (w:=w) b;have b:=run_loadCells_list (P:=P) (w:=w) a cs f;rw[g]at b;unfold loadCells at b;simp[execOp,h,Instr.loadAt,Instr.sureAddr,loadVar,c,d,b,go_sem]
def NN.cellsAt {w:World} {b:Nat} {cs:Array Value} {t:TypeId} (h:NN w b cs t):J4 w ⟨b,0,none⟩ cs.toList:=fun j v a=>by
 have:(⟨b,0,none⟩:Addr).add j=⟨b,j,none⟩:=by unfold Addr.add;split<;>simp_all
 rw[this];exact h.cell (by simpa using a)
def K5 (b o n:Nat):(⟨b,o,none⟩:Addr).add n=⟨b,o+n,none⟩:=by unfold Addr.add;split<;>simp_all
def DL {T:TypeId} {x:Operand} {b o f off:Nat} (k:ev E x= .pointer (some ⟨b,o,none⟩)) (a:ON P T f off=true):E7 P E ty (.fieldAddr T x f) w (.pointer (some ⟨b,o+off,none⟩)) w:=fun _ _ _ _=>by
 unfold ON at a;split at a
 . rename_i c j;split at a
   . rename_i g i;simp only[qC,g0c]at a;obtain⟨h,c⟩:=a;cases d:P.info? g.type with
     |none=>simp[d]at c
     |some n=>
      simp[d]at c;have l:(sizeOf g.type).run P w= .ok n.size w:=by simp[sizeOf,typeInfo,d,go_sem]
      subst h;simp[execOp,k,Instr.fieldAt,Instr.sureAddr,run_underlying j,i,fieldPlace,l,c,K5,go_sem]
   . cases a
 . cases a
def C7n {T:TypeId} {x:Operand} {v:Value} (a:ev E x=v):E7 P E ty (.box T x) w (.pointer (some ⟨w.heap.size,0,none⟩)) (w.alloc (.cells v.cells T)):=fun _ _ _ _=>by
 subst a;simp[execOp,Instr.box,newVar,newRow,go_sem]
def A5p {T:TypeId} {z:Value} (a:Hw P T=some z):E7 P E ty (.alloc T) w (.pointer (some ⟨w.heap.size,0,none⟩)) (w.alloc (.cells z.cells T)):=fun _ _ _ _=>by
 unfold Hw at a;cases b:P.info? T with
 |none=>simp[b]at a
 |some i=>
  simp[b]at a;simp[execOp,Instr.alloc,zeroValue,typeInfo,b,a,newVar,newRow,go_sem]
def Ma (w:World) (cs:Array Value) (t:TypeId):NN (w.alloc (.cells cs t)) w.heap.size cs t:=heap_alloc_new w _
def NN.alloc {w:World} {b:Nat} {cs:Array Value} {t:TypeId} (h:NN w b cs t) (o:Obj):NN (w.alloc o) b cs t:=h.ext (R8.alloc w o)
end mem
def Lv:∀u∈([]:List Value),u.oneCell'=true:=fun _ h=>by cases h
def My {v:Value} {l:List Value} (h:v.oneCell'=true) (t:∀u∈l,u.oneCell'=true):∀u∈v::l,u.oneCell'=true:=fun u a=>by
 rcases qG.1 a with a|a
 . rw[a];exact h
 . exact t u a
section frames
variable {P:Program} {n:Nat} {R:G2->World->Prop} {k:List Fr} {E:G2} {w:World} {all rest:List Oper} {d:Nat} {ty:TypeId} {pos:String} {aft:Array Edge} {g:Option (Nat×Bool)}
end frames
section tests
variable {P:Program} {n:Nat} {R:G2->World->Prop} {k:List Fr} {E:G2} {w:World} {all rest:List Oper} {d:Nat} {ty:TypeId} {pos:String} {aft:Array Edge} {g:Option (Nat×Bool)} {op:Op} {c:Prop} [Decidable c]
variable {S:World->Prop} {i:Nat} {p:fO} {tails:List Nat} {t:Bool}
end tests
def ES (P:Program) (t:TypeId):Option (List (Nat×Nat)):=
 match P.underlying t with
 |some (.struct a)=>a.toList.mapM fun f=>(P.info? f.type).map fun i=>(f.offset,i.size)
 | _=>none
def YY {P:Program} {w:World} :∀(a:List Field) (b:List (Nat×Nat)),a.mapM (fun f=>(P.info? f.type).map fun i=>(f.offset,i.size))=some b->
 (a.mapM fun f=>do pure (f.offset, <-sizeOf f.type):Sem (List (Nat×Nat))).run P w= .ok b w
 | [],b,h=>by simp at h;subst h;rfl
 |f::a,b,h=>by
  simp only[wT]at h;cases b:P.info? f.type with
  |none=>simp[b]at h
  |some i=>
   simp only[b,vW,qH,vY]at h;cases c:a.mapM (fun f=>(P.info? f.type).map fun i=>(f.offset,i.size))with
   |none=>rw[c]at h;simp at h
   |some g=>
    rw[c]at h;simp at h;subst h;have d:=YY (w:=w) a g c;rw[wT];simp[sizeOf,typeInfo,b,go_sem];simp[sizeOf,typeInfo,go_sem]at d;rw[d];rfl
def B9r {P:Program} {E:G2} {w:World} {ty:TypeId} {T:TypeId} {d:List (Nat×Operand)} {z:Value} {c:List (Nat×Nat)} (cs:Array Value) (b:Hw P T=some z) (a:ES P T=some c)
 (j:Instr.fill (fun i=>c[i]?) z.cells (d.map fun x=>(x.1,ev E x.2))=some cs):E7 P E ty (.build T d.toArray) w (.agg cs) w:=fun _ _ _ _=>by
 unfold Hw at b;unfold ES at a;cases d:P.info? T with
 |none=>simp[d]at b
 |some i=>
  simp[d]at b;cases g:P.underlying T with
  |none=>simp[g]at a
  |some h=>
   cases h<;>simp[g]at a
   case struct fs=>
    have h:=YY (w:=w) fs.toList c a;have a:(fs.mapM fun f=>do pure (f.offset, <-sizeOf f.type):Sem (Array (Nat×Nat))).run P w= .ok c.toArray w:=by
     rw[xH];simp at h⊢;simp[h]
    simp only[execOp];unfold Instr.build;simp at a;simp[zeroValue,typeInfo,d,b,run_underlying g,a,j]
def pH {P:Program} {E:G2} {w:World} {ty:TypeId} {T e:TypeId} {len sz:Nat} {b:List (Nat×Operand)} {z:Value} (cs:Array Value) (a:Hw P T=some z) (d:P.underlying T=some (.array len e)) (g:Tu P e sz=true)
 (f:Instr.fill (fun i=>some (i*sz,sz)) z.cells (b.map fun x=>(x.1,ev E x.2))=some cs):E7 P E ty (.build T b.toArray) w (.agg cs) w:=fun _ _ _ _=>by
 unfold Hw at a;have c:=Ga (P:=P) (w:=w) g;cases b:P.info? T with
 |none=>simp[b]at a
 |some i=>
  simp[b]at a;simp only[execOp];unfold Instr.build;simp[zeroValue,typeInfo,b,a,run_underlying d,c,f]
def B0j {w w':World} (c:R8 w w') {a:Addr} {v:Value} (h:w.cell? a=some v):w'.cell? a=some v:=by
 have b:a.block<w.heap.size:=block_lt_of_cell h;rw[c.cell b];exact h
def J4.ext {w w':World} {a:Addr} {cs:List Value} (h:J4 w a cs) (c:R8 w w'):J4 w' a cs:=fun j v b=>B0j c (h j v b)
def SlR {a:Type} (w:World) (sz:Nat) (f:a->List Value) (v:Value) (l:List a):Prop:=
 (∃a b,v= .slice a 0 b/\l= [])\/∃c o b,v= .slice (some ⟨c,o,none⟩) l.length b/\l.length<=b/\∀i a,l[i]? =some a->J4 w ⟨c,o+i*sz,none⟩ (f a)
def SlR.ext {a:Type} {w w':World} {sz:Nat} {f:a->List Value} {v:Value} {l:List a} (h:SlR w sz f v l) (k:R8 w w'):SlR w' sz f v l:=by
 rcases h with h| ⟨b,o,c,j,d,g⟩
 . exact .inl h
 . exact .inr ⟨b,o,c,j,d,fun n a i=>(g n a i).ext k⟩
def SlR.nil {a:Type} (w:World) (sz:Nat) (f:a->List Value):SlR w sz f (.slice none 0 0) []:= .inl ⟨_,_,rfl,rfl⟩
section sl
variable {P:Program} {E:G2} {w:World} {ty:TypeId} {α:Type} {sz:Nat} {f:α->List Value} {v:Value} {l:List α}
def Kc {t e:TypeId} {s:Nat} (a:Ho P t e s=true):P.underlying t=some (.slice e)/\Tu P e s=true:=by
 unfold Ho at a;simp only[qC]at a;obtain⟨a,b⟩:=a;refine⟨?_,b⟩;split at a
 . rename_i d c;simp at a;subst a;exact c
 . cases a
def B5s {x ix:Operand} {t e:TypeId} {h:IntKind} {i:Int} {a:Addr} {len b:Nat} (j:ev E x= .slice (some a) len b) (f:ev E ix= .int h i) (g:Ho P t e sz=true) (c:0<=i) (d:i<len):E7 P E ty (.indexAddr t x ix) w (.pointer (some (a.add (i.toNat*sz)))) w:=fun _ _ _ _=>by
 obtain⟨h,k⟩:=Kc g;have b:=Ga (P:=P) (w:=w) k;simp[execOp,j,f,Instr.indexAt,asIntOf,run_underlying h,c,d,b,go_sem]
end sl
section owned
variable {w w':World} {base:Nat} {e:TypeId} {sz:Nat} {v:Value} {n:Nat} {xs:List Value}
def B8c (h:w.ownsRow base e sz v n xs) (a:R8 w w'):w'.ownsRow base e sz v n xs:=
 h.kept (row:=none) ⟨a.os,a.tape,a.output,a.size,fun k b _=>a.block k b⟩ (by cases v.ownBlock<;>simp)
def NN.grown {b:Nat} {cs:Array Value} {t:TypeId} {row:Option Nat} (h:NN w b cs t) (a:w.grownBy w' row) (c:some b≠row):NN w' b cs t:=(a.block b h.lt c).trans h
end owned
section frames2
variable {P:Program} {n:Nat} {R:G2->World->Prop} {k:List Fr} {E:G2} {w:World} {all rest:List Oper} {d:Nat} {ty:TypeId} {pos:String} {aft:Array Edge} {g:Option (Nat×Bool)}
def kG {T e:TypeId} {sz len:Nat} {b:List (Nat×Operand)} {z:Value} (cs:Array Value) (d:Ho P T e sz=true) (a:Hw P e=some z) (c:len*sz<=16777216)
 (f:Instr.fill (fun i=>some (i*sz,sz)) ((Array.range (len*sz)).map (z.cells[· %z.cells.size]!)) (b.map fun x=>(x.1,ev E x.2))=some cs) (c:len*sz≠0):
 E7 P E ty (.buildSlice T len b.toArray) w (.slice (some ⟨w.heap.size,0,none⟩) len len) (w.alloc (.cells cs e)):=fun _ _ _ _=>by
 obtain⟨h,b⟩:=Kc d;unfold Hw at a;have d:=Ga (P:=P) (w:=w) b;cases b:P.info? e with
 |none=>simp[b]at a
 |some i=>
  simp[b]at a;have g:¬(16777216<len*sz):=by omega
  simp only[execOp];unfold Instr.buildSlice;simp[run_underlying h,d,g,c,zeroValue,typeInfo,b,a,f,newRow]
def aS (b:Nat) (w w':World):Prop:=w'.os=w.os/\w'.tape=w.tape/\(w'.output=w.output/\w.drawn<=w'.drawn)/\w'.heap.size=w.heap.size/\∀k,k≠b->w'.heap[k]? =w.heap[k]?
def NN.chg {w w':World} {b a:Nat} {cs:Array Value} {t:TypeId} (h:NN w b cs t) (c:aS a w w') (d:b≠a):NN w' b cs t:=(c.2.2.2.2 b d).trans h
def R8.chg {c w w':World} {b:Nat} (h:R8 c w) (a:aS b w w') (d:c.heap.size<=b):R8 c w':=
 ⟨⟨a.1.trans h.os,a.2.1.trans h.tape,a.2.2.1.1.trans h.output,by rw[a.2.2.2.1];exact h.size,fun k c=>(a.2.2.2.2 k (by omega)).trans (h.block k c)⟩,trivial⟩
def B0i {w w':World} {b:Nat} (c:aS b w w') {a:Addr} (d:a.block≠b):w'.cell? a=w.cell? a:=World.cell?_of_block (w:=w) (c.2.2.2.2 _ d)
def B8b {w w':World} {b c e sz n:Nat} {v:Value} {xs:List Value} (h:w.ownsRow c e sz v n xs) (a:aS b w w') (d:some b≠v.ownBlock):w'.ownsRow c e sz v n xs:=
 h.kept (row:=some b) ⟨a.1,a.2.1,a.2.2.1.1,by rw[a.2.2.2.1];exact qZ _,fun k _ c=>a.2.2.2.2 k (fun e=>c (by rw[e]))⟩ (.inr (Ne.symm d))
def UK {T d:TypeId} {x y:Operand} {b o s:Nat} {cs:Array Value} {v:Value} (vs:List Value) (k:ev E x= .pointer (some ⟨b,o,none⟩)) (l:ev E y=v) (c:v.cells.toList=vs) (a:Tu P T s=true) (j:vs.length=s) (h:NN w b cs d) (i:o+vs.length<=cs.size) (f:∀u∈vs,u.oneCell'=true):
 QO P E ty (.store T x y) w (w.setRow b (cs.toList.take o++vs++cs.toList.drop (o+vs.length)).toArray):=fun _ _ _ _=>by
 have g:=Ga (P:=P) (w:=w) a;have a:=run_storeCells_at P b o d vs 0 cs w h (by simpa using i) f;have d:v.cells.size=s:=by rw[<-j, <-c];simp
 simp only[tC]at a;subst l;simp[execOp,k,Instr.storeAt,Instr.sureAddr,storeVar,g,d,c,a]
end frames2
section el
variable {P:Program} {E:G2} {w:World} {ty:TypeId}
def J4.get {w:World} {b o j:Nat} {cs:List Value} {v:Value} (h:J4 w ⟨b,o,none⟩ cs) (a:cs[j]? =some v):w.cell? ⟨b,o+j,none⟩=some v:=by
 have:=h j v a;rwa[K5]at this
def B6x {b:Type} {l:List b} {i:Nat} (h:i<l.length):∃a,l[i]? =some a:=⟨_,qP h⟩
def GW {b:Type} {l:List b} {i:Nat} {a:b} (h:l[i]? =some a):i<l.length:=(rU.1 h).1
end el
section frames
variable {P:Program} {n:Nat} {R:G2->World->Prop} {k:List Fr} {E:G2} {w:World} {all rest:List Oper} {d:Nat} {ty:TypeId} {pos:String} {aft:Array Edge} {g:Option (Nat×Bool)}
end frames
def two (a b:Int):Array Value:= #[.int .i64 a, .int .i64 b]
def Zg {a:Type} (kv:a->Value) (w:World) (b:Nat) (d:List a):Prop:=
 ∃a c,w.heap[b]? =some (.map a c)/\a.toList.map (·.key)=d.map kv/\∀x∈a.toList,x.val= .bool true
def Zg.lt {a:Type} {kv:a->Value} {w:World} {b:Nat} {c:List a} (h:Zg kv w b c):b<w.heap.size:=by
 obtain⟨d,c,a,_⟩:=h;exact(rV.1 a).1
def Zg.ext {c:Type} {kv:c->Value} {w w':World} {b:Nat} {a:List c} (h:Zg kv w b a) (g:R8 w w'):Zg kv w' b a:=by
 have f:=h.lt;obtain⟨c,a,d,r⟩:=h;exact⟨c,a,(g.block b f).trans d,r⟩
def Zg.chg {d:Type} {kv:d->Value} {w w':World} {b a:Nat} {c:List d} (h:Zg kv w b c) (f:aS a w w') (g:b≠a):Zg kv w' b c:=by
 obtain⟨c,a,d,r⟩:=h;exact⟨c,a,(f.2.2.2.2 b g).trans d,r⟩
def Zg.grown {c:Type} {kv:c->Value} {w w':World} {b:Nat} {row:Option Nat} {a:List c} (h:Zg kv w b a) (f:w.grownBy w' row) (i:some b≠row):Zg kv w' b a:=by
 have g:=h.lt;obtain⟨c,a,d,r⟩:=h;exact⟨c,a,(f.block b g i).trans d,r⟩
def iv (i:Int):Value:= .int .i64 i
def sv (s:Int×Int):Value:= .agg (two s.1 s.2)
section maps
variable {P:Program} {E:G2} {w:World} {ty:TypeId} {κ:Type} {kv:κ->Value}
def A8y {t:TypeId} :E7 P E ty (.makeMap t none) w (.map (some w.heap.size)) (w.alloc (.map #[] 0)):=fun _ _ _ _=>by
 simp[execOp,Instr.makeMap]
end maps
section mframes
variable {P:Program} {n:Nat} {R:G2->World->Prop} {k:List Fr} {E:G2} {w:World} {all rest:List Oper} {d:Nat} {ty:TypeId} {pos:String} {aft:Array Edge} {g:Option (Nat×Bool)} {κ:Type}
end mframes
def pM {a:Type} (w:World) (b:Nat) (e:TypeId) (sz:Nat) (f:a->List Value) (v:Value) (l:List a):Prop:=w.ownsRow b e sz v l.length (l.flatMap f)
section own
variable {α:Type} {w w':World} {base:Nat} {e:TypeId} {sz:Nat} {f:α->List Value} {v:Value} {l:List α}
def pM.ext (h:pM w base e sz f v l) (a:R8 w w'):pM w' base e sz f v l:=B8c h a
def pM.chg {b:Nat} (h:pM w base e sz f v l) (a:aS b w w') (c:some b≠v.ownBlock):pM w' base e sz f v l:=B8b h a c
def pM.nil (w:World) (base:Nat) (e:TypeId) (sz:Nat) (f:α->List Value):pM w base e sz f (.slice none 0 0) []:=World.ownsRow_nil w base e sz
def pM.lit {b:Nat} {cs:Array Value} {a:α} (g:NN w b cs e) (d:cs.toList=f a) (c:(f a).length=sz) (h:base<=b):pM w base e sz f (.slice (some ⟨b,0,none⟩) 1 1) [a]:=by
 refine⟨by simp[c], .inr ⟨b,1,cs,rfl,h,g,by simp,by decide, ?_, ?_⟩⟩
 . rw[<-sR,d,c];simp
 . rw[d];simp[c,qW]
def pM.grown {g:Type} {a b f:Nat} {c:g->List Value} {v2:Value} {d:List g} (h:pM w a b f c v2 d) (i:w.grownBy w' v.ownBlock) (j:v2.ownBlock=none\/v2.ownBlock≠v.ownBlock):pM w' a b f c v2 d:=h.kept i j
end own
section frames
variable {P:Program} {n:Nat} {R:G2->World->Prop} {k:List Fr} {E:G2} {w:World} {all rest:List Oper} {d:Nat} {ty:TypeId} {pos:String} {aft:Array Edge} {g:Option (Nat×Bool)} {α:Type} {f:α->List Value}
def We (off:Nat):∀(l:List Value) (j:Nat) (cs:Array Value),off+j+l.length<=cs.size->
 ((l.zipIdx j).foldl (fun cs (x:Value×Nat)=>cs.setIfInBounds (off+x.2) x.1) cs).toList=cs.toList.take (off+j)++l++cs.toList.drop (off+j+l.length)
 | [],j,cs,_=>by simp
 |x::l,j,cs,h=>by
  simp only[g1s,yE];simp only[rE]at h;rw[We off l (j+1) _ (by simp;omega)];have a:off+j<cs.size:=by omega
  have b:off+j<cs.toList.length:=by simpa using a
  simp only[Array.toList_setIfInBounds];rw[List.take_set,zC (by omega),show off+(j+1)=(off+j)+1 from by omega,List.take_succ_eq_append_getElem b];rw[g2p _ _ (by simp;omega)];simp[sX (wE a),show off+j+1+l.length=off+j+(l.length+1)from by omega]
def mK (sz:Nat):∀(vs:List Value) (k:Nat) (cs:Array Value),(∀v∈vs,v.cells.size=sz)->(k+vs.length)*sz<=cs.size->
 ∃r,Instr.fill (fun i=>some (i*sz,sz)) cs ((vs.zipIdx k).map fun x=>(x.2,x.1))=some r/\r.toList=cs.toList.take (k*sz)++vs.flatMap (·.cells.toList)++cs.toList.drop ((k+vs.length)*sz)/\r.size=cs.size
 | [],k,cs,_,_=>⟨cs,by simp[Instr.fill],by simp,rfl⟩
 |v::vs,k,cs,j,h=>by
  have f:v.cells.size=sz:=j v (by simp);have d:(k+(vs.length+1))*sz=k*sz+vs.length*sz+sz:=by rw[uU,uR];omega
  simp only[rE,d]at h;have a:k*sz+v.cells.size<=cs.size:=by omega
  have b:=We (k*sz) v.cells.toList 0 cs (by simp;omega);simp only[tC]at b;generalize l:(v.cells.toList.zipIdx 0).foldl (fun cs (x:Value×Nat)=>cs.setIfInBounds (k*sz+x.2) x.1) cs=c at b;have g:c.size=cs.size:=by
   have:=tR List.length b;simp only[sR,rL,qU,sL]at this;omega
  have a:(k+1+vs.length)*sz=k*sz+vs.length*sz+sz:=by rw[uU,uU];omega
  obtain⟨r,n,o,s⟩:=mK sz vs (k+1) c (fun x hx=>j x (by simp[hx])) (by rw[a,g];exact h);refine⟨r, ?_, ?_,by rw[s,g]⟩
  . simp only[g1s,sA];unfold Instr.fill;simp only[f];rw[qK (by simp;omega)];rw[<-n, <-l, <-g3q];simp
  . rw[o,b];have b:(k+1)*sz=k*sz+sz:=uR k sz;have g:(k+(vs.length+1))*sz=(k+1+vs.length)*sz:=by rw[a,d]
    have d:(cs.toList.take (k*sz)).length=k*sz:=by simp;omega
    have c:v.cells.toList.length=sz:=by simpa using f
    rw[b,yO,rE,g];have b:(cs.toList.take (k*sz)++v.cells.toList).length=k*sz+sz:=by rw[rL,d,c]
    congr 1
    . rw[<-uE,g0j b]
    . rw[g4n,sD (by rw[b,a];omega),vK,vT,b,c,a];congr 1;omega
end frames
def Frs (n:Nat) (v:Value):Prop:=∀g,v.ownBlock=some g->n<=g
def SlR.chg {a:Type} {w w':World} {sz b:Nat} {f:a->List Value} {v:Value} {l:List a} (h:SlR w sz f v l) (j:aS b w w') (r:∀g,v.ownBlock=some g->g≠b):SlR w' sz f v l:=by
 rcases h with h| ⟨a,x,i,c,k,n⟩
 . exact .inl h
 . refine .inr ⟨a,x,i,c,k,fun t d o u y s=> ?_⟩;have i:a≠b:=r a (by rw[c];rfl);have:=n t d o u y s;rw[K5]at this⊢;rw[B0i j i];exact this
def pM.frs {b:Type} {w:World} {a e sz n:Nat} {f:b->List Value} {v:Value} {l:List b} (h:pM w a e sz f v l) (c:n<=a):Frs n v:=fun g a=>by have:=(World.ownsRow.lt h g a).1;omega
def cI (v v2:Value):Prop:=∀g,v.ownBlock=some g->v2.ownBlock≠some g
def cI.symm {v v2:Value} (h:cI v v2):cI v2 v:=fun g a b=>h g b a
section
variable {α β:Type} {w w':World} {base e sz base2 e2 sz2:Nat} {f:α->List Value} {f2:β->List Value} {v v' v2:Value} {l:List α} {l2:List β}
def cI.append (d:cI v v2) (c:pM w base2 e2 sz2 f2 v2 l2) (h:v'.ownBlock=v.ownBlock\/v'.ownBlock=some w.heap.size):cI v' v2:=by
 intro g a b;rcases h with h|h
 . exact d g (h▸a) b
 . rw[a]at h;have:=(World.ownsRow.lt c g b).2;cases h;omega
end
inductive Pl where
 |done
 |q (i:Nat) (p:Pl)
 |p (i:Nat) (p:Pl)
 |e (i:Nat) (p:Pl)
 |or (i:Nat) (p:Pl) (q:Pl)
 |al (is js:List Nat) (p:Pl)
def Gm (all:List Oper) (i:Nat):Nat:=((all[i]?).bind (·.dst)).getD 0
def Bl (all:List Oper) (l:List Nat):List Nat:=l.map (Gm all)
def eM (all:List Oper) (i:Nat):List Nat:=match all[i]? with
 |some o=>o.op.operands.toList.filterMap fun x=>match x with| .tmp t=>some t| _=>none
 |none=> []
def jM (all:List Oper) (i:Nat):Bool:=match all[i]? with
 |some o=>o.dst.isSome&&o.guard.isNone&&(match o.op with| .select _ _=>false| _=>true)
 |none=>false
def rm (i:Nat) (l:List Nat):List Nat:=l.filter fun k=> !Nat.beq k i
def B8w (l a:List Nat):Bool:=l.all fun x=> !a.contains x
def XP:List Nat->Bool
 | []=>true
 |x::r=> !r.contains x&&XP r
def A5t (all:List Oper) (a b:List Nat):Bool:=(a++b).all (jM all)&&XP (a++b)&&XP (Bl all (a++b))&&a.all fun i=>B8w (eM all i) (Bl all (a++b))
def A5s (all:List Oper) (tails:List Nat) (b:Nat->Array Bool->Bool):Nat->List Nat->List Nat->Array Bool->Bool
 |0,ri,a,listed=>ri.isEmpty&&a.isEmpty&&b 0 listed
 |f+1,ri,a,listed=>match a.find? fun j=>(Region.ready .any all.toArray listed).contains j&&Region.free .any all.toArray listed j with
  |some j=> !tails.contains j&&B8w (eM all j) (Bl all (ri++a))&&A5s all tails b f ri (rm j a) (listed.setIfInBounds j true)
  |none=>match ri with
   | []=>a.isEmpty&&b (f+1) listed
   |i0::c=>(Region.ready .any all.toArray listed==i0::c)&&(i0::c).all fun i=> !tails.contains i&&A5s all tails b f (rm i (i0::c)) a (listed.setIfInBounds i true)
def Gq (all:List Oper) (f:Nat->Nat->Value) (X:Nat->Obj):List Nat->G2->World->G2×World
 | [],E,w=>(E,w)
 |i::r,E,w=>Gq all f X r (upd E (Gm all i) (f i w.heap.size)) (w.alloc (X i))
def AlV (P:Program) (all:List Oper) (a:List Nat) (F:G2):Prop:=∀j∈a,∃o,all[j]? =some o/\∀w,(execOp (ev F) o).run P w= .ok (.value (F (Gm all j))) w
structure A9d (P:Program) (R:World->World->Prop) (all:List Oper) (is js:List Nat) (f:Nat->Nat->Value) (X:Nat->Obj) (nx:G2->World->Prop) (E:G2) (w:World):Prop where
 one:∀i∈is,∃o,all[i]? =some o/\∀w',(execOp (ev E) o).run P w'= .ok (.value (f i w'.heap.size)) (w'.alloc (X i))
 rel:∀i∈is,∀w',R w w'->R w' (w'.alloc (X i))
 fin:∀l,l.Perm is->∃F,(∀x,x∉Bl all js->F x=(Gq all f X l E w).1 x)/\AlV P all js F/\nx F (Gq all f X l E w).2
def Sv (all:List Oper) (a tails:List Nat):Pl->Nat->Array Bool->Option (List Nat)->Bool
 | .done,_,listed,al=>al.isNone&&(Region.ready .any all.toArray listed).isEmpty
 | .q i p,fuel,listed,al=>match fuel with
  |0=>false
  |fuel+1=>al.isNone&&a.contains i&& !tails.contains i&&Region.free .any all.toArray listed i&&(Region.ready .any all.toArray listed).contains i&&Sv all a tails p fuel (listed.setIfInBounds i true) none
 | .p i p,fuel,listed,al=>match fuel with
  |0=>false
  |fuel+1=>al.isNone&& !tails.contains i&&Region.free .any all.toArray listed i&&(Region.ready .any all.toArray listed).contains i&&Sv all a tails p fuel (listed.setIfInBounds i true) none
 | .e i p,fuel,listed,al=>match fuel with
  |0=>false
  |fuel+1=>(al.getD (Region.ready .any all.toArray listed)== [i])&&Sv all a tails p fuel (listed.setIfInBounds i true) none
 | .or i p q,fuel,listed,al=>match fuel with
  |0=>false
  |fuel+1=>match al.getD (Region.ready .any all.toArray listed)with
   | []=>false
   |j::b=>Nat.beq i j&&Sv all a tails p fuel (listed.setIfInBounds i true) none&&Sv all a tails q (fuel+1) listed (some b)
 | .al b c p,fuel,listed,al=>al.isNone&&A5t all b c&&A5s all tails (fun f l=>Sv all a tails p f l none) fuel b c listed
def C0e (all:List Oper) (a tails:List Nat) (p:Pl):Bool:=Region.noSelect all.toArray&&EX all a tails&&Sv all a tails p all.length (Array.replicate all.length false) none
def VZ (P:Program) (R:World->World->Prop) (all:List Oper) (tails:List Nat) (next:G2->World->Prop):Pl->Bool->G2->World->Prop
 | .done,_=>next
 | .q i p,t=>fun E w=>∃o,all[i]? =some o/\JA P (R w) all o (VZ P R all tails next p t) E w
 | .p i p,t=>fun E w=>∃o,all[i]? =some o/\JA P (fun _=>True) all o (VZ P R all tails next p t) E w
 | .e i p,t=>fun E w=>∃o,all[i]? =some o/\I5 P all o (fun E' a=>((t||tails.contains i)=true\/R w a)/\VZ P R all tails next p (t||tails.contains i) E' a) E w
 | .or i p q,t=>fun E w=>(∃o,all[i]? =some o/\I5 P all o (fun E' a=>((t||tails.contains i)=true\/R w a)/\VZ P R all tails next p (t||tails.contains i) E' a) E w)/\VZ P R all tails next q t E w
 | .al a b p,t=>fun E w=>∃f X,A9d P R all a b f X (VZ P R all tails next p t) E w
section
variable {P:Program} {ops:Array Oper} {Q:Exit->Act->World->Prop} {S S':World->Prop} {tails:List Nat}
def Kj (c:∀w,S w->S' w):∀(fuel:Nat) (listed:Array Bool) (a:Act) (w:World),Y7 P ops Q S tails fuel listed a w->Y7 P ops Q S' tails fuel listed a w
 |0,_,_,_,h=>h
 |fuel+1,_,_,_,h=>⟨h.1,fun i g=>wpOp_mono (fun f d b=>⟨b.1.imp id (c d),Kj c fuel _ f d b.2⟩) (h.2 i g)⟩
def SG:∀(fuel:Nat) (listed:Array Bool) (a:Act) (w:World),G4 tails listed=true->Y7 P ops Q S tails fuel listed a w->Y7 P ops Q S' tails fuel listed a w
 |0,_,_,_,_,h=>h
 |fuel+1,_,_,_,b,h=>⟨h.1,fun i f=>wpOp_mono (fun c g d=>⟨.inl (Dz b),SG fuel _ c g (Dz b) d.2⟩) (h.2 i f)⟩
end
def Mr:∀ {l:List Nat},XP l=true->l.Nodup
 | [],_=>xX
 |x::r,h=>by
  simp only[XP,qC,rO]at h;exact sB.2 ⟨T8 h.1,Mr h.2⟩
def iZ {i k:Nat} {l:List Nat} :k∈rm i l↔k∈l/\k≠i:=by
 unfold rm;rw[uG];refine and_congr_right fun _=>⟨fun h e=>by subst e;simp at h,fun h=>by rw[D1 h];rfl⟩
def A5f {i:Nat} :∀ {l:List Nat},l.Nodup->i∈l->(i::rm i l).Perm l
 | [],_,h=>by cases h
 |x::r,a,h=>by
  obtain⟨b,c⟩:=sB.1 a;by_cases a:x=i
  . subst a;have:rm x (x::r)=r:=by
     unfold rm;rw[g1o,qK (by simp)];exact g0m.2 fun k d=>by rw[D1 (show k≠x from fun e=>b (by rw[<-e];exact d))];rfl
    rw[this]
  . have:rm i (x::r)=x::rm i r:=by
     unfold rm;rw[g1o,qQ (by rw[D1 a];rfl)]
    rw[this];rcases qG.1 h with h|h
    . exact absurd h.symm a
    . exact(List.Perm.swap x i _).trans ((A5f c h).cons x)
def QC {l a:List Nat} (h:B8w l a=true):∀x∈l,x∉a:=fun x a=>by
 have:=tO.1 h x a;simp only[rO]at this;exact T8 this
def BB {all:List Oper} {i:Nat} {o:Oper} (h:jM all i=true) (c:all[i]? =some o):o.dst=some (Gm all i)/\o.guard=none/\∀cs b,o.op≠ .select cs b:=by
 unfold jM at h;rw[c]at h;simp only[qC,wI]at h;refine⟨?_,h.1.2,fun cs b e=>by rw[e]at h;simp at h⟩;cases a:o.dst with
 |none=>rw[a]at h;simp at h
 |some d=>simp[Gm,c,a]
def A7j {all:List Oper} {i:Nat} {o:Oper} {t:Nat} (a:all[i]? =some o) (h:Operand.tmp t∈o.op.operands):t∈eM all i:=by
 unfold eM;rw[a];exact List.mem_filterMap.2 ⟨.tmp t,by simpa using h,rfl⟩
def OL {all:List Oper} {i:Nat} {o:Oper} {E E':G2} (a:all[i]? =some o) (c:∀cs b,o.op≠ .select cs b) (h:∀t∈eM all i,E t=E' t):execOp (ev E) o=execOp (ev E') o:=
 execOp_congr o c fun x d=>by
  cases x with
  |tmp t=>exact h t (A7j a d)
  | _=>rfl
def BJ {all:List Oper} {f:Nat->Nat->Value} {X:Nat->Obj} :∀(a b:List Nat) (E:G2) (w:World),Gq all f X (a++b) E w=Gq all f X b (Gq all f X a E w).1 (Gq all f X a E w).2
 | [],_,_,_=>rfl
 |i::a,b,E,w=>BJ a b _ _
def Jc {all:List Oper} {f:Nat->Nat->Value} {X:Nat->Obj} {x:Nat} :∀(l:List Nat) (E:G2) (w:World),x∉Bl all l->(Gq all f X l E w).1 x=E x
 | [],_,_,_=>rfl
 |i::l,E,w,h=>by
  simp only[Bl,sA,qG,g4y]at h;simp only[Gq];rw[Jc l _ _ h.2,C4 _ _ _ _ h.1]
def J1 {all:List Oper} {l:List Nat} {x:Nat} :x∈Bl all l↔∃i∈l,Gm all i=x:=by simp[Bl]
def gU {all:List Oper} :∀ {l:List Nat},(Bl all l).Nodup->∀ {i k:Nat},i∈l->k∈l->i≠k->Gm all i≠Gm all k
 | [],_,_,_,h,_,_=>by cases h
 |x::r,c,i,k,hi,a,d=>by
  simp only[Bl,sA]at c;obtain⟨b,f⟩:=sB.1 c;rcases qG.1 hi with hi|hi<;>rcases qG.1 a with a|a
  . exact absurd (hi.trans a.symm) d
  . rw[hi];exact fun e=>b (J1.2 ⟨k,a,e.symm⟩)
  . rw[a];exact fun e=>b (J1.2 ⟨i,hi,e⟩)
  . exact gU f hi a d
def C0s {P:Program} {R:World->World->Prop} (U:∀w,R w w) (ai:∀ {a b c},R a b->R b c->R a c) {n:Nat} {all:List Oper} {h tails N s:List Nat} (ah:cZ n all=true) (ae:Region.noSelect all.toArray=true) (o:EX all h tails=true) {Q:Exit->Act->World->Prop} (T:∀(c:List PanicEntry) (a a0:Act) (w:World),Q (.panic c) a0 w->Q (.panic c) a w)
 {i:Nat->Array Bool->Bool} {g:G2->World->Prop} {t:Bool} {f:Nat->Nat->Value} {X:Nat->Obj} {E:G2} {w:World} (k:A5t all N s=true) (Z:A9d P R all N s f X g E w)
 (A:∀(l:Nat) (listed:Array Bool) (a:Act) (E':G2) (w':World),i l listed=true->aV all.toArray h tails listed->t=G4 tails listed->C5 n a E'->g E' w'->Y7 P all.toArray Q (R w') tails l listed a w'):
 ∀(l:Nat) (ri I:List Nat) (listed:Array Bool),A5s all tails i l ri I listed=true->aV all.toArray h tails listed->t=G4 tails listed->∀(a:Act) (Ec:G2) (g:List Nat),C5 n a Ec->(g++ri).Perm N->(∀j∈I,j∈s)->
  (∀r,r.Perm ri->∀F,(∀x,x∉Bl all s->F x=(Gq all f X (g++r) E w).1 x)->AlV P all s F->∀x,x∉Bl all (ri++I)->F x=Ec x)->R w (Gq all f X g E w).2->
  Y7 P all.toArray Q (R (Gq all f X g E w).2) tails l listed a (Gq all f X g E w).2:=by
 simp only[A5t,qC,tO]at k;obtain⟨⟨⟨an,a5⟩,a6⟩,ap⟩:=k;have a5:=Mr a5;have a6:=Mr a6;have aj:=BO o;have fin:∀(l:Nat) (listed:Array Bool),i l listed=true->aV all.toArray h tails listed->t=G4 tails listed->∀(a:Act) (Ec:G2) (g:List Nat),C5 n a Ec->(g++ []).Perm N->(∀r,r.Perm []->∀F,(∀x,x∉Bl all s->F x=(Gq all f X (g++r) E w).1 x)->AlV P all s F->∀x,x∉Bl all ([]++ [])->F x=Ec x)->Y7 P all.toArray Q (R (Gq all f X g E w).2) tails l listed a (Gq all f X g E w).2:=by
  intro l listed z o G a Ec g D B y;obtain⟨F,h,i,k⟩:=Z.fin g (by simpa using B);have:F=Ec:=funext fun x=>y [] (wS _) F (by simpa using h) i x (by simp[Bl])
  subst this;exact A l listed a F _ z o G D k
 intro l
 induction l with
 |zero=>
  intro ri I listed h i z a Ec g y o _ k _;simp only[A5s,qC,g4p]at h;obtain⟨⟨rfl,rfl⟩,h⟩:=h;exact fin 0 listed h i z a Ec g y o k
 |succ l ak=>
  intro ri I listed z V ab a Ec g Y A O W a7;simp only[A5s]at z;split at z
  . rename_i j k;simp only[qC,rO]at z;obtain⟨⟨af,ag⟩,ao⟩:=z;have i:j∈I:=List.mem_of_find?_eq_some k;have h:=List.find?_some k;simp only[qC]at h;have y:j∈Region.ready .any all.toArray listed:=by simpa using h.1
    have a3:=T8 af;have o:=QC ag;obtain⟨F0,a1,a2,_⟩:=Z.fin (g++ri) A;obtain⟨G,D,a4⟩:=a2 j (O j i);obtain⟨a8,a9,aa⟩:=BB (an j (tI _ (O j i))) D;have k:all.toArray[j]? =some G:=by simpa using D
    have am:∀r,r.Perm ri->∀F,(∀x,x∉Bl all s->F x=(Gq all f X (g++r) E w).1 x)->AlV P all s F->execOp (ev F) G=execOp (ev Ec) G:=fun r M F H J=>OL D aa fun u hu=>W r M F H J u (o u hu)
    have o:=am ri (wS _) F0 a1 a2;have ac:t=G4 tails (listed.setIfInBounds j true):=by rw[H8 a3];exact ab
    have ad:E5 all G Ec=true:=by simp[E5,a9]
    refine DK (v:=F0 (Gm all j)) k a3 (Region.noSelect_spec ae) (fun c a w B=>T c a _ w B) l listed a _ (Region.free_spec k h.2) y (.inl ⟨by rw[Y.wanted];exact ad,fun w' _=>by rw[Y.ev, <-o];exact a4 w'⟩) (.inr (U _)) ?_;refine ak ri (rm j I) _ ao (V.set aj y) ac _ (upd Ec (Gm all j) (F0 (Gm all j))) g ?_ A (fun k h=>O k (iZ.1 h).1) (fun r M F H J x T=> ?_) a7
    . have:=Y.put G.dst (F0 (Gm all j)) fun d V=>by
       have:=tO.1 ah G (sO D);simpa[V]using this
      rw[a8]at this⊢;exact this
    . by_cases ae:x=Gm all j
      . subst ae;rw[C3];obtain⟨U,y,ao⟩:=J j (O j i);rw[D]at y;cases y;have U:=ao w;rw[am r M F H J, <-o,a4 w]at U;simp only[Result.ok.injEq,Next.value.injEq,vN]at U;exact U.symm
      . rw[C4 _ _ _ _ ae];refine W r M F H J x fun o=>T ?_
        obtain⟨i,y,e⟩:=J1.1 o;refine J1.2 ⟨i, ?_,e⟩;rcases qY.1 y with y|y
        . exact sJ _ y
        . exact tI _ (iZ.2 ⟨y,fun B=>ae (by rw[<-e,B])⟩)
  . split at z
    . simp only[qC,g4p]at z;obtain⟨rfl,z⟩:=z;exact fin _ listed z V ab a Ec g Y A W
    . rename_i ae am;have ao:ae::am≠ []:=by simp
      generalize ae::am=ri at*;simp only[qC,tO,g0c,rO]at z;obtain⟨ae,am⟩:=z;unfold Y7;refine⟨fun z=>absurd (ae.symm.trans z) ao,fun i y=> ?_⟩;have ao:=y;rw[ae]at y;obtain⟨af,ag⟩:=am i y;have a3:=T8 af;have z:i∈N:=A.subset (tI _ y);have am:(g++ri).Nodup:=A.nodup_iff.2 (sW.1 a5).1;obtain⟨G,D,a4⟩:=Z.one i z;obtain⟨a8,a9,aa⟩:=BB (an i (sJ _ z)) D;obtain⟨F0,a1,a2,_⟩:=Z.fin (g++ri) A;have af:∀x,x∉Bl all (N++s)->Ec x=E x:=fun x T=>by
       have ae:x∉Bl all N:=fun o=>T (by obtain⟨k,h,e⟩:=J1.1 o;exact J1.2 ⟨k,sJ _ h,e⟩)
       have N:x∉Bl all s:=fun o=>T (by obtain⟨k,h,e⟩:=J1.1 o;exact J1.2 ⟨k,tI _ h,e⟩)
       have U:=W ri (wS _) F0 a1 a2 x fun o=>by
        obtain⟨k,h,e⟩:=J1.1 o;rcases qY.1 h with h|h
        . exact ae (J1.2 ⟨k,A.subset (tI _ h),e⟩)
        . exact N (J1.2 ⟨k,O k h,e⟩)
       rw[<-U,a1 x N];exact Jc _ _ _ fun o=>by
        obtain⟨k,h,e⟩:=J1.1 o;exact ae (J1.2 ⟨k,A.subset h,e⟩)
      have N:=OL (E:=Ec) (E':=E) D aa fun u hu=>af u (QC (ap i z) u hu)
      have ac:t=G4 tails (listed.setIfInBounds i true):=by rw[H8 a3];exact ab
      have ad:E5 all G Ec=true:=by simp[E5,a9]
      have a1:I5 P all G (fun E' w'=>E'=upd Ec (Gm all i) (f i (Gq all f X g E w).2.heap.size)/\w'=(Gq all f X g E w).2.alloc (X i)) Ec (Gq all f X g E w).2:=by
       unfold I5;rw[qQ ad,N,a4,a8];exact⟨rfl,rfl⟩
      have G:=Z.rel i z _ a7;refine Wg ah D (fun a0 E' w' U B=> ?_) Y a1;obtain⟨rfl,rfl⟩:=B;refine⟨.inr G, ?_⟩;have D:Gq all f X (g++ [i]) E w=(upd (Gq all f X g E w).1 (Gm all i) (f i (Gq all f X g E w).2.heap.size),(Gq all f X g E w).2.alloc (X i)):=by rw[BJ];rfl
      have N:=A5f (sW.1 am).2.1 y;have:=ak (rm i ri) I _ ag (V.set aj ao) ac a0 _ (g++ [i]) U (by
       rw[uE];exact(g2n g N).trans A) O (fun r M F H J x T=> ?_) (by rw[D];exact ai a7 G)
      . rw[D]at this;exact Kj (fun I y=>ai G y) l _ a0 _ this
      . have y:(i::r).Perm ri:=(M.cons i).trans N;rw[uE]at H;by_cases l:x=Gm all i
        . subst l;have G:Gm all i∉Bl all s:=fun o=>by
           obtain⟨k,h,e⟩:=J1.1 o;exact gU a6 (tI _ h) (sJ _ z) (fun B=>by
            subst B;exact(sW.1 a5).2.2 k z k h rfl) e
          rw[H _ G,C3,show g++([i]++r)=(g++ [i])++r from(uE _ _ _).symm,BJ,D];refine(Jc _ _ _ fun o=> ?_).trans (C3 _ _ _);obtain⟨k,h,e⟩:=J1.1 o;have g:=iZ.1 (M.subset h);exact gU a6 (sJ _ (A.subset (tI _ g.1))) (sJ _ z) g.2 e
        . rw[C4 _ _ _ _ l];refine W (i::r) y F H J x fun o=>T ?_
          obtain⟨k,h,e⟩:=J1.1 o;refine J1.2 ⟨k, ?_,e⟩;rcases qY.1 h with h|h
          . exact sJ _ (iZ.2 ⟨h,fun B=>l (by rw[<-e,B])⟩)
          . exact tI _ h
def B0y {P:Program} {R:World->World->Prop} (N:∀w,R w w) (a8:∀ {a b c},R a b->R b c->R a c) {n:Nat} {all:List Oper} {J tails:List Nat} (a1:cZ n all=true) (U:Region.noSelect all.toArray=true) (I:EX all J tails=true) {Q:Exit->G2->World->Prop} (aa:∀c E w,¬Q (.panic c) E w):
 ∀(p:Pl) (f:Nat) (listed:Array Bool) (al:Option (List Nat)),Sv all J tails p f listed al=true->aV all.toArray J tails listed->∀(t:Bool),t=G4 tails listed->∀(a:Act) (E:G2) (w:World),C5 n a E->(∀l,al=some l->∀i∈l,i∈Region.ready .any all.toArray listed)->VZ P R all tails (Q .normal) p t E w->
  match al with
  |none=>Y7 P all.toArray (FU n Q) (R w) tails f listed a w
  |some l=>∃D,f=D+1/\∀i∈l,wpOp P all.toArray (FU n Q) i (fun u o=>(G4 tails (listed.setIfInBounds i true)=true\/R w o)/\Y7 P all.toArray (FU n Q) (R w) tails D (listed.setIfInBounds i true) u o) a w:=by
 have T:∀(c:List PanicEntry) (a u:Act) (w:World),FU n Q (.panic c) u w->FU n Q (.panic c) a w:=fun c a u w ⟨E,_,h⟩=>(aa c E w h).elim
 have V:∀(i:Nat) (y:Oper),all[i]? =some y->∀d,y.dst=some d->d<n:=fun i y B d s=>by
  have:=tO.1 a1 y (sO B);simpa[s]using this
 have M:=BO I;have one:∀(i:Nat) (p:Pl) (f:Nat) (listed:Array Bool) (t:Bool) (a:Act) (E:G2) (w:World),(∀(f:Nat) (listed:Array Bool) (al:Option (List Nat)),Sv all J tails p f listed al=true->aV all.toArray J tails listed->∀(t:Bool),t=G4 tails listed->∀(a:Act) (E:G2) (w:World),C5 n a E->(∀l,al=some l->∀i∈l,i∈Region.ready .any all.toArray listed)->VZ P R all tails (Q .normal) p t E w->
  match al with
  |none=>Y7 P all.toArray (FU n Q) (R w) tails f listed a w
  |some l=>∃D,f=D+1/\∀i∈l,wpOp P all.toArray (FU n Q) i (fun u o=>(G4 tails (listed.setIfInBounds i true)=true\/R w o)/\Y7 P all.toArray (FU n Q) (R w) tails D (listed.setIfInBounds i true) u o) a w)->
  Sv all J tails p f (listed.setIfInBounds i true) none=true->aV all.toArray J tails listed->t=G4 tails listed->C5 n a E->i∈Region.ready .any all.toArray listed->(∃y,all[i]? =some y/\I5 P all y (fun E' o=>((t||tails.contains i)=true\/R w o)/\VZ P R all tails (Q .normal) p (t||tails.contains i) E' o) E w)->
  wpOp P all.toArray (FU n Q) i (fun u o=>(G4 tails (listed.setIfInBounds i true)=true\/R w o)/\Y7 P all.toArray (FU n Q) (R w) tails f (listed.setIfInBounds i true) u o) a w:=by
  intro i p f listed t a E w A g s z k Z ⟨y,B,h⟩;have H:(t||tails.contains i)=G4 tails (listed.setIfInBounds i true):=by rw[lI (B4k Z),z]
  refine Wg a1 B (fun u E' o a2 j=>⟨H▸j.1, ?_⟩) k h;have:=A f _ none g (s.set M Z) _ H u E' o a2 (fun _ j=>by cases j) j.2;simp only at this;rcases j.1 with a0|a0
  . exact SG f _ u o (H▸a0) this
  . exact Kj (fun ah O=>a8 a0 O) f _ u o this
 intro p
 induction p with
 |done=>
  intro f listed al g _ t _ a E w k _ h;simp only[Sv,qC,wI]at g;obtain⟨rfl,g⟩:=g;have D:Region.ready .any all.toArray listed= []:=by simpa using g
  cases f with
  |zero=>exact⟨D,E,k,h⟩
  |succ f=>exact⟨fun _=>⟨E,k,h⟩,by rw[D];simp⟩
 |q i p A=>
  intro f listed al g s t z a E w k _ h;cases f with
  |zero=>simp[Sv]at g
  |succ f=>
   simp only[Sv,qC,rO,wI]at g;obtain⟨⟨⟨⟨⟨rfl,Y⟩,G⟩,a3⟩,D⟩,g⟩:=g;have Y:i∈J:=by simpa using Y
   have G:=T8 G;have D:i∈Region.ready .any all.toArray listed:=by simpa using D
   obtain⟨y,B,h⟩:=h;have W:all.toArray[i]? =some y:=by simpa using B
   have H:t=G4 tails (listed.setIfInBounds i true):=by rw[H8 G];exact z
   rcases h with⟨I,v,a5,h⟩ | ⟨I,h⟩
   . refine NI (v:=v) W Y G (Region.noSelect_spec U) M (fun c a w j=>T c a _ w j) f listed a w s (Region.free_spec W a3) D (.inl ⟨by rw[k.wanted];exact I,fun o a4=>by rw[k.ev];exact a5 o a4⟩) (N w) ?_;exact A f _ none g (s.set M D) t H _ _ w (k.put _ _ (V i y B)) (fun _ j=>by cases j) h
   . refine NI (v:=undef) W Y G (Region.noSelect_spec U) M (fun c a w j=>T c a _ w j) f listed a w s (Region.free_spec W a3) D (.inr ⟨by rw[k.wanted];exact I,rfl⟩) (N w) ?_;exact A f _ none g (s.set M D) t H _ _ w (k.put _ _ (V i y B)) (fun _ j=>by cases j) h
 |p i p A=>
  intro f listed al g s t z a E w k _ h;cases f with
  |zero=>simp[Sv]at g
  |succ f=>
   simp only[Sv,qC,rO,wI]at g;obtain⟨⟨⟨⟨rfl,G⟩,Y⟩,D⟩,g⟩:=g;have G:=T8 G;have D:i∈Region.ready .any all.toArray listed:=by simpa using D
   obtain⟨y,B,h⟩:=h;have W:all.toArray[i]? =some y:=by simpa using B
   have H:t=G4 tails (listed.setIfInBounds i true):=by rw[H8 G];exact z
   rcases h with⟨I,v,a4,h⟩ | ⟨I,h⟩
   . refine DK (v:=v) W G (Region.noSelect_spec U) (fun c a w j=>T c a _ w j) f listed a w (Region.free_spec W Y) D (.inl ⟨by rw[k.wanted];exact I,fun o a3=>by rw[k.ev];exact a4 o a3⟩) (.inr (N w)) ?_;exact A f _ none g (s.set M D) t H _ _ w (k.put _ _ (V i y B)) (fun _ j=>by cases j) h
   . refine DK (v:=undef) W G (Region.noSelect_spec U) (fun c a w j=>T c a _ w j) f listed a w (Region.free_spec W Y) D (.inr ⟨by rw[k.wanted];exact I,rfl⟩) (.inr (N w)) ?_;exact A f _ none g (s.set M D) t H _ _ w (k.put _ _ (V i y B)) (fun _ j=>by cases j) h
 |e i p A=>
  intro f listed al g s t z a E w k a3 h;cases f with
  |zero=>simp[Sv]at g
  |succ f=>
   simp only[Sv,qC,g0c]at g;obtain⟨D,g⟩:=g;cases al with
   |none=>
    simp only[g1x]at D;have Z:i∈Region.ready .any all.toArray listed:=by rw[D];simp
    refine⟨fun G=>by rw[D]at G;simp at G, ?_⟩;intro Y W;obtain rfl:Y=i:=by rw[D]at W;simpa using W
    exact one Y p f listed t a E w A g s z k Z h
   |some l=>
    simp only[vC]at D;subst D;refine⟨f,rfl,fun G W=> ?_⟩;obtain rfl:G=i:=by simpa using W
    exact one G p f listed t a E w A g s z k (a3 _ rfl G (by simp)) h
 |or i p q ae af=>
  intro f listed al g s t z a E w k ab h;cases f with
  |zero=>simp[Sv]at g
  |succ f=>
   simp only[Sv]at g;cases D:al.getD (Region.ready .any all.toArray listed)with
   |nil=>rw[D]at g;simp at g
   |cons ag a3=>
    rw[D]at g;simp only[qC]at g;obtain⟨⟨Y,ac⟩,ad⟩:=g;have Y:=qE Y;subst Y;have a7:∀m∈i::a3,m∈Region.ready .any all.toArray listed:=fun m G=>by
     cases al with
     |none=>rw[g1x]at D;rw[D];exact G
     |some l=>rw[vC]at D;exact ab l rfl m (by rw[D];exact G)
    have a9:=one i p f listed t a E w ae ac s z k (a7 i (by simp)) h.1;have O:=af (f+1) listed (some a3) ad s t z a E w k (fun l j m G=>by cases j;exact a7 m (by simp[G])) h.2;obtain⟨W,a6,O⟩:=O;have a6:W=f:=by omega
    subst a6;have a5:∀m∈i::a3,wpOp P all.toArray (FU n Q) m (fun u o=>(G4 tails (listed.setIfInBounds m true)=true\/R w o)/\Y7 P all.toArray (FU n Q) (R w) tails W (listed.setIfInBounds m true) u o) a w:=fun m G=>by
     rcases qG.1 G with rfl|G
     . exact a9
     . exact O m G
    cases al with
    |none=>
     rw[g1x]at D;exact⟨fun a4=>by rw[D]at a4;simp at a4,fun m G=>a5 m (by rw[D]at G;exact G)⟩
    |some l=>
     rw[vC]at D;subst D;exact⟨W,rfl,a5⟩
 |al ac a3 p A=>
  intro f listed al g s t z a E w k _ h;simp only[Sv,qC,wI]at g;obtain⟨⟨rfl,a9⟩,g⟩:=g;obtain⟨ae,X,a7⟩:=h;refine C0s N a8 a1 U I T (t:=t) a9 a7 (fun a4 ad u E' o a6 a5 H a2 D=>A a4 ad none a6 a5 t H u E' o a2 (fun _ j=>by cases j) D) f ac a3 listed g s z a E [] k (wS _) (fun _ j=>j) (fun r hrp F g1 g2 x D=> ?_) (N w);have ab:x∉Bl all a3:=fun W=>D (by obtain⟨Y,G,e⟩:=J1.1 W;exact J1.2 ⟨Y,tI _ G,e⟩)
  rw[g1 x ab,vK];exact Jc _ _ _ fun W=>D (by obtain⟨Y,G,e⟩:=J1.1 W;exact J1.2 ⟨Y,sJ _ (hrp.subset G),e⟩)
end Go.Gw
namespace Go.Vc
open Go Go.RowKit Go.Gw
open Go.IntKind (i64)
inductive Ty where
 |int (k:IntKind)
 |bool
 |str
 |unit
 |pair (a b:Ty)
 |sl (t:Ty)
 |ptr (t:Ty)
 |mp (ka:Bool) (kt:Ty) (va:Bool) (vt:Ty)
 deriving DecidableEq
@[reducible] def Ty.den:Ty->Type
 | .int _=>Int
 | .bool=>Bool
 | .str=>ByteArray
 | .unit=>Unit
 | .pair a b=>a.den×b.den
 | .sl t=>List t.den
 | .ptr t=>t.den
 | .mp _ a _ b=>List (a.den×b.den)
def Ty.size:Ty->Nat
 | .unit=>0
 | .pair a b=>a.size+b.size
 | _=>1
def Ty.dflt:(t:Ty)->t.den
 | .int _=>(0:Int)
 | .bool=>false
 | .str=>⟨#[]⟩
 | .unit=>()
 | .pair a b=>(a.dflt,b.dflt)
 | .sl _=> []
 | .ptr t=>t.dflt
 | .mp _ _ _ _=> []
def OR (k:IntKind) (n:Int):Prop:=k.min<=n/\n<=k.max
def Ty.wf:(t:Ty)->t.den->Prop
 | .int k,n=>OR k n
 | .bool,_=>True
 | .str,_=>True
 | .unit,_=>True
 | .pair a b,x=>a.wf x.1/\b.wf x.2
 | .sl t,l=>l.length<=9223372036854775807/\∀x∈l,t.wf x
 | .ptr t,x=>t.wf x
 | .mp _ a _ b,l=>∀x∈l,a.wf x.1/\b.wf x.2
def G1 {a:Type} (R:List Value->a->Prop):List Value->List a->Prop
 |a,[]=>a= []
 |b,x::l=>∃c1 a,b=c1++a/\R c1 x/\G1 R a l
def T6 {a:Type} (R:List Value->a->Prop):Bool->Value->a->Prop
 |true,v,x=>∃a:List Value,v= .agg a.toArray/\R a x
 |false,v,x=>R [v] x
def MOk (a:Array MapEntry) (b:Nat):Prop:=(∀x∈a.toList,x.born<b)/\(a.toList.map (·.born)).Nodup
def R7 {a b:Type} (Rk:Value->a->Prop) (Rv:Value->b->Prop):List MapEntry->List (a×b)->Prop
 |a,[]=>a= []
 |b,x::l=>∃e a,b=e::a/\Rk e.key x.1/\Rv e.val x.2/\R7 Rk Rv a l
def C5:(t:Ty)->World->(Nat->Prop)->List Value->t.den->Prop
 | .int k,_,_,a,n=>a= [.int k n]/\OR k n
 | .bool,_,_,a,b=>a= [.bool b]
 | .str,_,_,a,s=>a= [.string s]
 | .unit,_,_,a,_=>a= []
 | .pair b c,w,Z,d,x=>∃c1 a,d=c1++a/\C5 b w Z c1 x.1/\C5 c w Z a x.2
 | .sl t,w,Z,f,l=>∃b a,f= [.slice b l.length a]/\l.length<=a/\a<=maxLen/\(b=none->a=0)/\(l= []\/∃c o d,b=some ⟨c,o,none⟩/\Z c/\J4 w ⟨c,o,none⟩ d/\G1 (C5 t w Z) d l)
 | .ptr t,w,Z,c,x=>∃b o a,c= [.pointer (some ⟨b,o,none⟩)]/\Z b/\J4 w ⟨b,o,none⟩ a/\C5 t w Z a x
 | .mp f g h i,w,Z,d,l=>(d= [.map none]/\l= [])\/∃b a c,d= [.map (some b)]/\Z b/\w.heap[b]? =some (.map a c)/\MOk a c/\R7 (T6 (C5 g w Z) f) (T6 (C5 i w Z) h) a.toList l
def T6.mono {b:Type} {R R':List Value->b->Prop} (h:∀c x,R c x->R' c x):∀ {a:Bool} {v:Value} {x:b},T6 R a v x->T6 R' a v x
 |true,_,_,⟨b,e,d⟩=>⟨b,e,h _ _ d⟩
 |false,_,_,b=>h _ _ b
def R7.mono {b d:Type} {Rk Rk':Value->b->Prop} {Rv Rv':Value->d->Prop} (h:∀c x,Rk c x->Rk' c x) (a:∀c x,Rv c x->Rv' c x):∀ {l:List (b×d)} {es:List MapEntry},R7 Rk Rv es l->R7 Rk' Rv' es l
 | [],_,b=>b
 | _:: _,_,⟨e,b,i,d,f,g⟩=>⟨e,b,i,h _ _ d,a _ _ f,R7.mono h a g⟩
def R7.mem {a b:Type} {Rk:Value->a->Prop} {Rv:Value->b->Prop} :∀ {l:List (a×b)} {es:List MapEntry} {x:a×b},R7 Rk Rv es l->x∈l->∃e∈es,Rk e.key x.1/\Rv e.val x.2
 |y::l,_,x,⟨e,g,f,b,c,d⟩,a=>by
  rw[f];rcases qG.1 a with rfl|a
  . exact⟨e,by simp,b,c⟩
  . obtain⟨b,c,h⟩:=R7.mem d a;exact⟨b,by simp[c],h⟩
section each
variable {α:Type} {R R':List Value->α->Prop}
def G1.mono (h:∀c x,R c x->R' c x):∀ {l:List α} {cs:List Value},G1 R cs l->G1 R' cs l
 | [],_,a=>a
 | _:: _,_,⟨c1,a,e,b,d⟩=>⟨c1,a,e,h _ _ b,G1.mono h d⟩
def G1.append:∀ {l a:List α} {cs cs':List Value},G1 R cs l->G1 R cs' a->G1 R (cs++cs') (l++a)
 | [],_,cs,cs',h,a=>by cases h;simpa using a
 | _:: _,_,_,cs',⟨c1,a,e,c,d⟩,b=>⟨c1,a++cs',by simp[e],c,G1.append d b⟩
def G1.length {s:Nat} (a:∀c x,R c x->c.length=s):∀ {l:List α} {cs:List Value},G1 R cs l->cs.length=l.length*s
 | [],_,h=>by cases h;simp
 | _::l,_,⟨c1,f,e,b,d⟩=>by
  have:=G1.length a d;rw[e,rL,a _ _ b,this,rE,uR];omega
def G1.get {s:Nat} (f:∀c x,R c x->c.length=s):∀ {l:List α} {cs:List Value} {i:Nat} {x:α},G1 R cs l->l[i]? =some x->R ((cs.drop (i*s)).take s) x
 | [],_,_,_,_,a=>by simp at a
 |y::l,_,i,x,⟨c1,d,e,b,g⟩,a=>by
  have d:=f _ _ b;cases i with
  |zero=>
   simp at a;subst a;rw[e,yD,tW,g0j d];exact b
  |succ i=>
   simp at a;have:=G1.get f g a;rw[e,uR,wD, <-vT,zI d];exact this
def G1.set {s:Nat} (g:∀c x,R c x->c.length=s):∀ {l:List α} {cs:List Value} {i:Nat} {x:α} {c:List Value},G1 R cs l->R c x->i<l.length->G1 R (cs.take (i*s)++c++cs.drop (i*s+s)) (l.set i x)
 | [],_,_,_,_,_,_,a=>by simp at a
 |y::l,_,i,x,c,⟨c1,h,e,b,d⟩,f,j=>by
  have a:=g _ _ b;cases i with
  |zero=>
   refine⟨c,h, ?_,f,d⟩;rw[e,yD,sF,g0z,vK,zI a]
  |succ i=>
   have h:i<l.length:=by simpa using j
   refine⟨c1,_, ?_,b,G1.set g d f h⟩;have b:(i+1)*s=s+i*s:=by rw[uR,wD]
   rw[e,b,zZ,qW (by omega),a,g1t,g4n,sD (by omega),a];simp[show s+i*s+s-s=i*s+s from by omega]
def G1.take {s:Nat} (b:∀c x,R c x->c.length=s):∀ {l:List α} {cs:List Value} (n:Nat),G1 R cs l->G1 R (cs.take (n*s)) (l.take n)
 | [],_,n,h=>by cases h;simp;rfl
 | _::l,_,n,⟨c1,f,e,a,d⟩=>by
  have f:=b _ _ a;cases n with
  |zero=>simp;rfl
  |succ n=>
   refine⟨c1,_, ?_,a,G1.take b n d⟩;rw[e,show(n+1)*s=s+n*s from by rw[uR,wD],zZ,qW (by omega),f,g1t]
def G1.drop {s:Nat} (d:∀c x,R c x->c.length=s):∀ {l:List α} {cs:List Value} (n:Nat),G1 R cs l->G1 R (cs.drop (n*s)) (l.drop n)
 | [],_,n,h=>by cases h;simp;rfl
 | _::l,_,n,⟨c1,f,e,a,b⟩=>by
  have g:=d _ _ a;cases n with
  |zero=>simp;exact⟨c1,f,e,a,b⟩
  |succ n=>
   have:=G1.drop d n b;rw[e,show(n+1)*s=s+n*s from by rw[uR,wD], <-vT,zI g];exact this
end each
def C5.length:∀ {t:Ty} {w:World} {Z:Nat->Prop} {cs:List Value} {x:t.den},C5 t w Z cs x->cs.length=t.size
 | .int _,_,_,_,_,h=>by rw[h.1];rfl
 | .bool,_,_,_,_,h=>by rw[show _= _ from h];rfl
 | .str,_,_,_,_,h=>by rw[show _= _ from h];rfl
 | .unit,_,_,_,_,h=>by rw[show _= _ from h];rfl
 | .pair c d,_,_,_,_,⟨c1,f,e,a,b⟩=>by rw[e,rL,C5.length a,C5.length b];rfl
 | .sl _,_,_,_,_,⟨_,_,e,_⟩=>by rw[e];rfl
 | .ptr _,_,_,_,_,⟨_,_,_,e,_⟩=>by rw[e];rfl
 | .mp _ _ _ _,_,_,_,_,h=>by
  rcases h with⟨e,_⟩ | ⟨_,_,_,e,_⟩<;>rw[e]<;>rfl
def O5 (Z:Nat->Prop) (w w':World):Prop:=∀b,Z b->w'.heap[b]? =w.heap[b]?
def Zv {Z:Nat->Prop} {w w':World} {b o:Nat} {a:List Value} (h:J4 w ⟨b,o,none⟩ a) (c:Z b) (d:O5 Z w w'):J4 w' ⟨b,o,none⟩ a:=fun j v a=>by
 have:=h j v a;rw[K5]at this⊢;rw[<-this];exact World.cell?_of_block (d b c)
def C5.mono:∀ {t:Ty} {w w':World} {Z Z':Nat->Prop} {cs:List Value} {x:t.den},(∀b,Z b->Z' b)->O5 Z w w'->C5 t w Z cs x->C5 t w' Z' cs x
 | .int _,_,_,_,_,_,_,_,_,h=>h
 | .bool,_,_,_,_,_,_,_,_,h=>h
 | .str,_,_,_,_,_,_,_,_,h=>h
 | .unit,_,_,_,_,_,_,_,_,h=>h
 | .pair h b,_,_,_,_,_,_,c,a,⟨c1,d,e,f,g⟩=>⟨c1,d,e,C5.mono c a f,C5.mono c a g⟩
 | .sl t,_,_,_,_,_,_,d,c,⟨f,g,e,j,n,o,i⟩=>⟨f,g,e,j,n,o,i.imp id fun⟨b,r,h,ha,a,k,l⟩=>⟨b,r,h,ha,d b a,Zv k a c,l.mono fun _ _=>C5.mono d c⟩⟩
 | .ptr t,_,_,_,_,_,_,d,c,⟨b,o,f,e,a,g,h⟩=>⟨b,o,f,e,d b a,Zv g a c,C5.mono d c h⟩
 | .mp d f g i,_,_,_,_,_,_,c,a,h=>h.imp id fun⟨b,es,cl,e,d,hh,g,f⟩=>⟨b,es,cl,e,c b d,by rw[a b d];exact hh,g,f.mono (fun _ _ h=>h.mono fun _ _=>C5.mono c a) (fun _ _ h=>h.mono fun _ _=>C5.mono c a)⟩
def T6.wf' {t:Ty} {R:List Value->t.den->Prop} (b:∀cs x,R cs x->t.wf x):∀ {a:Bool} {v:Value} {x:t.den},T6 R a v x->t.wf x
 |true,_,_,⟨_,_,h⟩=>b _ _ h
 |false,_,_,h=>b _ _ h
def C5.wf:∀ {t:Ty} {w:World} {Z:Nat->Prop} {cs:List Value} {x:t.den},C5 t w Z cs x->t.wf x
 | .int _,_,_,_,_,h=>h.2
 | .bool,_,_,_,_,_=>trivial
 | .str,_,_,_,_,_=>trivial
 | .unit,_,_,_,_,_=>trivial
 | .pair c d,_,_,_,_,⟨c1,f,e,a,b⟩=>⟨C5.wf a,C5.wf b⟩
 | .sl t,_,_,_,l,⟨b,c,e,d,a,_,h⟩=>⟨by simp only[maxLen]at a;omega,by
  rcases h with h| ⟨a,o,c,_,_,_,b⟩
  . intro x a;rw[h]at a;cases a
  . intro x a;obtain⟨i,c,d⟩:=g3n a;exact C5.wf (t:=t) (G1.get (R:=C5 t _ _) (s:=t.size) (fun _ _ h=>C5.length h) b (i:=i) (by rw[qP c,d]))⟩
 | .ptr t,_,_,_,_,⟨b,o,c,e,d,f,a⟩=>C5.wf (t:=t) a
 | .mp a b c d,_,_,_,l,h=>by
  rcases h with⟨_,e⟩ | ⟨b,c,a,e,f,g,j,d⟩
  . intro x a;rw[e]at a;cases a
  . intro x a;obtain⟨m,_,b,c⟩:=d.mem a;exact⟨T6.wf' (fun _ _=>C5.wf) b,T6.wf' (fun _ _=>C5.wf) c⟩
def C5.oneCell:∀ {t:Ty} {w:World} {Z:Nat->Prop} {cs:List Value} {x:t.den},C5 t w Z cs x->∀u∈cs,u.oneCell'=true
 | .int _,_,_,_,_,h=>by rw[h.1];exact My rfl Lv
 | .bool,_,_,_,_,h=>by rw[show _= _ from h];exact My rfl Lv
 | .str,_,_,_,_,h=>by rw[show _= _ from h];exact My rfl Lv
 | .unit,_,_,_,_,h=>by rw[show _= _ from h];exact Lv
 | .pair a d,_,_,_,_,⟨c1,f,e,b,c⟩=>by
  rw[e];intro u a;rcases qY.1 a with a|a
  . exact C5.oneCell b u a
  . exact C5.oneCell c u a
 | .sl _,_,_,_,_,⟨_,_,e,_⟩=>by rw[e];exact My rfl Lv
 | .ptr _,_,_,_,_,⟨_,_,_,e,_⟩=>by rw[e];exact My rfl Lv
 | .mp _ _ _ _,_,_,_,_,h=>by
  rcases h with⟨e,_⟩ | ⟨_,_,_,e,_⟩<;>rw[e]<;>exact My rfl Lv
def G1.oneCell {t:Ty} {w:World} {Z:Nat->Prop} :∀ {l:List t.den} {cs:List Value},G1 (C5 t w Z) cs l->∀u∈cs,u.oneCell'=true
 | [],_,h=>by rw[show _= _ from h];exact Lv
 | _:: _,_,⟨c1,a,e,b,c⟩=>by
  rw[e];intro u a;rcases qY.1 a with a|a
  . exact C5.oneCell b u a
  . exact G1.oneCell c u a
def S6 {w:World} {b o:Nat} {a:List Value} (h:J4 w ⟨b,o,none⟩ a) (i n:Nat):J4 w ⟨b,o+i,none⟩ ((a.drop i).take n):=fun j v a=>by
 rw[K5];rw[wM]at a;split at a
 . rw[xE]at a;have:=h (i+j) v a;rw[K5]at this;rw[uN];exact this
 . cases a
@[reducible] def Y8:List (Bool×Ty)->Type
 | []=>Unit
 | (_,t)::r=>t.den×Y8 r
inductive C where
 |val (t:Ty) (x:t.den)
 |row (k:Nat)
 |box (k off:Nat)
 |elp (k sz i off:Nat)
 |win (k sz:Nat) (lo hi:Int)
 |pf (t:Ty) (x:t.den) (off:Nat)
 |mp (k:Nat)
 |fn (f:FuncId) (caps:List Nat)
 |fv (P:Program) (as:List (Bool×Ty)) (ra:Bool) (r:Ty) (ok:Y8 as->Prop) (φ:Y8 as->r.den)
 |raw (v:Value)
 |dead
structure SV where
 agg:Bool
 cs:List C
inductive DV where
 |one (v:SV)
 |tup (vs:List SV)
 |cnd (t:Tmp) (b:Bool) (v:SV)
 |dead
inductive LC where
 |none
 |box (ty:TypeId) (cs:List C)
 |row (t:Ty) (e:TypeId) (l:List t.den)
 |map (ka:Bool) (kt:Ty) (va:Bool) (vt:Ty) (es:List (kt.den×vt.den))
 |rows (t:Ty) (e e':TypeId) (ls:List (List t.den)) (al:List (Nat×Nat)) (ho:Option Nat)
 |al (k:Nat)
 |sbox (q:Nat) (t:Ty) (x:t.den)
 |mapE (ka:Bool) (kt:Ty) (va:Bool) (vt:Ty) (es:List (kt.den×vt.den)) (j q:Nat)
 |iter (ka:Bool) (kt:Ty) (va:Bool) (vt:Ty) (left:List (kt.den×vt.den)) (cur:Option (kt.den×vt.den))
 |nest (t:Ty) (e e':TypeId) (ls:List t.den) (bo:List (Nat×Nat)) (dd:List Nat)
 |itM (ka:Bool) (kt:Ty) (va:Bool) (vt:Ty) (es left:List (kt.den×vt.den)) (cur:Option (kt.den×vt.den)) (q:Nat)
structure St where
 sl:List (Nat×Nat×DV)
 lc:List (Nat×Nat×LC)
 nx:Nat
 ct:Nat
 nm:Nat:=0
 fr:List (List (Nat×Nat×DV)):= []
def RH:Option Prop->Prop
 |none=>True
 |some a=>a
def bB (φ:Option Prop) (p:Prop):Prop:=match φ with
 |none=>p
 |some φ=>φ/\p
def E1 {φ:Option Prop} {p:Prop} :bB φ p↔RH φ/\p:=by cases φ<;>simp[bB,RH]
def B7e (c:Prop) (φ:Option Prop):Option Prop:=match φ with
 |none=>none
 |some φ=>some (c->φ)
def mX {c:Prop} {φ:Option Prop} :RH (B7e c φ)↔(c->RH φ):=by cases φ<;>simp[B7e,RH]
def J9 {a:Type} (e:Bool) (x y:a):a:=bif e then x else y
def find {a:Type} (d:a) (s:Nat):List (Nat×a)->a
 | []=>d
 | (t,x)::l=>bif Nat.beq t s then x else find d s l
def St.eS (a:St) (s:Nat):Nat×DV:=find (0, .dead) s a.sl
def St.eL (a:St) (k:Nat):Nat×LC:=find (0, .none) k a.lc
def St.S (a:St) (s:Nat):DV:=(a.eS s).2
def St.L (a:St) (k:Nat):LC:=(a.eL k).2
def put {a:Type} (s:Nat) (x:a):List (Nat×a)->List (Nat×a)
 | []=> [(s,x)]
 | (t,y)::l=>bif Nat.beq t s then(t,x)::l else(t,y)::put s x l
def AD {a:Type} (d:a) (s:Nat) (x:a) (q:Nat):∀l:List (Nat×a),find d q (put s x l)=if q=s then x else find d q l
 | []=>by
  simp only[put,find];by_cases h:q=s
  . simp[h]
  . simp[h,D1 (Ne.symm h)]
 | (t,y)::l=>by
  have c:=AD d s x q l;simp only[put];cases a:Nat.beq t s with
  |true=>
   have b:=qE a;subst b;simp only[qT,find];by_cases h:q=t
   . simp[h]
   . simp[h,D1 (Ne.symm h)]
  |false=>
   have f:t≠s:=vA a;simp only[rF,find,c];cases b:Nat.beq t q with
   |true=>
    have a:=qE b;subst a;simp[f]
   |false=>simp
def Mo (t:Nat):DV->Bool
 | .cnd a _ _=>Nat.beq a t
 | _=>false
def unc (t g:Nat):Nat×DV->Nat×DV
 | (n, .cnd a b v)=>bif Nat.beq a t then(g, .dead)else(n, .cnd a b v)
 | (n, .one v)=>(n, .one v)
 | (n, .tup v)=>(n, .tup v)
 | (n, .dead)=>(n, .dead)
def C3q (t g:Nat) (d:Nat×DV):unc t g d=bif Mo t d.2 then(g, .dead)else d:=by
 obtain⟨n,d⟩:=d;cases d<;>rfl
def pB (t g:Nat):List (Nat×Nat×DV)->List (Nat×Nat×DV)
 | []=> []
 | (s,d)::l=>(s,unc t g d)::pB t g l
def WN (t g q:Nat):∀l:List (Nat×Nat×DV),find (0, .dead) q (pB t g l)=bif Mo t (find (0, .dead) q l).2 then(g, .dead)else find (0, .dead) q l
 | []=>by simp[pB,find,Mo]
 | (s,d)::l=>by
  have a:=WN t g q l;simp only[pB,find,C3q];cases Nat.beq s q<;>simp[a]
def St.setS (a:St) (d:Nat) (x:DV):St:=⟨put d (a.ct+1,x) (pB d (a.ct+1) a.sl),a.lc,a.nx,a.ct+1,a.nm,a.fr⟩
def St.setL (a:St) (k:Nat) (x:LC):St:=⟨a.sl,put k (a.ct+1,x) a.lc,a.nx,a.ct+1,a.nm,a.fr⟩
def St.newL (a:St) (x:LC):St:=⟨a.sl,put a.nx (a.ct+1,x) a.lc,a.nx+1,a.ct+1,a.nm,a.fr⟩
def St.eS_setS (a:St) (d s:Nat) (x:DV):(a.setS d x).eS s=if s=d then(a.ct+1,x)else bif Mo d (a.S s)then(a.ct+1, .dead)else a.eS s:=by
 unfold St.eS St.setS;simp only;rw[AD,WN];rfl
def St.S_setS (a:St) (d s:Nat) (x:DV):(a.setS d x).S s=if s=d then x else bif Mo d (a.S s)then .dead else a.S s:=by
 show((a.setS d x).eS s).2= _;rw[St.eS_setS];split
 . rfl
 . cases Mo d (a.S s)<;>rfl
def St.L_setS (a:St) (d k:Nat) (x:DV):(a.setS d x).L k=a.L k:=rfl
def St.eL_setL (a:St) (k q:Nat) (x:LC):(a.setL k x).eL q=if q=k then(a.ct+1,x)else a.eL q:=AD ..
def St.L_setL (a:St) (k q:Nat) (x:LC):(a.setL k x).L q=if q=k then x else a.L q:=by
 show((a.setL k x).eL q).2= _;rw[St.eL_setL];split<;>rfl
def St.eL_newL (a:St) (q:Nat) (x:LC):(a.newL x).eL q=if q=a.nx then(a.ct+1,x)else a.eL q:=AD ..
def St.L_newL (a:St) (q:Nat) (x:LC):(a.newL x).L q=if q=a.nx then x else a.L q:=by
 show((a.newL x).eL q).2= _;rw[St.eL_newL];split<;>rfl
def St.S_newL (a:St) (q:Nat) (x:LC):(a.newL x).S q=a.S q:=rfl
def O1 (n:Nat):List (Nat×Nat×DV)->List (Nat×Nat×DV)->Prop
 | [],[]=>True
 | (s,e)::l,(c,a)::b=>c=s/\(a.1<=n->a=e)/\O1 n l b
 | _,_=>False
def Az (n:Nat):List (List (Nat×Nat×DV))->List (List (Nat×Nat×DV))->Prop
 | [],[]=>True
 |f::l,a::b=>O1 n f a/\Az n l b
 | _,_=>False
def O1.refl (n:Nat):∀l,O1 n l l
 | []=>trivial
 | (_,_)::l=>⟨rfl,fun _=>rfl,O1.refl n l⟩
def Az.refl (n:Nat):∀l,Az n l l
 | []=>trivial
 |f::l=>⟨O1.refl n f,Az.refl n l⟩
def O1.trans {n m:Nat} (f:n<=m):∀ {a b c},O1 n a b->O1 m b c->O1 n a c
 | [],[],[],_,_=>trivial
 | (_,_):: _,(_,_):: _,(_,_):: _,⟨g,i,k⟩,⟨h,j,l⟩=>⟨h.trans g,fun d=>by
  have:=j (qX d f);rw[this]at d⊢;exact i d,O1.trans f k l⟩
 | [],[],_:: _,_,h=>h.elim
 | [],_:: _,_,h,_=>h.elim
 | _:: _,[],_,h,_=>h.elim
 | (_,_):: _,(_,_):: _,[],_,h=>h.elim
def Az.trans {n m:Nat} (d:n<=m):∀ {a b c},Az n a b->Az m b c->Az n a c
 | [],[],[],_,_=>trivial
 | _:: _,_:: _,_:: _,h,k=>⟨h.1.trans d k.1,Az.trans d h.2 k.2⟩
 | [],[],_:: _,_,h=>h.elim
 | [],_:: _,_,h,_=>h.elim
 | _:: _,[],_,h,_=>h.elim
 | _:: _,_:: _,[],_,h=>h.elim
def O1.le {n m:Nat} (c:n<=m) {a b} (h:O1 m a b):O1 n a b:=(O1.refl n a).trans c h
def Az.le {n m:Nat} (c:n<=m) {a b} (h:Az m a b):Az n a b:=(Az.refl n a).trans c h
def O1.find {n:Nat} {d:Nat×DV} (s:Nat):∀ {a b},O1 n a b->(Vc.find d s b).1<=n->Vc.find d s b=Vc.find d s a
 | [],[],_,_=>rfl
 | (t,e)::a,(i,j)::b,⟨c,f,g⟩,h=>by
  subst c;simp only[Vc.find]at h⊢;cases c:Nat.beq i s with
  |true=>rw[c]at h;exact f h
  |false=>rw[c]at h;exact O1.find s g h
 | [],_:: _,h,_=>h.elim
 | _:: _,[],h,_=>h.elim
def C2q (n:Nat) (fr:List (List (Nat×Nat×DV))):Bool:=fr.all fun f=>f.all fun e=>Nat.ble e.2.1 n
def O1.old {n:Nat} :∀ {a b},O1 n a b->(b.all fun e=>Nat.ble e.2.1 n)=true->b=a
 | [],[],_,_=>rfl
 | (t,e)::a,(i,g)::b,⟨c,d,f⟩,h=>by
  simp only[sY,qC]at h;rw[c,d (qS h.1),O1.old f h.2]
 | [],_:: _,h,_=>h.elim
 | _:: _,[],h,_=>h.elim
def Az.old {n:Nat} :∀ {a b},Az n a b->C2q n b=true->b=a
 | [],[],_,_=>rfl
 |f::a,g::b,⟨c,d⟩,h=>by
  simp only[C2q,sY,qC]at h;rw[c.old h.1,Az.old d h.2]
 | [],_:: _,h,_=>h.elim
 | _:: _,[],h,_=>h.elim
structure C1 (st st':St):Prop where
 ct:st.ct<=st'.ct
 s:∀s,(st'.eS s).1≠0->(st'.eS s).1<=st.ct->st'.eS s=st.eS s
 l:∀k,(st'.eL k).1≠0->(st'.eL k).1<=st.ct->st'.eL k=st.eL k
 f:Az st.ct st.fr st'.fr
def C1.refl (a:St):C1 a a:=⟨qZ _,fun _ _ _=>rfl,fun _ _ _=>rfl,Az.refl _ _⟩
def Bj (a:Bool) (t:Ty) (w:World) (Z:Nat->Prop) (v:Value) (x:t.den):Prop:=T6 (C5 t w Z) a v x
def UT (w:World) (Z:Nat->Prop):(as:List (Bool×Ty))->List Value->Y8 as->Prop
 | [],a,_=>a= []
 | (b,t)::r,c,x=>∃v a,c=v::a/\Bj b t w Z v x.1/\UT w Z r a x.2
def pR (P:Program) (w:World) (Z:Nat->Prop) (v:Value) (as:List (Bool×Ty)) (h:Bool) (r:Ty) (c:Y8 as->Prop) (φ:Y8 as->r.den):Prop:=
 ∃g,∃d:List Value,v= .func (.func g) #[] d.toArray/\Gu P g=true/\∀(a:World) (Z':Nat->Prop) (f:List Value) (x:Y8 as),O5 Z w a->(∀b,Z b->b<a.heap.size)->(∀b,Z' b->b<a.heap.size)->UT a Z' as f x->c x->
  Gw.cK P g (f++d) a fun u c=>R8 a c/\∃Zn:Nat->Prop,(∀b,Zn b->(a.heap.size<=b/\b<c.heap.size)\/Z b\/Z' b)/\Bj h r c Zn u (φ x)
def RC (w:World) (Z:Nat->Prop) (B:Nat->Value):C->Value->Prop
 | .val t x,v=>C5 t w Z [v] x
 | .row k,v=>v=B k
 | .box k a,v=>∃b,B k= .pointer (some ⟨b,0,none⟩)/\v= .pointer (some ⟨b,a,none⟩)
 | .elp k sz i c,v=>∃b n a,B k= .slice (some ⟨b,0,none⟩) n a/\i<n/\v= .pointer (some ⟨b,i*sz+c,none⟩)
 | .win k sz b d,v=>∃c n a,B k= .slice c n a/\(∀x,c=some x->∃g,x=⟨g,0,none⟩)/\(c=none->a=0)/\0<=b/\b<=d/\d<=(n:Int)/\n<=a/\a<=maxLen/\v= .slice (if a=b.toNat then c else c.map (·.add (b.toNat*sz))) (d.toNat-b.toNat) (a-b.toNat)
 | .pf t x c,v=>∃b o a,v= .pointer (some ⟨b,o+c,none⟩)/\Z b/\J4 w ⟨b,o,none⟩ a/\C5 t w Z a x
 | .mp k,v=>v=B k
 | .fn f a,v=>v= .func (.func f) #[] (a.map B).toArray
 | .fv P as b r a c,v=>pR P w Z v as b r a c
 | .raw a,v=>v=a/\a.oneCell'=true
 | .dead,_=>True
def Dw (w:World) (Z:Nat->Prop) (B:Nat->Value):List C->List Value->Prop
 | [],a=>a= []
 |c::b,d=>∃v a,d=v::a/\RC w Z B c v/\Dw w Z B b a
def RS (w:World) (Z:Nat->Prop) (B:Nat->Value):SV->Value->Prop
 | ⟨true,b⟩,v=>∃a:List Value,v= .agg a.toArray/\Dw w Z B b a
 | ⟨false,a⟩,v=>Dw w Z B a [v]
def Rp (w:World) (Z:Nat->Prop) (B:Nat->Value):List SV->List Value->Prop
 | [],a=>a= []
 |c::b,d=>∃v a,d=v::a/\RS w Z B c v/\Rp w Z B b a
def RD (w:World) (Z:Nat->Prop) (B:Nat->Value) (E:G2):DV->Value->Prop
 | .one s,v=>RS w Z B s v
 | .tup b,v=>∃a:List Value,v= .tuple a.toArray/\Rp w Z B b a
 | .cnd t b s,v=>(E t= .bool b/\RS w Z B s v)\/(E t≠ .bool b/\v=undef)
 | .dead,_=>True
def Rr (w:World) (Z:Nat->Prop) (c:Bool) (a:Ty) (d:Bool) (b:Ty) (es:List MapEntry) (l:List (a.den×b.den)):Prop:=R7 (T6 (C5 a w Z) c) (T6 (C5 b w Z) d) es l
def root:Value->Option Nat
 | .pointer (some a)=>some a.block
 | .slice (some a) _ _=>some a.block
 | .map r=>r
 | _=>none
def Ko:Option Nat->Nat->Bool
 |none,_=>false
 |some j,i=>Nat.beq j i
def X9 (a:List (Nat×Nat)) (dd:List Nat) (i:Nat):Bool:=(a.any fun p=>Nat.beq p.1 i) ||dd.any fun j=>Nat.beq j i
def Q8 (w:World) (v:Value) (H:Nat->Bool) (b:Nat):Prop:=root v=some b\/∃g n c a e i x,v= .slice (some ⟨g,0,none⟩) n c/\w.heap[g]? =some (.cells a e (0,0))/\i<n/\H i=false/\a[i]? =some x/\root x=some b
def A9 (w:World) (v:Value):LC->Nat->Prop
 | .none,_=>False
 | .box _ _,b=>root v=some b
 | .row _ _ _,b=>root v=some b
 | .map _ _ _ _ _,b=>root v=some b
 | .iter _ _ _ _ _ _,b=>root v=some b
 | .mapE _ _ _ _ _ _ _,b=>root v=some b
 | .al _,_=>False
 | .sbox _ _ _,_=>False
 | .nest _ _ _ _ a c,b=>Q8 w v (X9 a c) b
 | .itM _ _ _ _ _ _ _ _,b=>root v=some b\/∃r c s a,v= .pointer (some ⟨r,0,none⟩)/\w.heap[r]? =some (.mapIter (some b) c s a)
 | .rows _ _ _ _ _ d,b=>root v=some b\/∃g n c a e i x,v= .slice (some ⟨g,0,none⟩) n c/\w.heap[g]? =some (.cells a e (0,0))/\i<n/\Ko d i=false/\a[i]? =some x/\root x=some b
def Inn (w:World) (Z:Nat->Prop) (B:Nat->Value) (t:Ty) (e':TypeId) (ls:List (List t.den)) (al:List (Nat×Nat)) (a:Option Nat) (xs:List Value):Prop:=
 (∀p∈al,xs[p.1]? =some (B p.2))/\(∀i l x,Ko a i=false->ls[i]? =some l->xs[i]? =some x->∃b,w.ownsRow 0 e' t.size x l.length b/\G1 (C5 t w Z) b l)/\
  ∀i j x y b,i≠j->Ko a i=false->Ko a j=false->xs[i]? =some x->xs[j]? =some y->root x=some b->root y≠some b
def ItR (w:World) (Z:Nat->Prop) (f:Bool) (c:Ty) (g:Bool) (d:Ty) (r:Nat) (left:List (c.den×d.den)) (cur:Option (c.den×d.den)):Prop:=
 (w.heap[r]? =some (.mapIter none 0 #[] 0)/\left= []/\cur=none)\/
 ∃(m:Nat) (seen:Array Nat) (b:Array MapEntry) (a:Nat),w.heap[r]? =some (.mapIter (some m) a seen a)/\Z m/\w.heap[m]? =some (.map b a)/\MOk b a/\Rr w Z f c g d (leftOf b seen).toList left/\
  ∀x,cur=some x->∃e∈b.toList,(∃a:Array Nat,seen=a.push e.born)/\T6 (C5 c w Z) f e.key x.1/\T6 (C5 d w Z) g e.val x.2
def SI:(t:Ty)->TypeId->World->(Nat->Prop)->Value->t.den->Prop
 | .sl t,b,w,Z,v,l=>∃a:List Value,w.ownsRow 0 b t.size v (List.length l) a/\G1 (C5 t w Z) a l
 | .mp f g h i,_,w,Z,v,d=>∃b a c,v= .map (some b)/\w.heap[b]? =some (.map a c)/\MOk a c/\Rr w Z f g h i a.toList d
 | _,_,_,_,_,_=>False
structure kP (w:World) (Z:Nat->Prop) (B:Nat->Value) (t:Ty) (e e':TypeId) (ls:List t.den) (bo:List (Nat×Nat)) (dd:List Nat) (v:Value) (xs:List Value):Prop where
 own:w.ownsRow 0 e 1 v ls.length xs
 out:∀p∈bo,xs[p.1]? =some (B p.2)
 elt:∀i l x,X9 bo dd i=false->ls[i]? =some l->xs[i]? =some x->SI t e' w Z x l
 dis:∀i j x y b,i≠j->X9 bo dd i=false->X9 bo dd j=false->xs[i]? =some x->xs[j]? =some y->root x=some b->root y≠some b
 top:∀i x b,X9 bo dd i=false->xs[i]? =some x->root x=some b->root v≠some b
structure C4d (w:World) (Z:Nat->Prop) (ka:Bool) (kt:Ty) (va:Bool) (vt:Ty) (es left:List (kt.den×vt.den)) (cur:Option (kt.den×vt.den)) (r m:Nat) (seen:Array Nat) (ents:Array MapEntry) (clock:Nat):Prop where
 it:w.heap[r]? =some (.mapIter (some m) clock seen clock)
 mp:w.heap[m]? =some (.map ents clock)
 ok:MOk ents clock
 all:Rr w Z ka kt va vt ents.toList es
 rest:Rr w Z ka kt va vt (leftOf ents seen).toList left
 cur:∀x,cur=some x->∃e∈ents.toList,(∃seen':Array Nat,seen=seen'.push e.born)/\T6 (C5 kt w Z) ka e.key x.1/\T6 (C5 vt w Z) va e.val x.2
def RL (U:Nat->Prop) (w:World) (Z:Nat->Prop) (B:Nat->Value) (k:Nat):LC->Prop
 | .none=>True
 | .box d c=>∃b a,B k= .pointer (some ⟨b,0,none⟩)/\U b/\¬Z b/\NN w b a d/\Dw w Z B c a.toList
 | .row t e l=>∃a,w.ownsRow 0 e t.size (B k) l.length a/\G1 (C5 t w Z) a l/\∀b,(B k).ownBlock=some b->U b/\¬Z b
 | .map f g h i d=>∃b a c,B k= .map (some b)/\U b/\¬Z b/\w.heap[b]? =some (.map a c)/\MOk a c/\Rr w Z f g h i a.toList d
 | .al _=>True
 | .sbox q t x=>q=k/\C5 (.ptr t) w Z [B q] x/\∃b,B q= .pointer (some ⟨b,0,none⟩)
 | .mapE f g h i d j q=>∃b a c,B k= .map (some b)/\U b/\¬Z b/\w.heap[b]? =some (.map a c)/\(MOk a c/\Rr w Z f g h i a.toList d)/\∃e:MapEntry,a.toList[j]? =some e/\B q= .int .i64 e.born
 | .iter b c d f left a=>∃r,B k= .pointer (some ⟨r,0,none⟩)/\U r/\¬Z r/\ItR w Z b c d f r left a
 | .nest t e d f a c=>∃g,kP w Z B t e d f a c (B k) g/\∀b,Q8 w (B k) (X9 a c) b->U b/\¬Z b/\b<w.heap.size
 | .itM f g h i d left b q=>∃r m seen c a,B k= .pointer (some ⟨r,0,none⟩)/\B q= .map (some m)/\C4d w Z f g h i d left b r m seen c a/\U r/\¬Z r/\U m/\¬Z m
 | .rows t e f c al a=>∃d,w.ownsRow 0 e 1 (B k) c.length d/\Inn w Z B t f c al a d/\(∀i x b,Ko a i=false->d[i]? =some x->root x=some b->root (B k)≠some b)/\∀b,A9 w (B k) (.rows t e f c al a) b->U b/\¬Z b/\b<w.heap.size
def live:LC->Prop
 | .none=>False
 | .al _=>False
 | .sbox _ _ _=>False
 | _=>True
def Cr (n:Nat):C->Prop
 | .row k=>k<n
 | .box k _=>k<n
 | .elp k _ _ _=>k<n
 | .win k _ _ _=>k<n
 | .mp k=>k<n
 | .fn _ a=>∀k∈a,k<n
 | _=>True
def Lx (n:Nat) (s:SV):Prop:=∀c∈s.cs,Cr n c
def Oo (n:Nat):DV->Prop
 | .one s=>Lx n s
 | .tup a=>∀s∈a,Lx n s
 | .cnd _ _ s=>Lx n s
 | .dead=>True
def Lw (n:Nat):LC->Prop
 | .box _ a=>∀c∈a,Cr n c
 | .rows _ _ _ _ al _=>∀p∈al,p.2<n
 | .mapE _ _ _ _ _ _ q=>q<n
 | .sbox q _ _=>q<n
 | .nest _ _ _ _ a _=>∀p∈a,p.2<n
 | .itM _ _ _ _ _ _ _ q=>q<n
 | _=>True
structure Zn where
 z:Nat->Prop
 m:Nat->Prop
 n:Nat
 v:Nat->Value
 k0:Nat:=0
 b0:Nat:=0
 f:Nat->Nat->Prop
 fm:∀k b,f k b->m b
 es:List G2:= []
def RF (w:World) (Z:Nat->Prop) (B:Nat->Value):List G2->List (List (Nat×Nat×DV))->Prop
 | [],[]=>True
 |E::a,f::b=>(∀s,RD w Z B E (find (0, .dead) s f).2 (E s))/\RF w Z B a b
 | _,_=>False
def kR (n:Nat) (fr:List (List (Nat×Nat×DV))):Prop:=∀f∈fr,∀s,Oo n (find (0, .dead) s f).2
structure Ir (m:Nat->Prop) (w w':World):Prop where
 os:w'.os=w.os
 tape:w'.tape=w.tape
 output:w'.output=w.output
 size:w.heap.size<=w'.heap.size
 block:∀k,k<w.heap.size->¬m k->w'.heap[k]? =w.heap[k]?
 drw:True
def Ir.of {m:Nat->Prop} {w w':World} (h:R8 w w'):Ir m w w':=⟨h.os,h.tape,h.output,h.size,fun k a _=>h.block k a,h.drw⟩
def Ir.ext {m:Nat->Prop} {w w':World} (h:Ir m w w') (c:∀b,¬m b):R8 w w':=⟨⟨h.os,h.tape,h.output,h.size,fun k a=>h.block k a (c k)⟩,h.drw⟩
def Ir.trans {m:Nat->Prop} {a b c:World} (h:Ir m a b) (k:R8 b c):Ir m a c:=⟨k.os.trans h.os,k.tape.trans h.tape,k.output.trans h.output,qX h.size k.size,fun i d f=>(k.block i (rC d h.size)).trans (h.block i d f),trivial⟩
def Ir.chg {m:Nat->Prop} {d w w':World} {b:Nat} (h:Ir m d w) (a:aS b w w') (c:d.heap.size<=b\/m b):Ir m d w':=
 ⟨a.1.trans h.os,a.2.1.trans h.tape,a.2.2.1.1.trans h.output,by rw[a.2.2.2.1];exact h.size,fun k d f=>(a.2.2.2.2 k (fun e=>by subst e;rcases c with c|c;exact absurd d (by omega);exact f c)).trans (h.block k d f),trivial⟩
def Ir.grown {m:Nat->Prop} {d w w':World} {row:Option Nat} (h:Ir m d w) (a:w.grownBy w' row) (f:w.drawn<=w'.drawn) (c:∀b,row=some b->d.heap.size<=b\/m b):Ir m d w':=
 ⟨a.os.trans h.os,a.tape.trans h.tape,a.output.trans h.output,qX h.size a.size,fun k d f=>(a.block k (rC d h.size) (fun e=>by rcases c k e.symm with c|c;exact absurd d (by omega);exact f c)).trans (h.block k d f),trivial⟩
def up (a:Zn) (c:World) (k:Nat):Nat->Prop:=fun b=>(a.n<=k/\c.heap.size<=b)\/(k<a.n/\a.f k b)
def up.m {a:Zn} {c:World} {k b:Nat} (h:up a c k b):c.heap.size<=b\/a.m b:=h.imp And.right fun h=>a.fm k b h.2
structure B7 (za:Zn) (w0:World) (st:St) (E:G2) (w:World) (Z:Nat->Prop) (B:Nat->Value):Prop where
 ext:Ir za.m w0 w
 zlt:∀b,Z b->b<w.heap.size
 slots:∀s,RD w Z B E (st.S s) (E s)
 locs:∀k,RL (up za w0 k) w Z B k (st.L k)
 disj:∀k k' b,k≠k'->A9 w (B k) (st.L k) b->¬A9 w (B k') (st.L k') b
 refs:∀s,Oo st.nx (st.S s)
 refl:∀k,Lw st.nx (st.L k)
 fresh:∀k,st.nx<=k->st.L k= .none
 bone:∀k,(B k).oneCell'=true
 zin:∀b,Z b->za.z b\/w0.heap.size<=b
 nms:st.nm=za.n/\za.n<=st.nx
 bfix:∀k,k<za.n->B k=za.v k
 mrk:za.b0<=w.heap.size/\∀k b,za.k0<=k->A9 w (B k) (st.L k) b->za.b0<=b
 frs:RF w Z B za.es st.fr
 frf:kR st.nx st.fr
section mono
variable {w w':World} {Z Z':Nat->Prop} {B B':Nat->Value} {n:Nat}
def RC.mono (d:∀b,Z b->Z' b) (f:O5 Z w w') (a:∀k,k<n->B' k=B k):∀ {c:C} {v:Value},Cr n c->RC w Z B c v->RC w' Z' B' c v
 | .val _ _,_,_,h=>C5.mono d f h
 | .row k,_,g,h=>h.trans (a k g).symm
 | .box k i,_,g,⟨b,e,h⟩=>⟨b,(a k g).trans e,h⟩
 | .elp k sz j l,_,i,⟨b,m,g,e,h⟩=>⟨b,m,g,(a k i).trans e,h⟩
 | .win k sz o l,_,j,⟨g,m,h,e,i⟩=>⟨g,m,h,(a k j).trans e,i⟩
 | .pf t x l,_,_,⟨b,o,h,e,g,j,i⟩=>⟨b,o,h,e,d b g,Zv j g f,C5.mono d f i⟩
 | .mp k,_,g,h=>h.trans (a k g).symm
 | .fn j g,_,i,h=>by
  show _= _;rw[show _= _ from h];congr 2;exact g3o fun k g=>(a k (i k g)).symm
 | .fv P as j r i l,_,_,⟨g,a,e,s,h⟩=>⟨g,a,e,s,fun u Z2 t x i j l o r=>(h u Z2 t x (fun b a=>(i b (d b a)).trans (f b a)) (fun b a=>j b (d b a)) l o r).mono fun u g ⟨f,Zn,g2,g3⟩=>⟨f,Zn,fun b a=>(g2 b a).imp id (Or.imp (d b) id),g3⟩⟩
 | .raw _,_,_,h=>h
 | .dead,_,_,_=>trivial
def Dw.mono (g:∀b,Z b->Z' b) (f:O5 Z w w') (a:∀k,k<n->B' k=B k):∀ {cs:List C} {vs:List Value},(∀c∈cs,Cr n c)->Dw w Z B cs vs->Dw w' Z' B' cs vs
 | [],_,_,h=>h
 |c::cs,_,d,⟨v,l,e,h,i⟩=>⟨v,l,e,RC.mono g f a (d c (by simp)) h,Dw.mono g f a (fun c j=>d c (by simp[j])) i⟩
def RS.mono (d:∀b,Z b->Z' b) (c:O5 Z w w') (a:∀k,k<n->B' k=B k):∀ {s:SV} {v:Value},Lx n s->RS w Z B s v->RS w' Z' B' s v
 | ⟨true,cs⟩,_,f,⟨g,e,h⟩=>⟨g,e,Dw.mono d c a f h⟩
 | ⟨false,cs⟩,_,f,h=>Dw.mono (cs:=cs) d c a f h
def Rp.mono (g:∀b,Z b->Z' b) (f:O5 Z w w') (a:∀k,k<n->B' k=B k):∀ {cs:List SV} {vs:List Value},(∀c∈cs,Lx n c)->Rp w Z B cs vs->Rp w' Z' B' cs vs
 | [],_,_,h=>h
 |c::cs,_,d,⟨v,l,e,h,i⟩=>⟨v,l,e,RS.mono g f a (d c (by simp)) h,Rp.mono g f a (fun c j=>d c (by simp[j])) i⟩
def RD.mono {E:G2} (f:∀b,Z b->Z' b) (c:O5 Z w w') (a:∀k,k<n->B' k=B k):∀ {d:DV} {v:Value},Oo n d->RD w Z B E d v->RD w' Z' B' E d v
 | .one _,_,g,h=>RS.mono f c a g h
 | .tup _,_,g,⟨i,e,h⟩=>⟨i,e,Rp.mono f c a g h⟩
 | .cnd _ _ _,_,i,h=>h.imp (fun⟨g,b⟩=>⟨g,RS.mono f c a i b⟩) id
 | .dead,_,_,_=>trivial
def RF.mono (f:∀b,Z b->Z' b) (d:O5 Z w w') (a:∀k,k<n->B' k=B k):∀ {es:List G2} {fr:List (List (Nat×Nat×DV))},kR n fr->RF w Z B es fr->RF w' Z' B' es fr
 | [],[],_,_=>trivial
 |E::es,g::h,c,⟨i,j⟩=>⟨fun s=>RD.mono f d a (c g (by simp) s) (i s),RF.mono f d a (fun h l=>c h (by simp[l])) j⟩
 | [],_:: _,_,h=>h.elim
 | _:: _,[],_,h=>h.elim
def Bj.mono {a:Bool} {t:Ty} {v:Value} {x:t.den} (d:∀b,Z b->Z' b) (c:O5 Z w w') (h:Bj a t w Z v x):Bj a t w' Z' v x:=T6.mono (fun _ _=>C5.mono d c) h
def UT.mono (c:∀b,Z b->Z' b) (a:O5 Z w w'):∀ {as:List (Bool×Ty)} {vs:List Value} {x:Y8 as},UT w Z as vs x->UT w' Z' as vs x
 | [],_,_,h=>h
 | _:: _,_,_,⟨v,g,e,d,f⟩=>⟨v,g,e,d.mono c a,UT.mono c a f⟩
def Rr.mono {g i:Bool} {a c:Ty} (f:∀b,Z b->Z' b) (d:O5 Z w w') {l:List (a.den×c.den)} {es:List MapEntry} (h:Rr w Z g a i c es l):Rr w' Z' g a i c es l:=
 R7.mono (fun _ _ h=>h.mono fun _ _=>C5.mono f d) (fun _ _ h=>h.mono fun _ _=>C5.mono f d) h
def A9.live {v:Value} {l:LC} {b:Nat} (h:A9 w v l b):Vc.live l:=by cases l<;>first|exact h.elim|trivial
def A9.of {v:Value} {l:LC} {b:Nat} (a:Vc.live l) (h:Vc.root v=some b):A9 w v l b:=by
 cases l<;>first|exact a.elim|exact h|exact .inl h
def Q8.iff {v:Value} {H:Nat->Bool} {b:Nat} (h:∀b,root v=some b->w'.heap[b]? =w.heap[b]?):Q8 w' v H b↔Q8 w v H b:=by
 refine g3k yN ⟨fun⟨g,n,cap,cur,e,i,x,hv,hg,r⟩=>⟨g,n,cap,cur,e,i,x,hv, ?_,r⟩,fun⟨g,n,cap,cur,e,i,x,hv,hg,r⟩=>⟨g,n,cap,cur,e,i,x,hv, ?_,r⟩⟩
 . rw[<-h g (by rw[hv];rfl)];exact hg
 . rw[h g (by rw[hv];rfl)];exact hg
def A9.iff {v:Value} {l:LC} {b:Nat} (h:∀b,A9 w v l b->w'.heap[b]? =w.heap[b]?):A9 w' v l b↔A9 w v l b:=by
 cases l with
 |rows t e a f al d=>
  refine g3k yN ⟨fun⟨g,n,cap,a,e,i,x,hv,hg,r⟩=>⟨g,n,cap,a,e,i,x,hv, ?_,r⟩,fun⟨g,n,cap,a,e,i,x,hv,hg,r⟩=>⟨g,n,cap,a,e,i,x,hv, ?_,r⟩⟩
  . rw[<-h g (.inl (by rw[hv];rfl))];exact hg
  . rw[h g (.inl (by rw[hv];rfl))];exact hg
 |nest t e f g a d=>exact Q8.iff fun b a=>h b (.inl a)
 |itM f g j k d left a q=>
  refine g3k yN ⟨fun⟨r,c,s,c2,hv,hg⟩=>⟨r,c,s,c2,hv, ?_⟩,fun⟨r,c,s,c2,hv,hg⟩=>⟨r,c,s,c2,hv, ?_⟩⟩
  . rw[<-h r (.inl (by rw[hv];rfl))];exact hg
  . rw[h r (.inl (by rw[hv];rfl))];exact hg
 | _=>exact yN
def RL.root {U:Nat->Prop} {k:Nat} {l:LC} (h:RL U w Z B k l) {b:Nat} (a:A9 w (B k) l b):U b/\b<w.heap.size/\¬Z b:=by
 cases l with
 |none=>exact a.elim
 |al _=>exact a.elim
 |sbox _ _ _=>exact a.elim
 |mapE d f g i c j q=>
  obtain⟨g,j,i,e,c,d,f,_⟩:=h;have a:Vc.root (B k)=some b:=a;rw[e]at a;simp[Vc.root]at a;subst a;exact⟨c,(rV.1 f).1,d⟩
 |iter d f g i left c=>
  obtain⟨r,e,d,f,c⟩:=h;have a:Vc.root (B k)=some b:=a;rw[e]at a;simp[Vc.root]at a;subst a;refine⟨d, ?_,f⟩;rcases c with⟨c,_⟩ | ⟨_,_,_,_,c,_⟩<;>exact(rV.1 c).1
 |box d c=>
  obtain⟨g,i,e,c,d,f,_⟩:=h;have a:Vc.root (B k)=some b:=a;rw[e]at a;simp[Vc.root]at a;subst a;exact⟨c,f.lt,d⟩
 |row t e l=>
  obtain⟨d,f,c,g⟩:=h;have a:Vc.root (B k)=some b:=a;have c:(B k).ownBlock=some b:=by
   rcases f.2 with⟨d,_⟩ | ⟨n,i,j,d,_⟩
   . rw[d]at a;simp[Vc.root]at a
   . rw[d]at a⊢;simpa[Vc.root,Value.ownBlock]using a
  have:=World.ownsRow.lt f b c;exact⟨(g b c).1,this.2,(g b c).2⟩
 |map d f g i c=>
  obtain⟨g,j,i,e,c,d,f,_⟩:=h;have a:Vc.root (B k)=some b:=a;rw[e]at a;simp[Vc.root]at a;subst a;exact⟨c,(rV.1 f).1,d⟩
 |rows t e c f al d=>
  obtain⟨d,_,_,_,c⟩:=h;exact⟨(c b a).1,(c b a).2.2,(c b a).2.1⟩
 |nest t e f g c d=>
  obtain⟨d,_,c⟩:=h;exact⟨(c b a).1,(c b a).2.2,(c b a).2.1⟩
 |itM f g i j d left c q=>
  obtain⟨s,m,seen,r,f,d,g,c,i,j,n,o⟩:=h;rcases a with a| ⟨t,r,u,s,g,f⟩
  . rw[d]at a;simp[Vc.root]at a;subst a;exact⟨i,(rV.1 c.it).1,j⟩
  . rw[d]at g;cases g;rw[c.it]at f;cases f;exact⟨n,(rV.1 c.mp).1,o⟩
def F5 {a e sz m:Nat} {v:Value} {xs:List Value} (h:w.ownsRow a e sz v m xs):root v=v.ownBlock:=by
 rcases h.2 with⟨a,_⟩ | ⟨g,b,c,a,_⟩<;>rw[a]<;>rfl
def Hf {a e sz m:Nat} {v:Value} {xs:List Value} (h:w.ownsRow a e sz v m xs) (k:∀b,v.ownBlock=some b->w'.heap[b]? =w.heap[b]?):w'.ownsRow a e sz v m xs:=by
 refine⟨h.1, ?_⟩;rcases h.2 with h| ⟨g,c,d,a,f,i,j⟩
 . exact .inl h
 . exact .inr ⟨g,c,d,a,f,by rw[k g (by rw[a];rfl)];exact i,j⟩
def Q8.own {d e n:Nat} {v:Value} {xs:List Value} {H:Nat->Bool} (c:w.ownsRow d e 1 v n xs) {i b:Nat} {x:Value} (l:H i=false) (a:xs[i]? =some x) (j:Vc.root x=some b):Q8 w v H b:=by
 refine .inr ?_;rcases c.2 with⟨d,o⟩ | ⟨h,f,g,d,_,k,s,_,t,r⟩
 . have:=c.1;rw[o]at this;have o:xs= []:=qR (by omega);rw[o]at a;cases a
 . have o:i<n:=by have:=(rU.1 a).1;have s:=c.1;omega
   refine⟨h,_,f,g,e,i,x,d,k,o,l, ?_,j⟩;rw[<-r,rT (by omega)]at a;simpa using a
def Q8.cases {base e n:Nat} {v:Value} {xs:List Value} {H:Nat->Bool} (h1:w.ownsRow base e 1 v n xs) {b:Nat} (hf:Q8 w v H b):Vc.root v=some b\/∃(i:Nat) (x:Value),H i=false/\xs[i]? =some x/\Vc.root x=some b:=by
 rcases hf with a| ⟨l,m,g,j,k,i,x,d,f,o,c,h,a⟩
 . exact .inl a
 . refine .inr ⟨i,x,c, ?_,a⟩;rcases h1.2 with⟨a,_⟩ | ⟨l,j,k,a,_,c,o,_,r,g⟩
   . rw[d]at a;cases a
   . rw[d]at a;cases a;rw[f]at c;cases c;rw[<-g,rT (by omega)];simpa using h
def SI.mono (d:∀b,Z b->Z' b) (c:O5 Z w w'):∀ {t:Ty} {e':TypeId} {v:Value} {x:t.den},(∀b,Vc.root v=some b->w'.heap[b]? =w.heap[b]?)->SI t e' w Z v x->SI t e' w' Z' v x
 | .sl t,_,_,_,g,⟨i,a,f⟩=>⟨i,Hf a (fun b h=>g b ((F5 a).trans h)),f.mono fun _ _=>C5.mono d c⟩
 | .mp k l n o,_,_,_,j,⟨b,f,a,e,g,h,i⟩=>⟨b,f,a,e,by rw[j b (by rw[e];rfl)];exact g,h,i.mono d c⟩
 | .int _,_,_,_,_,h=>h.elim
 | .bool,_,_,_,_,h=>h.elim
 | .str,_,_,_,_,h=>h.elim
 | .unit,_,_,_,_,h=>h.elim
 | .pair _ _,_,_,_,_,h=>h.elim
 | .ptr _,_,_,_,_,h=>h.elim
def RL.mono {U:Nat->Prop} {k:Nat} {l:LC} (d:∀b,Z b->Z' b) (c:O5 Z w w') (s:∀k,k<n->B' k=B k) (g:live l->B' k=B k) (a:∀b,A9 w (B k) l b->w'.heap[b]? =w.heap[b]?) (i:∀b,A9 w (B k) l b->¬Z' b) (t:Lw n l) (h:RL U w Z B k l):RL U w' Z' B' k l:=by
 cases l with
 |none=>trivial
 |al _=>trivial
 |sbox q f x=>
  obtain⟨j,o,b,r⟩:=h;have f:B' q=B q:=s q t;refine⟨j, ?_,b,f.trans r⟩;rw[f];exact C5.mono d c o
 |mapE o r u v f j q=>
  obtain⟨b,r,j,e,u,f,v,⟨A,x⟩,o,y,z⟩:=h;have f:Vc.root (B k)=some b:=by rw[e];rfl
  exact⟨b,r,j,(g trivial).trans e,u,i b f,by rw[a b f];exact v,⟨A,x.mono d c⟩,o,y,(s q t).trans z⟩
 |iter j o r u left f=>
  obtain⟨r,e,o,j,f⟩:=h;have j:Vc.root (B k)=some r:=by rw[e];rfl
  refine⟨r,(g trivial).trans e,o,i r j, ?_⟩;have o:=a r j;rcases f with⟨f,j⟩ | ⟨m,seen,u,r,f,j,v,x,y,z⟩
  . exact .inl ⟨o.trans f,j⟩
  . exact .inr ⟨m,seen,u,r,o.trans f,d m j,(c m j).trans v,x,y.mono d c,fun D A=>(z D A).imp fun e f=>⟨f.1,f.2.1,f.2.2.1.mono fun _ _=>C5.mono d c,f.2.2.2.mono fun _ _=>C5.mono d c⟩⟩
 |box j f=>
  obtain⟨b,u,e,j,f,o,r⟩:=h;have f:Vc.root (B k)=some b:=by rw[e];rfl
  refine⟨b,u,(g trivial).trans e,j,i b f, ?_,Dw.mono d c s t r⟩;unfold NN;rw[a b f];exact o
 |row f e l=>
  obtain⟨u,j,f,r⟩:=h;have o:=F5 j;refine⟨u, ?_,f.mono fun _ _=>C5.mono d c,fun b f=> ?_⟩
  . rw[g trivial];exact Hf j fun b f=>a b (o.trans f)
  . rw[g trivial]at f;exact⟨(r b f).1,i b (o.trans f)⟩
 |map j o r u f=>
  obtain⟨b,o,j,e,r,f,u,x,v⟩:=h;have f:Vc.root (B k)=some b:=by rw[e];rfl
  exact⟨b,o,j,(g trivial).trans e,r,i b f,by rw[a b f];exact u,x,v.mono d c⟩
 |rows u e j A al f=>
  have M:=fun b=>A9.iff (b:=b) a
  obtain⟨v,r,⟨G,H,I⟩,y,J⟩:=h;have o:=F5 r;have P:∀o x b,Ko f o=false->v[o]? =some x->Vc.root x=some b->A9 w (B k) (.rows u e j A al f) b:=fun o x b u j f=>by
   refine .inr ?_;rcases r.2 with⟨z,O⟩ | ⟨F,D,E,z,_,N,R,_,T,Q⟩
   . have:=r.1;rw[O]at this;have O:v= []:=qR (by omega);rw[O]at j;cases j
   . have O:o<A.length:=by have:=(rU.1 j).1;have A:=r.1;omega
     refine⟨F,_,D,E,e,o,x,z,N,O,u, ?_,f⟩;rw[<-Q,rT (by omega)]at j;simpa using j
  rw[<-g trivial]at r y;refine⟨v,Hf r fun b f=>a b (.inl (by rw[<-g trivial];exact(F5 r).trans f)),⟨fun p v=>(G p v).trans (by rw[s _ (t p v)]),fun o l x u z j=> ?_,I⟩,y,fun b f=> ?_⟩
  . obtain⟨y,r,v⟩:=H o l x u z j;exact⟨y,Hf r fun b f=>a b (P o x b u j ((F5 r).trans f)),v.mono fun _ _=>C5.mono d c⟩
  . rw[g trivial]at f;have f:=(M b).1 f;obtain⟨r,_,j⟩:=J b f;refine⟨r,i b f, ?_⟩;have:=a b f;rw[tZ j]at this;exact(rV.1 this).1
 |nest y e v x o r=>
  obtain⟨u,j,z⟩:=h;have A:=g trivial;have D:∀b,Q8 w' (B k) (X9 o r) b↔Q8 w (B k) (X9 o r) b:=fun b=>Q8.iff fun b f=>a b (.inl f)
  rw[show RL U w' Z' B' k (.nest y e v x o r)=∃u,kP w' Z' B' y e v x o r (B k) u/\∀b,Q8 w' (B k) (X9 o r) b->U b/\¬Z' b/\b<w'.heap.size from by rw[<-A];rfl];refine⟨u,⟨Hf j.own fun b f=>a b (.inl ((F5 j.own).trans f)),fun p r=>(j.out p r).trans (by rw[s _ (t p r)]),fun x l y o v u=> ?_,j.dis,j.top⟩,fun b f=> ?_⟩
  . exact(j.elt x l y o v u).mono d c fun b f=>a b (Q8.own j.own o u f)
  . have f:=(D b).1 f;obtain⟨j,_,o⟩:=z b f;refine⟨j,i b f, ?_⟩;have:=a b f;rw[tZ o]at this;exact(rV.1 this).1
 |itM y z A D u left o q=>
  obtain⟨r,m,seen,G,E,j,F,f,H,v,I,x⟩:=h;have v:A9 w (B k) (.itM y z A D u left o q) r:= .inl (by rw[j];rfl);have x:A9 w (B k) (.itM y z A D u left o q) m:= .inr ⟨r,_,_,_,j,f.it⟩;exact⟨r,m,seen,G,E,(g trivial).trans j,(s q t).trans F,⟨(a r v).trans f.it,(a m x).trans f.mp,f.ok,f.all.mono d c,f.rest.mono d c,fun u o=>(f.cur u o).imp fun e a=>⟨a.1,a.2.1,a.2.2.1.mono fun _ _=>C5.mono d c,a.2.2.2.mono fun _ _=>C5.mono d c⟩⟩,H,i r v,I,i m x⟩
def Cr.le {m:Nat} (a:n<=m):∀ {c:C},Cr n c->Cr m c
 | .val _ _,h=>h
 | .row _,h=>rC h a
 | .box _ _,h=>rC h a
 | .elp _ _ _ _,h=>rC h a
 | .win _ _ _ _,h=>rC h a
 | .pf _ _ _,h=>h
 | .mp _,h=>rC h a
 | .fn _ _,h=>fun k b=>rC (h k b) a
 | .fv _ _ _ _ _ _,h=>h
 | .raw _,h=>h
 | .dead,h=>h
def Oo.le {m:Nat} (a:n<=m):∀ {d:DV},Oo n d->Oo m d
 | .one _,h=>fun c b=>(h c b).le a
 | .tup _,h=>fun s f c b=>(h s f c b).le a
 | .cnd _ _ _,h=>fun c b=>(h c b).le a
 | .dead,h=>h
def Lw.le {m:Nat} (a:n<=m):∀ {d:LC},Lw n d->Lw m d
 | .none,h=>h
 | .box _ _,h=>fun c b=>(h c b).le a
 | .row _ _ _,h=>h
 | .map _ _ _ _ _,h=>h
 | .al _,h=>h
 | .sbox _ _ _,h=>rC h a
 | .iter _ _ _ _ _ _,h=>h
 | .mapE _ _ _ _ _ _ _,h=>rC h a
 | .rows _ _ _ _ _ _,h=>fun p b=>rC (h p b) a
 | .nest _ _ _ _ _ _,h=>fun p b=>rC (h p b) a
 | .itM _ _ _ _ _ _ _ _,h=>rC h a
def kR.le {n m:Nat} {fr:List (List (Nat×Nat×DV))} (h:kR n fr) (b:n<=m):kR m fr:=fun f a s=>(h f a s).le b
def RD.upd {E:G2} {d:Nat} {u:Value} :∀ {x:DV} {v:Value},Mo d x=false->RD w Z B E x v->RD w Z B (upd E d u) x v
 | .one _,_,_,h=>h
 | .tup _,_,_,h=>h
 | .cnd t b s,v,a,h=>by
  have b:t≠d:=vA a;show(Gw.upd E d u t= _ /\ _)\/(Gw.upd E d u t≠ _ /\ _);rw[C4 _ _ _ _ b];exact h
 | .dead,_,_,_=>trivial
end mono
section steps
variable {za:Zn} {w0 w w':World} {Z Z':Nat->Prop} {B:Nat->Value} {st:St} {E:G2}
def B7.setS (h:B7 za w0 st E w Z B) (d:Nat) {x:DV} {v:Value} (b:RD w Z B (upd E d v) x v) (c:Oo st.nx x):B7 za w0 (st.setS d x) (upd E d v) w Z B:=by
 refine⟨h.ext,h.zlt,fun s=> ?_,h.locs,h.disj,fun s=> ?_,h.refl,h.fresh,h.bone,h.zin,h.nms,h.bfix,h.mrk,h.frs,h.frf⟩
 . rw[St.S_setS];by_cases a:s=d
   . subst a;simp only[xS,C3];exact b
   . rw[qK a,C4 _ _ _ _ a];cases b:Mo d (st.S s)with
     |true=>trivial
     |false=>exact RD.upd b (h.slots s)
 . rw[St.S_setS];by_cases a:s=d
   . rw[qQ a];exact c
   . rw[qK a];cases b:Mo d (st.S s)with
     |true=>trivial
     |false=>exact h.refs s
def B7.keep (h:B7 za w0 st E w Z B) (a:Ir za.m w0 w') (n:w.heap.size<=w'.heap.size) (f:∀b,(Z b\/∃k,A9 w (B k) (st.L k) b)->w'.heap[b]? =w.heap[b]?)
 (j:∀b,Z b->Z' b) (l:∀b,Z' b->Z b\/(b<w'.heap.size/\w0.heap.size<=b/\∀k,¬A9 w (B k) (st.L k) b)):B7 za w0 st E w' Z' B:=by
 have i:O5 Z w w':=fun b c=>f b (.inl c)
 have g:∀k b,A9 w' (B k) (st.L k) b↔A9 w (B k) (st.L k) b:=fun k b=>A9.iff fun b d=>f b (.inr ⟨k,d⟩)
 refine⟨a,fun b c=> ?_,fun s=>(h.slots s).mono j i (fun _ _=>rfl) (h.refs s),fun k=> ?_,fun k o b s a r=>h.disj k o b s ((g k b).1 a) ((g o b).1 r),h.refs,h.refl,h.fresh,h.bone,fun b c=> ?_,h.nms,h.bfix,⟨qX h.mrk.1 n,fun k b o d=>h.mrk.2 k b o ((g k b).1 d)⟩,h.frs.mono j i (fun _ _=>rfl) h.frf,h.frf⟩
 . rcases l b c with a|a
   . exact rC (h.zlt b a) n
   . exact a.1
 . refine(h.locs k).mono j i (fun _ _=>rfl) (fun _=>rfl) (fun b d=>f b (.inr ⟨k,d⟩)) (fun b d c=> ?_) (h.refl k);rcases l b c with a|a
   . exact((h.locs k).root d).2.2 a
   . exact a.2.2 k d
 . rcases l b c with a|a
   . exact h.zin b a
   . exact .inr a.2.1
def B7.ft (h:B7 za w0 st E w Z B) (f:R8 w w') {k b:Nat} (d:A9 w' (B k) (st.L k) b):A9 w (B k) (st.L k) b:=(A9.iff fun c a=>f.block c ((h.locs k).root a).2.1).1 d
def B7.more (h:B7 za w0 st E w Z B) (c:R8 w w') (d:∀b,Z b->Z' b) (f:∀b,Z' b->Z b\/(w.heap.size<=b/\b<w'.heap.size)):B7 za w0 st E w' Z' B:=by
 refine h.keep (h.ext.trans c) c.size (fun b a=>c.block b ?_) d (fun b a=> ?_)
 . rcases a with a| ⟨k,d⟩
   . exact h.zlt b a
   . exact((h.locs k).root d).2.1
 . rcases f b a with c|c
   . exact .inl c
   . exact .inr ⟨c.2,qX h.ext.size c.1,fun k d=>by have:=((h.locs k).root d).2.1;omega⟩
def B7.new (h:B7 za w0 st E w Z B) {v:Value} {lc:LC} (f:RL (up za w0 st.nx) w Z (upd B st.nx v) st.nx lc) (o:∀k b,A9 w v lc b->¬A9 w (B k) (st.L k) b) (u:Lw (st.nx+1) lc) (x:v.oneCell'=true) (t:∀b,za.k0<=st.nx->A9 w v lc b->za.b0<=b):
 B7 za w0 (st.newL lc) E w Z (upd B st.nx v):=by
 have d:∀k,k<st.nx->(upd B st.nx v) k=B k:=fun k a=>C4 _ _ _ _ (tT a)
 have l:(upd B st.nx v) st.nx=v:=C3 _ _ _;have j:∀k,live (st.L k)->k<st.nx:=fun k a=>by
  by_cases c:k<st.nx
  . exact c
  . rw[h.fresh k (by omega)]at a;exact a.elim
 have c:O5 Z w w:=fun _ _=>rfl
 refine⟨h.ext,h.zlt,fun s=>(h.slots s).mono (fun _=>id) c d (h.refs s),fun k=> ?_, ?_,fun s=>(h.refs s).le (uY _),fun k=> ?_,fun k a=> ?_,fun k=> ?_,h.zin,⟨h.nms.1,yR h.nms.2⟩,fun k a=>(d k (rC a h.nms.2)).trans (h.bfix k a),⟨h.mrk.1,fun k b a f=> ?_⟩,h.frs.mono (fun _=>id) c d h.frf,h.frf.le (uY _)⟩
 . rw[St.L_newL];by_cases a:k=st.nx
   . subst a;rw[qQ rfl];exact f
   . rw[qK a];exact(h.locs k).mono (fun _=>id) c d (fun g=>d k (j k g)) (fun _ _=>rfl) (fun b c g=>((h.locs k).root c).2.2 g) (h.refl k)
 . intro k i b r g c;rw[St.L_newL]at g c;by_cases a:k=st.nx
   . subst a;rw[qK (Ne.symm r)]at c;rw[qQ rfl,l]at g;rw[d i (j i c.live)]at c;exact o i b g c
   . rw[qK a]at g;rw[d k (j k g.live)]at g;by_cases n:i=st.nx
     . subst n;rw[qQ rfl,l]at c;exact o k b c g
     . rw[qK n]at c;rw[d i (j i c.live)]at c;exact h.disj k i b r g c
 . rw[St.L_newL];by_cases a:k=st.nx
   . rw[qQ a];exact u
   . rw[qK a];exact(h.refl k).le (uY _)
 . rw[St.L_newL];have n:st.nx+1<=k:=a;rw[qK (by omega)];exact h.fresh k (by omega)
 . by_cases a:k=st.nx
   . rw[a,l];exact x
   . rw[C4 _ _ _ _ a];exact h.bone k
 . rw[St.L_newL]at f;by_cases c:k=st.nx
   . subst c;rw[qQ rfl,l]at f;exact t b a f
   . rw[qK c]at f;rw[d k (j k f.live)]at f;exact h.mrk.2 k b a f
def B7.drop (h:B7 za w0 st E w Z B) (k:Nat):B7 za w0 (st.setL k .none) E w Z B:=by
 refine⟨h.ext,h.zlt,h.slots,fun q=> ?_,fun q j d g a b=> ?_,h.refs,fun q=> ?_,fun q i=> ?_,h.bone,h.zin,h.nms,h.bfix,⟨h.mrk.1,fun q d f c=>(by rw[St.L_setL]at c;split at c;exact c.elim;exact h.mrk.2 q d f c)⟩,h.frs,h.frf⟩
 . rw[St.L_setL];split
   . trivial
   . exact h.locs q
 . rw[St.L_setL]at a b;split at a
   . exact a.elim
   . split at b
     . exact b.elim
     . exact h.disj q j d g a b
 . rw[St.L_setL];split
   . trivial
   . exact h.refl q
 . rw[St.L_setL];split
   . rfl
   . exact h.fresh q i
def B7.chg (h:B7 za w0 st E w Z B) {k b:Nat} {lc:LC} (f:live (st.L k)) (j:A9 w (B k) (st.L k) b) (g:aS b w w') (r:RL (up za w0 k) w' Z B k lc) (s:Lw st.nx lc) (l:∀b,A9 w' (B k) lc b->root (B k)=some b\/A9 w (B k) (st.L k) b):B7 za w0 (st.setL k lc) E w' Z B:=by
 have i:=(h.locs k).root j;have l:∀b,A9 w' (B k) lc b->A9 w (B k) (st.L k) b:=fun b hh=>(l b hh).elim (A9.of f) id
 have c:B7 za w0 (st.setL k .none) E w' Z B:=by
  refine(h.drop k).keep (h.ext.chg g i.1.m) (by rw[g.2.2.2.1];exact qZ _) (fun q a=>g.2.2.2.2 q ?_) (fun _=>id) (fun _=> .inl);rintro rfl;rcases a with a| ⟨n,d⟩
  . exact i.2.2 a
  . rw[St.L_setL]at d;by_cases i:n=k
    . rw[qQ i]at d;exact d.elim
    . rw[qK i]at d;exact h.disj n k q i d j
 have i:k<st.nx:=by
  by_cases i:k<st.nx
  . exact i
  . rw[h.fresh k (by omega)]at f;exact f.elim
 have i:∀q,(st.setL k lc).L q=if q=k then lc else(st.setL k .none).L q:=fun q=>by
  rw[St.L_setL,St.L_setL];split<;>simp_all
 have n:∀q b,A9 w' (B q) ((st.setL k lc).L q) b->A9 w (B q) (st.L q) b:=fun q f a=>by
  rw[St.L_setL]at a;split at a
  . rename_i e;rw[e]at a⊢;exact l f a
  . refine(A9.iff fun l o=>g.2.2.2.2 l ?_).1 a;rintro rfl;rename_i e;exact h.disj q k l e o j
 refine⟨c.ext,c.zlt,c.slots,fun q=> ?_,fun q g f l o t=> ?_,c.refs,fun q=> ?_,fun q a=> ?_,h.bone,h.zin,h.nms,h.bfix,⟨c.mrk.1,fun q b j d=>h.mrk.2 q b j (n q b d)⟩,c.frs,c.frf⟩
 . rw[i];split
   . rename_i a;rw[a];exact r
   . exact c.locs q
 . exact h.disj q g f l (n q f o) (n g f t)
 . rw[i];split
   . exact s
   . exact c.refl q
 . rw[i,qK (by have:st.nx<=q:=a;omega)];exact c.fresh q a
def B7.relc (h:B7 za w0 st E w Z B) {k:Nat} {lc:LC} (d:live (st.L k)) (i:RL (up za w0 k) w Z B k lc) (n:Lw st.nx lc) (g:∀b,A9 w (B k) lc b->root (B k)=some b\/A9 w (B k) (st.L k) b):B7 za w0 (st.setL k lc) E w Z B:=by
 have a:k<st.nx:=by
  by_cases a:k<st.nx
  . exact a
  . rw[h.fresh k (by omega)]at d;exact d.elim
 have f:∀q b,A9 w (B q) ((st.setL k lc).L q) b->A9 w (B q) (st.L q) b:=fun q c a=>by
  rw[St.L_setL]at a;split at a
  . rename_i e;rw[e]at a⊢;exact(g c a).elim (A9.of d) id
  . exact a
 refine⟨h.ext,h.zlt,h.slots,fun q=> ?_,fun q d c l o r=> ?_,h.refs,fun q=> ?_,fun q a=> ?_,h.bone,h.zin,h.nms,h.bfix,⟨h.mrk.1,fun q b g j=>h.mrk.2 q b g (f q b j)⟩,h.frs,h.frf⟩
 . rw[St.L_setL];split
   . rename_i a;rw[a];exact i
   . exact h.locs q
 . exact h.disj q d c l (f q c o) (f d c r)
 . rw[St.L_setL];split
   . exact n
   . exact h.refl q
 . rw[St.L_setL,qK (by have:st.nx<=q:=a;omega)];exact h.fresh q a
def B7.addL (h:B7 za w0 st E w Z B) {k:Nat} {lc:LC} (a:k<st.nx) (r:RL (up za w0 k) w Z B k lc) (l:∀j b,j≠k->A9 w (B k) lc b->¬A9 w (B j) (st.L j) b) (t:Lw st.nx lc) (s:∀b,za.k0<=k->A9 w (B k) lc b->za.b0<=b):B7 za w0 (st.setL k lc) E w Z B:=by
 refine⟨h.ext,h.zlt,h.slots,fun q=> ?_,fun q i b g d c=> ?_,h.refs,fun q=> ?_,fun q a=> ?_,h.bone,h.zin,h.nms,h.bfix,⟨h.mrk.1,fun q b n f=>(by
  rw[St.L_setL]at f;by_cases o:q=k
  . subst o;rw[qQ rfl]at f;exact s b n f
  . rw[qK o]at f;exact h.mrk.2 q b n f)⟩,h.frs,h.frf⟩
 . rw[St.L_setL];split
   . rename_i a;rw[a];exact r
   . exact h.locs q
 . rw[St.L_setL]at d c;by_cases a:q=k
   . subst a;rw[qK (Ne.symm g)]at c;rw[qQ rfl]at d;exact l i b (Ne.symm g) d c
   . rw[qK a]at d;by_cases f:i=k
     . subst f;rw[qQ rfl]at c;exact l q b a c d
     . rw[qK f]at c;exact h.disj q i b g d c
 . rw[St.L_setL];split
   . exact t
   . exact h.refl q
 . rw[St.L_setL,qK (by have:st.nx<=q:=a;omega)];exact h.fresh q a
def Aa {v:Value} {t c:Ty} {e e' d j b:Nat} {ls:List (List t.den)} {k:List (List c.den)} {al f:List (Nat×Nat)} {a:Option Nat} (h:∀g,root v=some g->w'.heap[g]? =w.heap[g]?):A9 w' v (.rows c d j k f a) b↔A9 w v (.rows t e e' ls al a) b:=by
 refine g3k yN ⟨fun⟨g,n,cap,cur,e,i,x,hv,hg,r⟩=>⟨g,n,cap,cur,e,i,x,hv, ?_,r⟩,fun⟨g,n,cap,cur,e,i,x,hv,hg,r⟩=>⟨g,n,cap,cur,e,i,x,hv, ?_,r⟩⟩
 . rw[<-h g (by rw[hv];rfl)];exact hg
 . rw[h g (by rw[hv];rfl)];exact hg
def B4o {U:Nat->Prop} {t:Ty} {k e e' i q b:Nat} {ls:List (List t.den)} {al:List (Nat×Nat)} {l:List t.den} {v:List Value} (h:RL U w Z B k (.rows t e e' ls al none)) (X:(i,q)∈al) (r:root (B q)=some b) (f:aS b w w') (a0:¬Z b) (W:w'.ownsRow 0 e' t.size (B q) l.length v) (T:G1 (C5 t w' Z) v l):
 RL U w' Z B k (.rows t e e' (ls.set i l) al none)/\A9 w (B k) (.rows t e e' ls al none) b/\root (B k)≠some b:=by
 obtain⟨a3,d,⟨y,Q,z⟩,A,R⟩:=h;have c:=y _ X;have E:i<ls.length:=by have:=(rU.1 c).1;have a5:=d.1;omega
 have F:root (B k)≠some b:=A i _ b rfl c r;have G:O5 Z w w':=fun o hc'=>f.2.2.2.2 o (fun e=>a0 (e▸hc'))
 have D:∀g,root (B k)=some g->w'.heap[g]? =w.heap[g]?:=fun g a=>f.2.2.2.2 g (fun e=>F (e▸a))
 refine⟨⟨a3,by rw[qM];exact Hf d (fun g a=>D g ((F5 d).trans a)),⟨y,fun u a1 a2 _ j n=> ?_,z⟩,A,fun o V=> ?_⟩, ?_,F⟩
 . by_cases s:i=u
   . subst s;rw[tB E]at j;cases j;rw[c]at n;cases n;exact⟨v,W,T⟩
   . rw[tF s]at j;obtain⟨a4,x,P⟩:=Q u a1 a2 rfl j n;refine⟨a4,Hf x (fun g a=>f.2.2.2.2 g (fun e=> ?_)),P.mono fun _ _=>C5.mono (fun _=>id) G⟩;subst e;exact z i u _ _ g s rfl rfl c n r ((F5 x).trans a)
 . obtain⟨I,J,M⟩:=R o ((Aa D).1 V);exact⟨I,J,by rw[f.2.2.2.1];exact M⟩
 . refine .inr ?_;rcases d.2 with⟨H,a7⟩ | ⟨g,N,O,H,_,a,a6,_,G,Y⟩
   . omega
   . refine⟨g,_,N,O,e,i,_,H,a,E,rfl, ?_,r⟩;rw[<-Y,rT (by omega)]at c;simpa using c
def Ky (w:World) (Z:Nat->Prop) (t:Ty) (e e':TypeId) (v:Value) (ls:List (List t.den)):Prop:=
 ∃a:List Value,w.ownsRow 0 e 1 v ls.length a/\(∀(i:Nat) (l:List t.den) (x:Value),ls[i]? =some l->a[i]? =some x->∃b,w.ownsRow 0 e' t.size x l.length b/\G1 (C5 t w Z) b l)/\
  (∀(i j:Nat) (x y:Value) (b:Nat),i≠j->a[i]? =some x->a[j]? =some y->root x=some b->root y≠some b)/\∀(i:Nat) (x:Value) (b:Nat),a[i]? =some x->root x=some b->root v≠some b
def RL.rowsR {U:Nat->Prop} {t:Ty} {k e e':Nat} {ls:List (List t.den)} {al:List (Nat×Nat)} (h:RL U w Z B k (.rows t e e' ls al none)):Ky w Z t e e' (B k) ls:=by
 obtain⟨c,b,⟨a,d,f⟩,g,i⟩:=h;exact⟨c,b,fun i r x l a=>d i r x rfl l a,fun i o x y b j a n c=>f i o x y b j rfl rfl a n c,fun i x b a c=>g i x b rfl a c⟩
def Ky.rl {U:Nat->Prop} {t:Ty} {k e e':Nat} {ls:List (List t.den)} (h:Ky w Z t e e' (B k) ls) (g:∀b,A9 w (B k) (.rows t e e' ls [] none) b->U b/\¬Z b/\b<w.heap.size):RL U w Z B k (.rows t e e' ls [] none):=by
 obtain⟨o,a,c,d,f⟩:=h;exact⟨o,a,⟨fun p n=>(by cases n),fun i l x _ hl hx=>c i l x hl hx,fun i j x y b hij _ _ hx hy hb=>d i j x y b hij hx hy hb⟩,fun i x b _ hx hb=>f i x b hx hb,g⟩
def Ky.mono {t:Ty} {e e':Nat} {v:Value} {ls:List (List t.den)} (j:∀b,Z b->Z' b) (h:Ky w Z t e e' v ls):Ky w Z' t e e' v ls:=by
 obtain⟨n,a,c,d,f⟩:=h;exact⟨n,a,fun k l x g i=>(c k l x g i).imp fun n a=>⟨a.1,a.2.mono fun _ _=>C5.mono j (fun _ _=>rfl)⟩,d,f⟩
end steps
def iM (P:Program) (r:TypeId->Ty->Bool):List Field->Nat->Ty->Bool
 | [],_, .unit=>true
 | [f],b,a=>Nat.beq f.offset b&&r f.type a&&Nat.beq (P.cellsOf f.type) a.size
 |f::g::d,b, .pair a c=>Nat.beq f.offset b&&r f.type a&&Nat.beq (P.cellsOf f.type) a.size&&iM P r (g::d) (b+a.size) c
 | _,_,_=>false
def iK (r:Ty->Bool) (sz:Nat):Nat->Ty->Bool
 |0, .unit=>true
 |1,a=>r a&&Nat.beq a.size sz
 |n+2, .pair a b=>r a&&Nat.beq a.size sz&&iK r sz (n+1) b
 | _,_=>false
def mL (P:Program):Nat->TypeId->Ty->Bool
 |0,_,_=>false
 |n+1,T,a=>match P.underlying T with
  |some (.int k)=>(match a with| .int k'=>decide (k=k') | _=>false)
  |some .bool=>(match a with| .bool=>true| _=>false)
  |some (.struct b)=>iM P (mL P n) b.toList 0 a&&Nat.beq (P.cellsOf T) a.size&&b.all (·.name != "_")
  |some (.array m e)=>iK (mL P n e) (P.cellsOf e) m a&&Nat.beq (P.cellsOf T) a.size
  | _=>false
def Mp:(t:Ty)->t.den->List Lit
 | .int k,n=> [.int k n]
 | .bool,b=> [.bool b]
 | .pair a b,x=>Mp a x.1++Mp b x.2
 | _,_=> []
def Hh:Ty->Bool
 | .int _=>true
 | .bool=>true
 | .unit=>true
 | .pair a b=>Hh a&&Hh b
 | _=>false
def GY:(t:Ty)->t.den->t.den->Bool
 | .int _,a,b=>decide ((show Int from a)=b)
 | .bool,a,b=>(show Bool from a)==b
 | .pair a b,x,y=>GY a x.1 y.1&&GY b x.2 y.2
 | _,_,_=>true
def XC:∀ {t:Ty} {x y:t.den},(Mp t x).length=(Mp t y).length
 | .int _,_,_=>rfl
 | .bool,_,_=>rfl
 | .pair a b,x,y=>by simp only[Mp,rL];rw[XC (t:=a) (x:=x.1) (y:=y.1),XC (t:=b) (x:=x.2) (y:=y.2)]
 | .str,_,_=>rfl
 | .unit,_,_=>rfl
 | .sl _,_,_=>rfl
 | .ptr _,_,_=>rfl
 | .mp _ _ _ _,_,_=>rfl
def XB:∀ {t:Ty} {x y:t.den},Hh t=true->(Mp t x=Mp t y↔x=y)
 | .int _,x,y,_=>by simp[Mp]
 | .bool,x,y,_=>by simp[Mp]
 | .unit,x,y,_=>by simp[Mp]
 | .pair a b,x,y,h=>by
  simp only[Hh,qC]at h;simp only[Mp];constructor
  . intro e;have:=List.append_inj e XC;exact Prod.ext ((XB h.1).1 this.1) ((XB h.2).1 this.2)
  . rintro rfl;rfl
 | .str,_,_,h=>by cases h
 | .sl _,_,_,h=>by cases h
 | .ptr _,_,_,h=>by cases h
 | .mp _ _ _ _,_,_,h=>by cases h
def TZ:∀ {t:Ty} {x y:t.den},Hh t=true->(GY t x y=true↔x=y)
 | .int _,x,y,_=>by simp[GY]
 | .bool,x,y,_=>by simp[GY]
 | .unit,x,y,_=>by simp[GY]
 | .pair a b,x,y,h=>by
  simp only[Hh,qC]at h;simp only[GY,qC,TZ h.1,TZ h.2];exact⟨fun⟨a,b⟩=>Prod.ext a b,fun e=>by rw[e];exact⟨rfl,rfl⟩⟩
 | .str,_,_,h=>by cases h
 | .sl _,_,_,h=>by cases h
 | .ptr _,_,_,h=>by cases h
 | .mp _ _ _ _,_,_,h=>by cases h
def Pq:∀ {t:Ty} {w w':World} {Z Z':Nat->Prop} {cs cs':List Value} {x:t.den},Hh t=true->C5 t w Z cs x->C5 t w' Z' cs' x->cs=cs'
 | .int _,_,_,_,_,_,_,_,_,h,a=>h.1.trans a.1.symm
 | .bool,_,_,_,_,_,_,_,_,h,a=>(show _= _ from h).trans (show _= _ from a).symm
 | .unit,_,_,_,_,_,_,_,_,h,a=>(show _= _ from h).trans (show _= _ from a).symm
 | .pair h i,_,_,_,_,_,_,_,a,⟨c1,k,e,c,f⟩,⟨j,l,b,d,g⟩=>by
  simp only[Hh,qC]at a;rw[e,b,Pq a.1 c d,Pq a.2 f g]
 | .str,_,_,_,_,_,_,_,h,_,_=>by cases h
 | .sl _,_,_,_,_,_,_,_,h,_,_=>by cases h
 | .ptr _,_,_,_,_,_,_,_,h,_,_=>by cases h
 | .mp _ _ _ _,_,_,_,_,_,_,_,h,_,_=>by cases h
section
variable {P:Program} {w:World} {Z:Nat->Prop}
def dE {n:Nat} {r:TypeId->Ty->Bool} {cs:List Value} (c:∀ {T:TypeId} {ty:Ty} {cs:List Value} {x:ty.den},r T ty=true->C5 ty w Z cs x->P.keyLits n T cs=some (Mp ty x)):
 ∀ {b:List Field} {off:Nat} {ty:Ty} {x:ty.den},iM P r b off ty=true->C5 ty w Z (cs.drop off) x->∃ls,b.mapM (fun f=>P.keyLits n f.type ((cs.drop f.offset).take (P.cellsOf f.type)))=some ls/\ls.flatten=Mp ty x
 | [],off,ty,x,h,a=>by
  cases ty<;>simp[iM]at h;exact⟨[],rfl,rfl⟩
 | [f],off,ty,x,h,d=>by
  have a:(Nat.beq f.offset off&&r f.type ty&&Nat.beq (P.cellsOf f.type) ty.size)=true:=by cases ty<;>exact h
  simp only[qC]at a;have g:=qE a.1.1;have h:=qE a.2;have i:=C5.length d;refine⟨[Mp ty x], ?_,by simp⟩;rw[wT,g,h,qW (by omega),c a.1.2 d];rfl
 |f::a::b,off,ty,x,h,g=>by
  cases ty<;>simp only[iM]at h<;>try cases h
  rename_i a b;simp only[qC]at h;obtain⟨⟨⟨i,j⟩,k⟩,l⟩:=h;obtain⟨c1,b,e,d,o⟩:=g;have b:=C5.length d;have g:=qE i;have h:=qE k;obtain⟨ls,k,i⟩:=dE (cs:=cs) (off:=off+a.size) (x:=x.2) c l (by rw[<-vT,e,zI b];exact o);refine⟨Mp a x.1::ls, ?_,by simp[Mp,i]⟩;rw[wT,g,h,e,g0j b,c j d,k];rfl
def dD {n e sz:Nat} {r:Ty->Bool} (b:∀ {ty:Ty} {cs:List Value} {x:ty.den},r ty=true->C5 ty w Z cs x->P.keyLits n e cs=some (Mp ty x)):
 ∀ {m i:Nat} {ty:Ty} {cs:List Value} {x:ty.den},iK r sz m ty=true->C5 ty w Z (cs.drop (i*sz)) x->∃ls,(List.range' i m).mapM (fun i=>P.keyLits n e ((cs.drop (i*sz)).take sz))=some ls/\ls.flatten=Mp ty x
 |0,i,ty,cs,x,h,a=>by
  cases ty<;>simp[iK]at h;exact⟨[],rfl,rfl⟩
 |1,i,ty,cs,x,h,c=>by
  have a:(r ty&&Nat.beq ty.size sz)=true:=by cases ty<;>exact h
  simp only[qC]at a;have d:=qE a.2;have d:=C5.length c;refine⟨[Mp ty x], ?_,by simp⟩;rw[List.range'_one,wT,qW (by omega),b a.1 c];rfl
 |m+2,i,ty,cs,x,h,j=>by
  cases ty<;>simp only[iK]at h<;>try cases h
  rename_i c a;simp only[qC]at h;obtain⟨⟨d,f⟩,g⟩:=h;obtain⟨c1,h,e,a,k⟩:=j;have h:=C5.length a;have h:=qE f;obtain⟨ls,h,f⟩:=dD (cs:=cs) (i:=i+1) (x:=x.2) b g (by rw[uR, <-vT,e,zI (by omega)];exact k);refine⟨Mp c x.1::ls, ?_,by simp[Mp,f]⟩;rw[g4q,wT,e,g0j (by omega),b d a,h];rfl
def UA:∀ {n:Nat} {T:TypeId} {ty:Ty} {cs:List Value} {x:ty.den},mL P n T ty=true->C5 ty w Z cs x->P.keyLits n T cs=some (Mp ty x)
 |0,_,_,_,_,h,_=>by cases h
 |n+1,T,ty,cs,x,h,a=>by
  unfold mL at h;unfold Program.keyLits;split at h
  . rename_i k b;cases ty<;>simp only at h<;>try cases h
    have:=qA h;subst this;obtain⟨e,c⟩:=a;simp only[b,e];rw[qQ ⟨trivial,by simp only[Lit.wf,qC,rS];exact c⟩];rfl
  . rename_i b;cases ty<;>simp only at h<;>try cases h
    simp only[b,show cs= _ from a];rfl
  . rename_i c b;simp only[qC]at h;have f:=C5.length a;obtain⟨g,c,d⟩:=dE (n:=n) (cs:=cs) (off:=0) (fun hh a=>UA hh a) h.1.1 (by simpa using a);simp only[b];rw[qQ ⟨by rw[f,qE h.1.2],h.2⟩,c];simp[d]
  . rename_i m e b;simp only[qC]at h;have f:=C5.length a;obtain⟨g,c,d⟩:=dD (n:=n) (e:=e) (sz:=P.cellsOf e) (i:=0) (cs:=cs) (fun hh a=>UA hh a) h.1 (by simpa using a);simp only[b];rw[qQ (by rw[f,qE h.2]),g2x,c];simp[d]
  . cases h
def FR (P:Program) (T:TypeId) (a:Bool) (ty:Ty):Bool:=mL P 20 T ty&&P.keyTypeAt 20 T&&Hh ty&& !(P.eqGuardType P.depth T)&&(match P.underlying T with|some (.struct _)=>a|some (.array _ _)=>a| _=> !a)
def IJ {T:TypeId} {a:Bool} {ty:Ty} {v:Value} {x:ty.den} (h:FR P T a ty=true) (g:T6 (C5 ty w Z) a v x):v.formed P T=true/\P.keyLits 20 T v.cells.toList=some (Mp ty x):=by
 simp only[FR,qC]at h;obtain⟨⟨⟨⟨b,c⟩,f⟩,_⟩,d⟩:=h;cases a with
 |true=>
  obtain⟨f,e,c⟩:=g;subst e;have i:=UA b c;have f:=C5.length c;refine⟨?_,i⟩;unfold mL at b;split at b
  . rename_i c;simp[c]at d
  . rename_i c;simp[c]at d
  . rename_i c;simp only[qC]at b;simp only[Value.formed,c];have:=qE b.1.2;simp[this,f]
  . rename_i c;simp only[qC]at b;simp only[Value.formed,c];have:=qE b.2;simp[this,f]
  . cases b
 |false=>
  have f:C5 ty w Z [v] x:=g;have g:=UA b f;unfold mL at b;split at b
  . rename_i k c;cases ty<;>simp only at b<;>try cases b
    have e:=f.1;simp only[sI,vN]at e;subst e;exact⟨by simp[Value.formed,c],g⟩
  . rename_i c;cases ty<;>simp only at b<;>try cases b
    have e: [v]= [.bool x]:=f;simp only[sI,vN]at e;subst e;exact⟨by simp[Value.formed,c],g⟩
  . rename_i c;simp[c]at d
  . rename_i c;simp[c]at d
  . cases b
def II {T:TypeId} {a:Bool} {ty:Ty} (h:FR P T a ty=true):Hh ty=true:=by
 simp only[FR,qC]at h;exact h.1.1.2
def dO {T:TypeId} {a:Bool} {ty:Ty} {v b:Value} {x y:ty.den} (h:FR P T a ty=true) (c:T6 (C5 ty w Z) a v x) (g:T6 (C5 ty w Z) a b y) (w':World):(Op.equalIn 10000 T v b).run P w'= .ok (GY ty x y) w':=by
 obtain⟨d,j⟩:=IJ h c;obtain⟨f,k⟩:=IJ h g;have c:=II h;simp only[FR,qC]at h;obtain⟨r,i,g⟩:=run_equalIn_deep (P:=P) 9980 20 T h.1.1.1.2 w' 20 20 v b _ _ d f j k;rw[i];have:r=GY ty x y:=by
  rw[XB c, <-TZ c]at g;cases r<;>cases b:GY ty x y<;>simp_all
 rw[this]
def Sd {T:TypeId} {a:Bool} {ty:Ty} {v:Value} {x:ty.den} (h:FR P T a ty=true) (d:T6 (C5 ty w Z) a v x) (w':World) (b:Bool):(Instr.checkKey b 10000 T v).run P w'= .ok () w':=by
 obtain⟨c,f⟩:=IJ h d;simp only[FR,qC]at h;exact run_checkKey_deep (P:=P) b 9980 20 T h.1.1.1.2 w' 20 v _ c f
def N5 {a:Type} (t:Ty) (k:t.den):List (t.den×a)->Nat->Option Nat
 | [],_=>none
 |x::l,i=>bif GY t k x.1 then some i else N5 t k l (i+1)
def K9 {a:Type} (t:Ty) (k:t.den):List (t.den×a)->Option a
 | []=>none
 |x::l=>bif GY t k x.1 then some x.2 else K9 t k l
def Fy {a:Type} (t:Ty) (k:t.den) (v:a):List (t.den×a)->List (t.den×a)
 | []=> [(k,v)]
 |x::l=>bif GY t k x.1 then(k,v)::l else x::Fy t k v l
def AI {T:TypeId} {c:Bool} {a:Ty} {g:Type} {Rv:Value->g->Prop} {v:Value} {k:a.den} (h:FR P T c a=true) (u:T6 (C5 a w Z) c v k) (w':World):
 ∀ {l:List (a.den×g)} {es:List MapEntry},R7 (T6 (C5 a w Z) c) Rv es l->(Instr.findKey T v es).run P w'= .ok ((N5 a k l 0).bind fun j=>(es[j]?).map fun e=>(j,e.val)) w':=by
 have t:∀ {l:List (a.den×g)} {es:List MapEntry} (i:Nat),R7 (T6 (C5 a w Z) c) Rv es l->(Instr.findAsking T v es i).run P w'= .ok ((N5 a k l i).bind fun j=>(es[j-i]?).map fun e=>(j,e.val)) w':=by
  intro l
  induction l with
  |nil=>intro es i b;rw[show es= []from b];rfl
  |cons x l o=>
   intro es i b;obtain⟨e,r,rfl,f,n,d⟩:=b;have r:=dO h u f w';unfold Instr.findAsking N5;simp only[Sem.run_bind,Op.equal,Op.maxDepth,r,Result.andThen_ok];cases GY a k x.1 with
   |true=>simp
   |false=>
    simp only[vX,yG,rF];rw[o (i+1) d];cases s:N5 a k l (i+1)with
    |none=>rfl
    |some j=>
     have d:i+1<=j:=by
      have:∀(l:List (a.den×g)) (i j:Nat),N5 a k l i=some j->i<=j:=by
       intro l
       induction l with
       |nil=>intro i j d;cases d
       |cons y l o=>
        intro i j d;unfold N5 at d;cases r:GY a k y.1 with
        |true=>simp[r]at d;omega
        |false=>simp[r]at d;have:=o _ _ d;omega
      exact this _ _ _ s
     simp only[vY];rw[show j-i=(j-(i+1))+1 from by omega];simp
 intro l es b;have d:=t 0 b;by_cases s:(match P.underlying T with|some (.array _ _) |some (.struct _)=>true| _=>false)=true
 . rw[run_findKey_eq w' s];exact d
 . have o:=h;simp only[FR,qC]at o;obtain⟨⟨⟨⟨d,_⟩,_⟩,_⟩,r⟩:=o;have z:∀(o:TypeDesc),P.underlying T=some o->(∀(v v':Value) (x y:a.den),T6 (C5 a w Z) c v x->T6 (C5 a w Z) c v' y->Instr.sameNow o v v'=some (GY a x y))->∀ {l:List (a.den×g)} {es:List MapEntry} (i:Nat),R7 (T6 (C5 a w Z) c) Rv es l->Instr.findNow o v es i=some ((N5 a k l i).bind fun j=>(es[j-i]?).map fun e=>(j,e.val)):=by
    intro o c A l
    induction l with
    |nil=>intro es i b;rw[show es= []from b];rfl
    |cons x l t=>
     intro es i b;obtain⟨e,o,rfl,f,n,c⟩:=b;unfold Instr.findNow N5;rw[A _ _ _ _ u f];cases o:GY a k x.1 with
     |true=>simp
     |false=>
      simp only[rF];rw[t (i+1) c];cases u:N5 a k l (i+1)with
      |none=>rfl
      |some j=>
       have c:i+1<=j:=by
        have:∀(l:List (a.den×g)) (i j:Nat),N5 a k l i=some j->i<=j:=by
         intro l
         induction l with
         |nil=>intro i j c;cases c
         |cons y l t=>
          intro i j c;unfold N5 at c;cases o:GY a k y.1 with
          |true=>simp[o]at c;omega
          |false=>simp[o]at c;have:=t _ _ c;omega
        exact this _ _ _ u
       simp only[vY];rw[show j-i=(j-(i+1))+1 from by omega];simp
   unfold mL at d;split at d
   . rename_i q c;simp only[c,rO]at r;subst r;cases a<;>simp only at d<;>try cases d
     have:=qA d;subst this;have:=z _ c (fun v v' x y f n=>by
      have g:=f.1;have i:=n.1;simp only[sI,vN]at g i;rw[g,i];simp[Instr.sameNow,GY,BEq.beq]) 0 b
     simp[Instr.findKey,run_underlying c,this]
   . rename_i c;simp only[c,rO]at r;subst r;cases a<;>simp only at d<;>try cases d
     have:=z _ c (fun v v' x y f n=>by
      have a: [v]= [.bool x]:=f;have f: [v']= [.bool y]:=n;simp only[sI,vN]at a f;rw[a,f];simp[Instr.sameNow,GY]) 0 b
     simp[Instr.findKey,run_underlying c,this]
   . rename_i c;simp[c]at s
   . rename_i c;simp[c]at s
   . cases d
end
def Oj (k:IntKind) (n:Int):OR k (k.wrap n):=by
 unfold OR;cases k<;>simp only[IntKind.wrap,IntKind.min,IntKind.max,IntKind.signed,IntKind.bits]<;>simp<;>(try split)<;>omega
def mZ (k:IntKind):OR k 0:=by unfold OR;cases k<;>decide
def B3c (k:IntKind):k.min<=0/\0<=k.max:=mZ k
def B5c {k:IntKind} {a b:Int} (c:OR k a):OR k (a.tmod b):=by
 have c:=B3c k;unfold OR at*;rcases g4b 0 a with h|h
 . have d:=zH b h;have f:a.tmod b<=a:=by
    rw[tV h];by_cases c:b=0
    . subst c;simp
    . have c:=yK a b;rcases g4b 0 b with c|c
      . have:=tJ c (g0i h c);omega
      . have:=zL c (zG h c);omega
   omega
 . have d:0<=(-a).tmod b:=zH b (by omega);have f:(-a).tmod b<= -a:=by
    rw[tV (by omega)];by_cases c:b=0
    . subst c;simp
    . have c:=yK (-a) b;rcases g4b 0 b with c|c
      . have:=tJ c (g0i (show 0<= -a by omega) c);omega
      . have:=zL c (zG (show 0<= -a by omega) c);omega
   rw[Int.neg_tmod]at d f;omega
def B1f {k:IntKind} {a:Int} (n:Nat) (b:OR k a):OR k (a.fdiv (2^n)):=by
 have d:=B3c k;have b:(0:Int)<2^n:=Int.pow_pos (by decide);have c:(1:Int)<=2^n:=b;unfold OR at*;rw[sG _ (by omega)];constructor
 . rw[g2a b];have:k.min*2^n<=k.min*1:=Int.mul_le_mul_of_nonpos_left d.1 c;omega
 . have:a/2^n<k.max+1:=by
    rw[g1z b];have:(k.max+1)*1<=(k.max+1)*2^n:=tU c (by omega);omega
   omega
structure TI where
 ty:Ty
 agg:Bool
 elem:TypeId:=0
 fields:List (Nat×Nat×Bool):= []
 arr:Nat:=0
 bytes:Nat:=0
 eq:Bool:=false
 key:TypeId:=0
 rows:Bool:=false
 nest:List Nat:= []
def zc (t:Ty) (vs:List Value):Option (List Value):=
 match t with
 | .int k=>(match vs with| .int k' n::r=>bif decide (k=k')&&decide (n=0)then some r else none| _=>none)
 | .bool=>(match vs with| .bool b::r=>bif b then none else some r| _=>none)
 | .str=>(match vs with| .string s::r=>bif s.data.isEmpty then some r else none| _=>none)
 | .unit=>some vs
 | .pair a b=>(zc a vs).bind (zc b)
 | .sl _=>(match vs with| .slice none 0 0::r=>some r| _=>none)
 | .ptr _=>(match vs with| .pointer none::r=>some r| _=>none)
 | .mp _ _ _ _=>(match vs with| .map none::r=>some r| _=>none)
def Dv:Ty->List Value
 | .int k=> [.int k 0]
 | .bool=> [.bool false]
 | .str=> [.string ⟨#[]⟩]
 | .unit=> []
 | .pair a b=>Dv a++Dv b
 | .sl _=> [.slice none 0 0]
 | .ptr _=> [.pointer none]
 | .mp _ _ _ _=> [.map none]
def kI:∀ {t:Ty} {vs r:List Value},zc t vs=some r->vs=Dv t++r
 | .int k,vs,r,h=>by
  simp only[zc]at h;split at h
  . rename_i b n a;cases a:decide (k=b)<;>simp[a]at h;cases b:decide (n=0)<;>simp at b a<;>simp[b]at h;subst b a h;rfl
  . cases h
 | .bool,vs,r,h=>by
  simp only[zc]at h;split at h
  . rename_i b a;cases b<;>simp at h;subst h;rfl
  . cases h
 | .str,vs,r,h=>by
  simp only[zc]at h;split at h
  . rename_i s a;cases a:s.data.isEmpty<;>simp[a]at h;subst h;have:s=⟨#[]⟩:=by cases s;simp at a;simp[a]
    rw[this];rfl
  . cases h
 | .unit,vs,r,h=>by simp[zc]at h;subst h;rfl
 | .pair b a,vs,r,h=>by
  simp only[zc]at h;cases a:zc b vs with
  |none=>simp[a]at h
  |some b=>
   simp[a]at h;rw[kI a,kI h];simp[Dv]
 | .sl t,vs,r,h=>by
  simp only[zc]at h;split at h
  . cases h;rfl
  . cases h
 | .ptr t,vs,r,h=>by
  simp only[zc]at h;split at h
  . cases h;rfl
  . cases h
 | .mp _ _ _ _,vs,r,h=>by
  simp only[zc]at h;split at h
  . cases h;rfl
  . cases h
def isB (P:Program) (T:TypeId):Bool:=match P.underlying T with|some .bool=>true| _=>false
def A0x (P:Program) (T:TypeId) (f sz:Nat) (agg:Bool):Bool:=
 match P.underlying T with
 |some (.struct a)=>(match a[f]? with|some x=>bif agg then kT P x.type sz else(Jn P x.type&&Nat.beq sz 1) |none=>false)
 | _=>false
def AB (P:Program) (T:TypeId):Nat->List (Nat×Nat×Bool)->Bool
 | _,[]=>true
 |f,(b,sz,a)::r=>ON P T f b&&A0x P T f sz a&&AB P T (f+1) r
def Ro (P:Program) (T:TypeId) (t:Ty):Bool:=match Hw P T with|some z=>(match zc t z.cells.toList with|some []=>true| _=>false) |none=>false
def NL (P:Program) (T:TypeId) (a:Bool):Bool:=match Hw P T with|some (.agg _)=>a|some (.tuple _)=>false|some _=> !a|none=>false
def Wi (P:Program) (T:TypeId) (ti:TI):Bool:=
 Tu P T ti.ty.size&&(bif ti.agg then kT P T ti.ty.size else(Jn P T&&Nat.beq ti.ty.size 1))&&Ro P T ti.ty&&
 (match ti.ty with
  | .bool=>isB P T
  | .str=>(match P.underlying T with|some .string=>true| _=>false)
  | .sl t=>Ho P T ti.elem t.size&&Ro P ti.elem t&&(match P.info? ti.elem with|some i=>Nat.beq i.bytes ti.bytes|none=>false)
  | .int k=>(match P.underlying T with|some (.int k')=>decide (k=k') | _=>false)
  | .mp a b c d=>(match P.underlying T with|some (.map k e)=>Nat.beq k ti.key&&Nat.beq e ti.elem| _=>false)&&FR P ti.key a b&&Ro P ti.elem d&&NL P ti.elem c
  | _=>true)&&
 (bif ti.fields.isEmpty then true else(AB P T 0 ti.fields&&(match ES P T with|some pl=>decide (pl=ti.fields.map fun x=>(x.1,x.2.1)) |none=>false)))&&
 (bif Nat.beq ti.arr 0 then true else(match P.underlying T with|some (.array n e)=>Nat.beq n ti.arr&&Nat.beq e ti.elem| _=>false))&&
 (bif ti.eq then FR P T ti.agg ti.ty else true)
def Kn:Value->C
 | .int k n=>bif decide (k.min<=n)&&decide (n<=k.max)then .val (.int k) n else .raw (.int k n)
 | .bool b=> .val .bool b
 | .string s=> .val .str s
 |v=>bif v.oneCell' then .raw v else .dead
def gS:Value->SV
 | .agg a=>⟨true,a.toList.map Kn⟩
 |v=>⟨false,[Kn v]⟩
def DZ {w:World} {Z:Nat->Prop} {B:Nat->Value} {n:Nat} (v:Value):RC w Z B (Kn v) v/\Cr n (Kn v):=by
 cases v with
 |int k m=>
  simp only[Kn];cases h:decide (k.min<=m)&&decide (m<=k.max)with
  |true=>simp at h;simp only[qT];exact⟨⟨rfl,h⟩,trivial⟩
  |false=>simp only[rF];exact⟨⟨rfl,rfl⟩,trivial⟩
 | _=>exact⟨by first|rfl|exact⟨rfl,rfl⟩ |trivial,by first|trivial|rfl⟩
def Cw {w:World} {Z:Nat->Prop} {B:Nat->Value} {n:Nat} :∀vs:List Value,Dw w Z B (vs.map Kn) vs/\∀c∈vs.map Kn,Cr n c
 | []=>⟨rfl,by simp⟩
 |v::vs=>⟨⟨v,vs,rfl,(DZ (n:=n) v).1,(Cw (n:=n) vs).1⟩,fun c a=>by
  simp only[sA,qG]at a;rcases a with rfl|a
  . exact(DZ (w:=w) (Z:=Z) (B:=B) v).2
  . exact(Cw (w:=w) (Z:=Z) (B:=B) vs).2 c a⟩
def A0s {w:World} {Z:Nat->Prop} {B:Nat->Value} {n:Nat} (v:Value):RS w Z B (gS v) v/\Lx n (gS v):=by
 have b:∀v,RS w Z B ⟨false,[Kn v]⟩ v/\Lx n ⟨false,[Kn v]⟩:=fun v=>⟨⟨v,[],rfl,(DZ (n:=n) v).1,rfl⟩,fun c hc=>by simp at hc;rw[hc];exact(DZ (w:=w) (Z:=Z) (B:=B) v).2⟩
 cases v with
 |agg a=>exact⟨⟨a.toList,by simp,(Cw (n:=n) a.toList).1⟩,(Cw (w:=w) (Z:=Z) (B:=B) a.toList).2⟩
 | _=>exact b _
abbrev Kx:=List (Tmp×Bool)
def mY (t:Tmp) (b:Bool):Kx->Bool
 | []=>false
 | (c,a)::r=>(Nat.beq c t&&(b==a)) ||mY t b r
def St.ev (a:St) (ctx:Kx):Operand->Option SV
 | .tmp t=>match a.S t with
  | .one v=>some v
  | .cnd a b v=>bif mY a b ctx then some v else none
  | _=>none
 | .const v=>some (gS v)
 | .func f=>some ⟨false,[.fn f []]⟩
 | .global _=>none
def gctx (a:St):Nat->Tmp->Bool->Kx
 |0,t,b=> [(t,b)]
 |n+1,t,b=>(t,b)::match a.S t with
  | .cnd c b _=>gctx a n c b
  | _=> []
def QP:SV->Option Bool
 | ⟨false,[.val .bool e]⟩=>some e
 | _=>none
def gval (a:St) (t:Tmp):Option Bool:=match a.S t with
 | .one v=>QP v
 | .cnd _ _ v=>QP v
 | _=>none
def ctxP (a:St):Kx->Prop
 | []=>True
 | (t,b)::r=>match gval a t with
  |some e=>match r with
   | []=>e=b
   |r=>e=b/\ctxP a r
  |none=>ctxP a r
def OI {a:St} {t:Tmp} {b e:Bool} {r:Kx} (c:gval a t=some e):ctxP a ((t,b)::r)↔e=b/\ctxP a r:=by
 simp only[ctxP,c];cases r with
 |nil=>simp[ctxP]
 |cons _ _=>rfl
def P9 (E:G2) (ctx:Kx):Prop:=∀t b,(t,b)∈ctx->E t= .bool b
def dK {t:Tmp} {b:Bool} :∀ {ctx:Kx},mY t b ctx=true->(t,b)∈ctx
 | (c,a)::r,h=>by
  simp only[mY,uD,qC]at h;rcases h with⟨c,a⟩ |h
  . have:=qE c;simp at a;subst this a;simp
  . simp[dK h]
def HJ (b:Bool):undef≠ .bool b:=by simp[undef]
section
variable {za:Zn} {w0 w:World} {Z:Nat->Prop} {B:Nat->Value} {st:St} {E:G2}
def B7.ev (h:B7 za w0 st E w Z B) {ctx:Kx} (c:P9 E ctx) {x:Operand} {v:SV} (a:st.ev ctx x=some v):RS w Z B v (Gw.ev E x)/\Lx st.nx v:=by
 cases x with
 |tmp t=>
  have b:=h.slots t;have f:=h.refs t;simp only[St.ev]at a;cases d:st.S t with
  |one u=>rw[d]at b f a;cases a;exact⟨b,f⟩
  |tup _=>rw[d]at a;cases a
  |dead=>rw[d]at a;cases a
  |cnd i g u=>
   rw[d]at b f a;cases d:mY i g ctx with
   |false=>simp[d]at a
   |true=>
    simp[d]at a;subst a;rcases b with⟨_,b⟩ | ⟨b,_⟩
    . exact⟨b,f⟩
    . exact absurd (c i g (dK d)) b
 |const u=>cases a;exact A0s u
 |func f=>cases a;exact⟨⟨_,[],rfl,by show _= _;rfl,rfl⟩,fun b c=>by simp at c;subst c;exact fun k b=>by cases b⟩
 |global g=>cases a
def B7.gctx (h:B7 za w0 st E w Z B):∀ {n:Nat} {t:Tmp} {b:Bool},E t= .bool b->P9 E (gctx st n t b)
 |0,t,b,c=>fun f d a=>by simp[Vc.gctx]at a;rw[a.1,a.2];exact c
 |n+1,t,b,f=>fun j i a=>by
  unfold Vc.gctx at a;rcases qG.1 a with a|a
  . cases a;exact f
  . have g:=h.slots t;cases d:st.S t with
    |cnd k c u=>
     rw[d]at g a;rcases g with⟨c,_⟩ | ⟨_,c⟩
     . exact h.gctx c j i a
     . rw[f]at c;exact absurd c.symm (HJ b)
    |one _=>rw[d]at a;cases a
    |tup _=>rw[d]at a;cases a
    |dead=>rw[d]at a;cases a
def Rz {v:SV} {e:Bool} {u:Value} (h:RS w Z B v u) (a:QP v=some e):u= .bool e:=by
 unfold QP at a;split at a
 . cases a;obtain⟨_,_,b,c,_⟩:=h;cases b;simpa[RC,C5]using c
 . cases a
def B7.gval (h:B7 za w0 st E w Z B) {t:Tmp} {b e:Bool} (f:E t= .bool b) (a:gval st t=some e):e=b:=by
 have c:=h.slots t;unfold Vc.gval at a;cases d:st.S t with
 |one u=>rw[d]at c a;have:=Rz c a;rw[f]at this;cases this;rfl
 |tup _=>rw[d]at a;cases a
 |dead=>rw[d]at a;cases a
 |cnd i g u=>
  rw[d]at c a;rcases c with⟨_,c⟩ | ⟨_,c⟩
  . have:=Rz c a;rw[f]at this;cases this;rfl
  . rw[f]at c;exact absurd c.symm (HJ b)
def B7.ctxP (h:B7 za w0 st E w Z B):∀ {ctx:Kx},P9 E ctx->ctxP st ctx
 | [],_=>trivial
 | (t,b)::r,c=>by
  have d:=h.ctxP (ctx:=r) fun t b hm=>c t b (qL _ hm)
  cases a:Vc.gval st t with
  |none=>simp only[Vc.ctxP,a];exact d
  |some e=>exact(OI a).2 ⟨h.gval (c t b (by simp)) a,d⟩
end
def explode:(t:Ty)->t.den->List C
 | .pair a b,x=>explode a x.1++explode b x.2
 | .unit,_=> []
 | .int k,x=> [.val (.int k) x]
 | .bool,x=> [.val .bool x]
 | .str,x=> [.val .str x]
 | .sl t,x=> [.val (.sl t) x]
 | .ptr t,x=> [.pf t x 0]
 | .mp a b c d,x=> [.val (.mp a b c d) x]
def VN (t:Ty):C->Option t.den
 | .val a x=>if h:a=t then some (h▸x)else none
 | .raw (.slice none 0 0)=>match t with
  | .sl _=>some []
  | _=>none
 | .raw (.map none)=>match t with
  | .mp _ _ _ _=>some []
  | _=>none
 | .pf a x 0=>if h:Ty.ptr a=t then some (h▸(show(Ty.ptr a).den from x))else none
 | _=>none
def Mz:(t:Ty)->List C->Option (t.den×List C)
 | .pair a b,c=>(Mz a c).bind fun x=>(Mz b x.2).map fun y=>((x.1,y.1),y.2)
 | .unit,a=>some ((),a)
 | .int k,c::r=>(VN (.int k) c).map fun x=>(x,r)
 | .bool,c::r=>(VN .bool c).map fun x=>(x,r)
 | .str,c::r=>(VN .str c).map fun x=>(x,r)
 | .sl t,c::r=>(VN (.sl t) c).map fun x=>(x,r)
 | .ptr t,c::r=>(VN (.ptr t) c).map fun x=>(x,r)
 | .mp a b d f,c::r=>(VN (.mp a b d f) c).map fun x=>(x,r)
 | _,_=>none
def Ss (agg:Bool) (t:Ty) (s:SV):Option t.den:=
 bif s.agg==agg then(match Mz t s.cs with|some (x,[])=>some x| _=>none)else none
section
variable {w:World} {Z:Nat->Prop} {B:Nat->Value} {n:Nat}
def Dw.append:∀ {cs cs':List C} {vs a:List Value},Dw w Z B cs vs->Dw w Z B cs' a->Dw w Z B (cs++cs') (vs++a)
 | [],_,_,_,h,b=>by rw[show _= _ from h];exact b
 | _:: _,_,_,a,⟨v,f,e,c,d⟩,b=>⟨v,f++a,by rw[e];rfl,c,Dw.append d b⟩
def T9:∀ {t:Ty} {cs:List Value} {x:t.den},C5 t w Z cs x->Dw w Z B (explode t x) cs
 | .int k,_,_,h=>⟨_,[],h.1,⟨rfl,h.2⟩,rfl⟩
 | .bool,_,_,h=>⟨_,[],h,rfl,rfl⟩
 | .str,_,_,h=>⟨_,[],h,rfl,rfl⟩
 | .unit,_,_,h=>h
 | .pair c d,_,_,⟨c1,f,e,a,b⟩=>by rw[e];exact(T9 a).append (T9 b)
 | .sl t,_,_,h=>by
  obtain⟨a,b,e,r⟩:=h;exact⟨_,[],e,⟨a,b,rfl,r⟩,rfl⟩
 | .ptr t,_,_,h=>by
  obtain⟨b,o,a,e,r⟩:=h;exact⟨_,[],e,⟨b,o,a,rfl,r⟩,rfl⟩
 | .mp a b c d,_,_,h=>by
  rcases h with⟨e,h⟩ | ⟨b,c,a,e,h⟩
  . exact⟨_,[],e, .inl ⟨rfl,h⟩,rfl⟩
  . exact⟨_,[],e, .inr ⟨b,c,a,rfl,h⟩,rfl⟩
def E2:∀ {t:Ty} {x:t.den},∀c∈explode t x,Cr n c
 | .int k,_,c,h=>by simp[explode]at h;subst h;trivial
 | .bool,_,c,h=>by simp[explode]at h;subst h;trivial
 | .str,_,c,h=>by simp[explode]at h;subst h;trivial
 | .unit,_,c,h=>by simp[explode]at h
 | .pair a b,x,c,h=>by
  simp only[explode,qY]at h;rcases h with h|h
  . exact E2 c h
  . exact E2 c h
 | .sl t,_,c,h=>by simp[explode]at h;subst h;trivial
 | .ptr t,_,c,h=>by simp[explode]at h;subst h;trivial
 | .mp _ _ _ _,_,c,h=>by simp[explode]at h;subst h;trivial
def fW {t:Ty} {c:C} {x:t.den} {v:Value} (h:RC w Z B c v) (a:VN t c=some x):C5 t w Z [v] x:=by
 unfold VN at a;split at a
 . rename_i b d;split at a
   . rename_i e;subst e;cases a;exact h
   . cases a
 . split at a
   . cases a;rw[show v= _ from h.1];exact⟨none,0,rfl,qZ _,rK _,fun _=>rfl, .inl rfl⟩
   . cases a
 . split at a
   . cases a;rw[show v= _ from h.1];exact .inl ⟨rfl,rfl⟩
   . cases a
 . rename_i b d;split at a
   . rename_i e;subst e;cases a;obtain⟨b,o,d,e,f,g,i⟩:=h;exact⟨b,o,d,by rw[e];rfl,f,g,i⟩
   . cases a
 . cases a
def B8d:∀ {t:Ty} {cs r:List C} {vs:List Value} {x:t.den},Dw w Z B cs vs->Mz t cs=some (x,r)->∃v1 v2,vs=v1++v2/\C5 t w Z v1 x/\Dw w Z B r v2:=by
 have one:∀(t:Ty) {cs r:List C} {vs:List Value} {x:t.den} (c:C),Dw w Z B (c::cs) vs->(VN t c).map (fun x=>(x,cs))=some (x,r)->∃v1 v2,vs=v1++v2/\C5 t w Z v1 x/\Dw w Z B r v2:=by
  intro t cs r vs x c h b;obtain⟨v,g,e,d,f⟩:=h;cases a:VN t c with
  |none=>simp[a]at b
  |some y=>
   simp[a]at b;obtain⟨rfl,rfl⟩:=b;exact⟨[v],g,e,fW d a,f⟩
 intro t
 induction t with
 |pair d f g i=>
  intro cs r vs x h a;simp only[Mz]at a;cases b:Mz d cs with
  |none=>simp[b]at a
  |some y=>
   simp only[b,vY]at a;cases d:Mz f y.2 with
   |none=>simp[d]at a
   |some z=>
    simp[d]at a;obtain⟨rfl,rfl⟩:=a;obtain⟨v1,v2,e,f,j⟩:=g h (by rw[b]);obtain⟨a,k,b,g,h⟩:=i j (by rw[d]);exact⟨v1++a,k,by rw[e,b];simp,⟨v1,a,rfl,f,g⟩,h⟩
 |unit=>intro cs r vs x h a;simp[Mz]at a;subst a;exact⟨[],vs,rfl,rfl,h⟩
 |int k=>intro cs r vs x h a;cases cs with
  |nil=>simp[Mz]at a
  |cons c cs=>exact one _ c h a
 |bool=>intro cs r vs x h a;cases cs with
  |nil=>simp[Mz]at a
  |cons c cs=>exact one _ c h a
 |str=>intro cs r vs x h a;cases cs with
  |nil=>simp[Mz]at a
  |cons c cs=>exact one _ c h a
 |sl t _=>intro cs r vs x h a;cases cs with
  |nil=>simp[Mz]at a
  |cons c cs=>exact one _ c h a
 |ptr t _=>intro cs r vs x h a;cases cs with
  |nil=>simp[Mz]at a
  |cons c cs=>exact one _ c h a
 |mp a b d f _ _=>intro cs r vs x h a;cases cs with
  |nil=>simp[Mz]at a
  |cons c cs=>exact one _ c h a
def Hg {t:Ty} {cs:List C} {vs:List Value} {x:t.den} (h:Dw w Z B cs vs) (c:Mz t cs=some (x,[])):C5 t w Z vs x:=by
 obtain⟨f,d,e,a,b⟩:=B8d h c;rw[show d= []from b,vV]at e;rw[e];exact a
def Eu {a:Bool} {t:Ty} {s:SV} {v:Value} {x:t.den} (h:RS w Z B s v) (b:Ss a t s=some x):Bj a t w Z v x:=by
 obtain⟨d,g⟩:=s;unfold Ss at b;cases c:(d==a)with
 |false=>simp[c]at b
 |true=>
  simp only[c,qT]at b;have:d=a:=by simpa using c
  subst this;split at b
  . rename_i y f;cases b;cases d with
    |true=>obtain⟨vs,e,h⟩:=h;exact⟨vs,e,Hg h f⟩
    |false=>exact Hg (vs:= [v]) h f
  . cases b
def Bj.explode {a:Bool} {t:Ty} {v:Value} {x:t.den} (h:Bj a t w Z v x):RS w Z B ⟨a,explode t x⟩ v:=by
 cases a with
 |true=>obtain⟨cs,e,h⟩:=h;exact⟨cs,e,T9 h⟩
 |false=>exact T9 (cs:= [v]) h
def Dw.len:∀ {cs:List C} {vs:List Value},Dw w Z B cs vs->cs.length=vs.length
 | [],_,h=>by rw[show _= _ from h];rfl
 | _:: _,_,⟨v,b,e,_,a⟩=>by rw[e,rE,rE,Dw.len a]
def Dw.drop:∀ {cs:List C} {vs:List Value} (i:Nat),Dw w Z B cs vs->Dw w Z B (cs.drop i) (vs.drop i)
 |cs,vs,0,h=>h
 | [],_,i+1,h=>by rw[show _= _ from h];simp;rfl
 | _:: _,_,i+1,⟨v,b,e,_,a⟩=>by rw[e];simp only[List.drop_succ_cons];exact Dw.drop i a
def Dw.take:∀ {cs:List C} {vs:List Value} (i:Nat),Dw w Z B cs vs->Dw w Z B (cs.take i) (vs.take i)
 |cs,vs,0,h=>by simp;rfl
 | [],_,i+1,h=>by rw[show _= _ from h];simp;rfl
 | _:: _,_,i+1,⟨v,c,e,a,b⟩=>by rw[e];simp only[List.take_succ_cons];exact⟨v,_,rfl,a,Dw.take i b⟩
end
def A1e (op:BinOp) (k:IntKind) (a b:Int):Option (Option Prop×C):=
 match op with
 | .add=>some (none, .val (.int k) (k.wrap (a+b)))
 | .sub=>some (none, .val (.int k) (k.wrap (a-b)))
 | .mul=>some (none, .val (.int k) (k.wrap (a*b)))
 | .quo=>some (some (b≠0), .val (.int k) (k.wrap (a.tdiv b)))
 | .rem=>some (some (b≠0), .val (.int k) (a.tmod b))
 | .and=>some (none, .val (.int k) (k.wrap (BitVec.ofInt k.bits a&&&BitVec.ofInt k.bits b).toNat))
 | .or=>some (none, .val (.int k) (k.wrap (BitVec.ofInt k.bits a|||BitVec.ofInt k.bits b).toNat))
 | .xor=>some (none, .val (.int k) (k.wrap (BitVec.ofInt k.bits a^^^BitVec.ofInt k.bits b).toNat))
 | .eql=>some (none, .val .bool (decide (a=b)))
 | .neq=>some (none, .val .bool (decide (a≠b)))
 | .lss=>some (none, .val .bool (decide (a<b)))
 | .leq=>some (none, .val .bool (decide (a<=b)))
 | .gtr=>some (none, .val .bool (decide (b<a)))
 | .geq=>some (none, .val .bool (decide (b<=a)))
 | _=>none
def C1f (op:BinOp):C->C->Option (Option Prop×C)
 | .val (.int k) a, .val (.int c) b=>
  match op with
  | .shl=>some (some (0<=b), .val (.int k) (k.wrap (a*2^(min b.toNat k.bits))))
  | .shr=>some (some (0<=b), .val (.int k) (a.fdiv (2^(min b.toNat k.bits))))
  |op=>bif decide (k=c)then A1e op k a b else none
 | .val .bool a, .val .bool b=>
  match op with
  | .eql=>some (none, .val .bool (a==b))
  | .neq=>some (none, .val .bool (a !=b))
  | _=>none
 | _,_=>none
section
variable {za:Zn} {w0 w:World} {Z:Nat->Prop} {B:Nat->Value} {P:Program} {E:G2}
def C7p {ty:TypeId} {T T':TypeId} {x y:Operand} {a b:Bool} (g:Gw.ev E x= .bool a) (h:Gw.ev E y= .bool b) (d:P.underlying T=some .bool):Gw.E7 P E ty (.binOp .eql T x y T') w (.bool (a==b)) w:=fun _ _ _ _=>by
 have c:=run_equalIn_bool' (P:=P) w 9999 T a b d;have f:(eqGuard .eql T x y (.bool a) (.bool b)).run P w= .ok () w:=rfl;have d:(binOp .eql T (.bool a) (.bool b)).run P w= .ok (.bool (a==b)) w:=by
  show((Op.equal T (.bool a) (.bool b))>>=fun r=>pure (Value.bool r)).run P w= _;unfold Op.equal Op.maxDepth;rw[Sem.run_bind,c];rfl
 simp only[execOp,g,h];simp[f,d]
def B2e {T:TypeId} (h:isB P T=true):P.underlying T=some .bool:=by
 unfold isB at h;split at h
 . assumption
 . cases h
def A6v {op:BinOp} {k:IntKind} {a b:Int} {φ:Option Prop} {c:C} (h:A1e op k a b=some (φ,c)) (d:RH φ) (f:OR k a):∃v,(∀(w':World) (T:TypeId),(binOp op T (.int k a) (.int k b)).run P w'= .ok v w')/\RC w Z B c v/\∀n,Cr n c:=by
 cases op<;>simp only[A1e,rD,g0g,reduceCtorEq]at h<;>(try exact h.elim)<;>obtain⟨rfl,rfl⟩:=h
 case rem=>exact⟨_,fun w' T=>by simp[binOp,Op.intDiv,show b≠0 from d,go_sem],⟨rfl,B5c f⟩,fun _=>trivial⟩
 case quo=>exact⟨_,fun w' T=>by simp[binOp,Op.intDiv,show b≠0 from d,go_sem],⟨rfl,Oj _ _⟩,fun _=>trivial⟩
 case add|sub|mul=>exact⟨_,fun w' T=>by simp[binOp,Op.intArith,go_sem],⟨rfl,Oj _ _⟩,fun _=>trivial⟩
 case and|or|xor=>exact⟨_,fun w' T=>by simp[binOp,Op.intBits,go_sem],⟨rfl,Oj _ _⟩,fun _=>trivial⟩
 all_goals exact⟨.bool _,fun w' T=>by simp[binOp,Op.intCmp,go_sem];try rfl,rfl,fun _=>trivial⟩
def B6l {op:BinOp} {x y:Operand} {cx d c:C} {φ:Option Prop} {T T' ty:TypeId} (h:C1f op cx d=some (φ,c)) (l:RH φ) (a:RC w Z B cx (Gw.ev E x)) (b:RC w Z B d (Gw.ev E y)) (g:isB P T=true\/∀e,cx≠ .val .bool e):
 ∃v,(∀w',Gw.E7 P E ty (.binOp op T x y T') w' v w')/\RC w Z B c v/\∀n,Cr n c:=by
 unfold C1f at h;split at h
 . rename_i k f r d;obtain⟨a,o⟩:=a;obtain⟨b,i⟩:=b;simp only[sI,vN]at a b;split at h
   . cases h;have i:¬d<0:=Int.not_lt.2 l;have j:∀w',Gw.E7 P E ty (.binOp .shl T x y T') w' (.int k (k.wrap (f*2^(min d.toNat k.bits)))) w':=fun w'=>B5r a b (by simp[binOp,Op.shift,i,go_sem])
     exact⟨_,j,⟨rfl,Oj _ _⟩,fun _=>trivial⟩
   . cases h;have i:¬d<0:=Int.not_lt.2 l;have j:∀w',Gw.E7 P E ty (.binOp .shr T x y T') w' (.int k (f.fdiv (2^(min d.toNat k.bits)))) w':=fun w'=>B5r a b (by simp[binOp,Op.shift,i,go_sem])
     exact⟨_,j,⟨rfl,B1f _ o⟩,fun _=>trivial⟩
   . cases i:decide (k=r)with
     |false=>simp[i]at h
     |true=>
      simp only[i,qT]at h;have:=qA i;subst this;obtain⟨v,i,j⟩:=A6v (P:=P) (w:=w) (Z:=Z) (B:=B) h l o;exact⟨v,fun w'=>B5r a b (i w' T),j⟩
 . rename_i f d;have a:Gw.ev E x= .bool f:=by simpa[RC,C5]using a
   have b:Gw.ev E y= .bool d:=by simpa[RC,C5]using b
   have d:P.underlying T=some .bool:=by
    rcases g with g|g
    . exact B2e g
    . exact absurd rfl (g f)
   split at h
   . cases h;exact⟨_,fun w'=>C7p a b d,rfl,fun _=>trivial⟩
   . cases h;exact⟨_,fun w'=>C7s a b d,rfl,fun _=>trivial⟩
   . cases h
 . cases h
end
structure Cx where
 P:Program
 tys:List (Nat×TI)
def Gv {a:Type} (s:Nat):List (Nat×a)->Option a
 | []=>none
 | (t,x)::l=>bif Nat.beq t s then some x else Gv s l
def Cx.ti (cx:Cx) (T:TypeId):Option TI:=Gv T cx.tys
def H5 (P:Program):List (Nat×TI)->Bool
 | []=>true
 | (T,ti)::l=>Wi P T ti&&H5 P l
def B9 {P:Program} :∀ {l:List (Nat×TI)},H5 P l=true->∀ {T:TypeId} {ti:TI},Gv T l=some ti->Wi P T ti=true
 | (T',b)::l,h,T,ti,a=>by
  simp only[H5,qC]at h;simp only[Gv]at a;cases b:Nat.beq T' T with
  |true=>simp[b]at a;have:=qE b;subst a this;exact h.1
  |false=>simp[b]at a;exact B9 h.2 a
def c1:SV->Option C
 | ⟨false,[c]⟩=>some c
 | _=>none
def faC (off:Nat):C->Option C
 | .box k o=>some (.box k (o+off))
 | .elp k sz i o=>some (.elp k sz i (o+off))
 | .pf t x o=>some (.pf t x (o+off))
 | _=>none
def cut (off n:Nat) (cs:List C):Option (List C):=(fun s=>bif Nat.beq s.length n then some s else none) ((cs.drop off).take n)
def QY (q:Nat):List (Nat×Nat)->Option Nat
 | []=>none
 | (i,p)::r=>bif Nat.beq p q then some i else QY q r
def B8k (a:St) (k:Nat):Option ((t:Ty)×List t.den):=match a.L k with
 | .row t _ l=>some ⟨t,l⟩
 | .al j=>match a.L j with
  | .rows t _ _ a al none=>(QY k al).map fun i=>⟨t,a.getD i []⟩
  | _=>none
 | _=>none
def hdC (a:St) (k:Nat):Option ((t:Ty)×List t.den):=match a.L k with
 | .rows t _ _ b _ _=>some ⟨.sl t,b⟩
 | .nest t _ _ b _ _=>bif Nat.beq t.size 1 then some ⟨t,b⟩else none
 | _=>B8k a k
def B2r (b:St) (n:Nat):C->Option (List C)
 | .box k a=>match b.L k with
  | .box _ c=>cut a n c
  | .sbox q t x=>bif Nat.beq q k then cut a n (explode t x)else none
  | _=>none
 | .pf t x a=>cut a n (explode t x)
 | .elp k sz i a=>match B8k b k with
  |some ⟨t,l⟩=>bif Nat.beq sz t.size then cut a n (explode t (l.getD i t.dflt))else none
  |none=>none
 | _=>none
def gx {a:Type} (d:a) (l:List a) (i:Int):a:=l.getD i.toNat d
def C1w (a:St) (i:Int):C->Option (Option Prop×C)
 | .val (.sl t) l=>some (some (0<=i/\i<(l.length:Int)), .pf t (gx t.dflt l i) 0)
 | .row k=>match hdC a k with
  |some ⟨t,l⟩=>some (some (0<=i/\i<(l.length:Int)), .elp k t.size i.toNat 0)
  |none=>none
 | .win k sz a b=>some (some (0<=i/\i<b-a), .elp k sz (a+i).toNat 0)
 | _=>none
def C2e (a:St):C->Option Int
 | .val (.sl _) l=>some (l.length:Int)
 | .row k=>match hdC a k with
  |some ⟨_,l⟩=>some (l.length:Int)
  |none=>none
 | .mp k=>match a.L k with
  | .map _ _ _ _ a=>some (a.length:Int)
  | _=>none
 | .raw (.slice none 0 0)=>some 0
 | .win _ _ b a=>some (a-b)
 | _=>none
def iI:SV->Option Int
 | ⟨false,[.val (.int _) n]⟩=>some n
 | _=>none
def A2n (b:St) (lo a:Option Int):C->Option (Option Prop×C)
 | .val (.sl t) l=>some (some (0<=lo.getD 0/\lo.getD 0<=a.getD (l.length:Int)/\a.getD (l.length:Int)<=(l.length:Int)), .val (.sl t) ((l.take (a.getD (l.length:Int)).toNat).drop (lo.getD 0).toNat))
 | .row k=>match b.L k with
  | .row t _ l=>some (some (0<=lo.getD 0/\lo.getD 0<=a.getD (l.length:Int)/\a.getD (l.length:Int)<=(l.length:Int)), .win k t.size (lo.getD 0) (a.getD (l.length:Int)))
  | _=>none
 | _=>none
def B3b:Op->Bool
 | .load _ _=>true
 | .lookup _ _ _ _=>true
 | _=>false
section
variable {za:Zn} {w0 w:World} {Z:Nat->Prop} {B:Nat->Value} {st:St} {E:G2} {P:Program}
def Zf (P:Program) (st:St) (E:G2) (w:World) (Z:Nat->Prop) (B:Nat->Value) (ty:TypeId) (op:Op) (d:DV):Prop:=
 ∃v,(∀a,(B3b op=true->R8 w a)->Gw.E7 P E ty op a v a)/\(∀E',RD w Z B E' d v)/\Oo st.nx d
def Ja {ty:TypeId} {op:Op} {c:C} {v:Value} (a:∀w',(B3b op=true->R8 w w')->Gw.E7 P E ty op w' v w') (b:RC w Z B c v) (d:Cr st.nx c):Zf P st E w Z B ty op (.one ⟨false,[c]⟩):=
 ⟨v,a,fun _=>⟨v,[],rfl,b,rfl⟩,fun f a=>by simp at a;subst a;exact d⟩
def lR {s:SV} {c:C} {v:Value} (h:RS w Z B s v) (d:Lx st.nx s) (a:c1 s=some c):RC w Z B c v/\Cr st.nx c:=by
 unfold c1 at a;split at a
 . cases a;obtain⟨_,_,e,b,_⟩:=h;cases e;exact⟨b,d _ (by simp)⟩
 . cases a
def B7g {s:SV} {n:Int} {v:Value} (h:RS w Z B s v) (b:iI s=some n):∃k,v= .int k n/\OR k n:=by
 unfold iI at b;split at b
 . cases b;obtain⟨_,_,e,a,_⟩:=h;cases e;obtain⟨a,c⟩:=a;simp only[sI,vN]at a;exact⟨_,a,c⟩
 . cases b
def C4t {T ty:TypeId} {x:Operand} {c b:C} {f off:Nat} (d:ON P T f off=true) (a:RC w Z B c (Gw.ev E x)) (g:Cr st.nx c) (h:faC off c=some b):Zf P st E w Z B ty (.fieldAddr T x f) (.one ⟨false,[b]⟩):=by
 unfold faC at h;split at h<;>cases h
 . obtain⟨b,e,i⟩:=a;exact Ja (fun j _=>DL i d) ⟨b,e,rfl⟩ g
 . obtain⟨b,m,k,e,l,i⟩:=a;exact Ja (fun j _=>DL i d) ⟨b,m,k,e,l,by rw[uN]⟩ g
 . obtain⟨b,o,i,e,l,k,a⟩:=a;exact Ja (fun j _=>DL e d) ⟨b,o,i,by rw[uN],l,k,a⟩ g
def VY {cs cs':List C} {vs:List Value} {off n:Nat} (h:Dw w Z B cs vs) (a:cut off n cs=some cs'):Dw w Z B cs' ((vs.drop off).take n)/\((vs.drop off).take n).length=n/\∀c∈cs',c∈cs:=by
 unfold cut at a;have d:=(h.drop off).take n;cases b:Nat.beq ((cs.drop off).take n).length n with
 |false=>simp only[b,rF]at a;cases a
 |true=>
  simp only[b,qT,rD]at a;subst a;exact⟨d,by rw[<-d.len];exact qE b,fun c a=>vG (rY a)⟩
def LE {T ty:TypeId} {x:Operand} {b o:Nat} {cs:List C} {vs:List Value} {agg:Bool} (k:Gw.ev E x= .pointer (some ⟨b,o,none⟩)) (l:b<w.heap.size) (n:J4 w ⟨b,o,none⟩ vs) (i:Dw w Z B cs vs) (h:∀c∈cs,Cr st.nx c)
 (d:(agg=true/\kT P T vs.length=true)\/(agg=false/\Jn P T=true/\vs.length=1)):Zf P st E w Z B ty (.load T x) (.one ⟨agg,cs⟩):=by
 have g:∀a,R8 w a->J4 a ⟨b,o,none⟩ vs:=fun a f j v hj=>by
  have:=n j v hj;rw[K5]at this⊢;rw[<-this];exact World.cell?_of_block (f.block b l)
 rcases d with⟨rfl,d⟩ | ⟨rfl,d,l⟩
 . exact⟨.agg vs.toArray,fun a f=>A3h k d rfl (g a (f rfl)),fun _=>⟨vs,rfl,i⟩,h⟩
 . match vs,l with
   | [v],_=>
    refine⟨v,fun a f=>A3g k d ?_,fun _=>i,h⟩;have:=g a (f rfl) 0 v rfl;rwa[K5]at this
def Sf {q i:Nat} :∀ {al:List (Nat×Nat)},QY q al=some i->(i,q)∈al
 | [],h=>by cases h
 | (j,p)::r,h=>by
  simp only[QY]at h;cases a:Nat.beq p q with
  |true=>simp only[a,qT,rD]at h;have:=qE a;subst this;subst h;simp
  |false=>simp only[a,rF]at h;exact qL _ (Sf h)
def A5j {U:Nat->Prop} {t:Ty} {k e e' i q:Nat} {ls:List (List t.den)} {al:List (Nat×Nat)} (h:RL U w Z B k (.rows t e e' ls al none)) (f:QY q al=some i):
 ∃xs a,w.ownsRow 0 e 1 (B k) ls.length xs/\xs[i]? =some (B q)/\ls[i]? =some (ls.getD i [])/\w.ownsRow 0 e' t.size (B q) (ls.getD i []).length a/\G1 (C5 t w Z) a (ls.getD i []):=by
 obtain⟨xs,c,⟨d,j,b⟩,g,l⟩:=h;have b:=d _ (Sf f);have f:i<ls.length:=by have:=(rU.1 b).1;have d:=c.1;omega
 have d:ls[i]? =some (ls.getD i []):=by rw[qF,qP f];rfl
 obtain⟨a,f,g⟩:=j i _ _ rfl d b;exact⟨xs,a,c,b,d,f,g⟩
def A5h (h:B7 za w0 st E w Z B) {k:Nat} {t:Ty} {l:List t.den} (a:B8k st k=some ⟨t,l⟩):∃e xs,w.ownsRow 0 e t.size (B k) l.length xs/\G1 (C5 t w Z) xs l:=by
 unfold B8k at a;split at a
 . rename_i g e b c;cases a;have b:=h.locs k;rw[c]at b;obtain⟨xs,f,d,_⟩:=b;exact⟨e,xs,f,d⟩
 . rename_i j c;split at a
   . rename_i g e c f al d;simp only[qN]at a;obtain⟨i,g,a⟩:=a;cases a;have b:=h.locs j;rw[d]at b;obtain⟨_,i,_,_,_,d,f⟩:=A5j b g;exact⟨c,i,d,f⟩
   . cases a
 . cases a
def B1v (h:B7 za w0 st E w Z B) {k:Nat} {t:Ty} {l:List t.den} (a:hdC st k=some ⟨t,l⟩):∃e xs,w.ownsRow 0 e t.size (B k) l.length xs:=by
 unfold hdC at a;split at a
 . rename_i g e c i al b d;cases a;have b:=h.locs k;rw[d]at b;obtain⟨xs,f,_⟩:=b;exact⟨e,xs,f⟩
 . rename_i g e c i j n d;cases c:Nat.beq g.size 1 with
   |false=>simp only[c,rF]at a;cases a
   |true=>
    simp only[c,qT]at a;cases a;have b:=h.locs k;rw[d]at b;obtain⟨xs,d,_⟩:=b;exact⟨e,xs,by rw[qE c];exact d.own⟩
 . obtain⟨e,xs,f,_⟩:=A5h h a;exact⟨e,xs,f⟩
def B7p (h:B7 za w0 st E w Z B) {T ty:TypeId} {x:Operand} {c:C} {cs:List C} {n:Nat} {agg:Bool} (z:RC w Z B c (Gw.ev E x)) (a:B2r st n c=some cs)
 (y:(agg=true/\kT P T n=true)\/(agg=false/\Jn P T=true/\n=1)):Zf P st E w Z B ty (.load T x) (.one ⟨agg,cs⟩):=by
 unfold B2r at a;split at a
 . rename_i A l;split at a
   . rename_i d b s;have r:=h.locs A;have t:=h.refl A;rw[s]at r t;obtain⟨k,b,e,_,_,D,u⟩:=r;obtain⟨H,o,i⟩:=z;rw[e]at o;cases o;obtain⟨d,f,g⟩:=VY u a;have:=S6 D.cellsAt l n;rw[sF]at this;exact LE i D.lt this d (fun c b=>t c (g c b)) (by rw[f];exact y)
   . rename_i q t M s;cases D:Nat.beq q A with
     |false=>simp only[D,rF]at a;cases a
     |true=>
      simp only[D,qT]at a;have:=qE D;subst this;have r:=h.locs q;rw[s]at r;obtain⟨_,⟨k,J,I,G,F,b,D⟩,_⟩:=r;simp only[sI,vN]at G;obtain⟨H,o,i⟩:=z;rw[G]at o;cases o;obtain⟨d,f,g⟩:=VY (T9 (B:=B) D) a;have u:=S6 b l n;rw[sF]at u;exact LE i (h.zlt _ F) u d (fun c b=>E2 c (g c b)) (by rw[f];exact y)
   . cases a
 . rename_i t M l;obtain⟨k,J,I,i,F,b,D⟩:=z;obtain⟨d,f,g⟩:=VY (T9 (B:=B) D) a;exact LE i (h.zlt k F) (S6 b l n) d (fun c b=>E2 c (g c b)) (by rw[f];exact y)
 . rename_i A sz r l;split at a
   . rename_i t u s;cases o:Nat.beq sz t.size with
     |false=>simp[o]at a
     |true=>
      simp only[o,qT]at a;have A:=qE o;subst A;obtain⟨e,F,o,D⟩:=A5h h s;obtain⟨k,m,G,s,A,i⟩:=z;rw[s]at o;have z:m=u.length:=by
       rcases o.2 with⟨s,_⟩ | ⟨_,_,_,s,_⟩<;>cases s
       rfl
      subst z;have z:=G1.get (fun _ _ h=>C5.length h) D (qP A);have s:u.getD r t.dflt=u[r]:=by rw[qF,qP A];rfl
      rw[s]at a;obtain⟨d,f,g⟩:=VY (T9 (B:=B) z) a;have s:=(World.ownsRow.lt o k rfl).2;have u:J4 w ⟨k,0,none⟩ F:=fun j v hj=>by
       rcases o.2 with⟨k,_⟩ | ⟨G,D,F,k,_,z,_,_,_,A⟩
       . cases k
       . cases k;rw[K5,sF];simp only[World.cell?,z];rw[<-A,wM]at hj;split at hj
         . simpa using hj
         . cases hj
      have k:=S6 (S6 u (r*t.size) t.size) l n;rw[sF]at k;exact LE i s k d (fun c b=>E2 c (g c b)) (by rw[f];exact y)
   . cases a
 . cases a
def H1 {a:Type} {d:a} {l:List a} {i:Int} (b:0<=i) (c:i<(l.length:Int)):l[i.toNat]? =some (gx d l i):=by
 have a:i.toNat<l.length:=by omega
 rw[gx,qF,qP a];rfl
def B1z (h:B7 za w0 st E w Z B) {T ty e:TypeId} {x ix:Operand} {c u:C} {i:Int} {φ:Option Prop} {a9:IntKind} (H:RC w Z B c (Gw.ev E x)) (G:Gw.ev E ix= .int a9 i) (b:C1w st i c=some (φ,u)) (J:RH φ)
 (D:∀s,(∃t y,u= .pf t y 0/\s=t.size)\/(∃k j,u= .elp k s j 0)->Ho P T e s=true) (Q:Cr st.nx c):Zf P st E w Z B ty (.indexAddr T x ix) (.one ⟨false,[u]⟩):=by
 unfold C1w at b;split at b
 . rename_i t M;cases b;obtain⟨n,l⟩:=J;have o:=D t.size (.inl ⟨t,_,rfl,rfl⟩);obtain⟨A,f,O,aj,ak,am,F⟩:=H;simp only[sI,vN]at O;have a1:=H1 (d:=t.dflt) n l;rcases F with F| ⟨N,U,ad,X,a8,Y,a0⟩
   . subst F;simp at l;omega
   . subst X;have a2:=G1.get (fun _ _ h=>C5.length h) a0 a1;refine Ja (v:= .pointer (some ⟨N,U+i.toNat*t.size+0,none⟩)) (fun r _=> ?_) ⟨N,U+i.toNat*t.size,_,rfl,a8,S6 Y _ t.size,a2⟩ trivial;have:=B5s (P:=P) (w:=r) (ty:=ty) (sz:=t.size) O G o n l;rwa[K5]at this
 . rename_i k;split at b
   . rename_i t M a4;cases b;obtain⟨n,l⟩:=J;have o:=D t.size (.inr ⟨_,_,rfl⟩);obtain⟨ac,an,a7⟩:=B1v h a4;rcases a7.2 with⟨_,a5⟩ | ⟨g,f,ab,z,_⟩
     . rw[a5]at l;omega
     . have I:Gw.ev E x= .slice (some ⟨g,0,none⟩) M.length f:=(show Gw.ev E x=B k from H).trans z;refine Ja (v:= .pointer (some ⟨g,i.toNat*t.size+0,none⟩)) (fun r _=> ?_) ⟨g,M.length,f,z,by omega,rfl⟩ Q;have:=B5s (P:=P) (w:=r) (ty:=ty) (sz:=t.size) I G o n l;rwa[K5,sF]at this
   . cases b
 . rename_i k sz a a3;cases b;obtain⟨n,l⟩:=J;have o:=D sz (.inr ⟨_,_,rfl⟩);obtain⟨A,aa,f,z,V,W,ae,af,ag,ah,ai,R⟩:=H;have a6:¬f=a.toNat:=by omega
   rw[qK a6]at R;obtain⟨g,rfl⟩:∃g,A=some ⟨g,0,none⟩:=by
    cases A with
    |none=>have:=W rfl;omega
    |some x=>obtain⟨g,rfl⟩:=V x rfl;exact⟨g,rfl⟩
   have I:Gw.ev E x= .slice (some ⟨g,a.toNat*sz,none⟩) (a3.toNat-a.toNat) (f-a.toNat):=by
    rw[R,vW,K5,sF]
   refine Ja (v:= .pointer (some ⟨g,(a+i).toNat*sz+0,none⟩)) (fun r _=> ?_) ⟨g,aa,f,z,by omega,rfl⟩ Q;have:=B5s (P:=P) (w:=r) (ty:=ty) (sz:=sz) I G o n (by omega);rw[K5]at this;rw[show(a+i).toNat*sz+0=a.toNat*sz+i.toNat*sz by rw[<-uU,show(a+i).toNat=a.toNat+i.toNat by omega,tC]];exact this
 . cases b
def C2f (h:B7 za w0 st E w Z B) {T ty e:TypeId} {s:Nat} {x:Operand} {c:C} {n:Int} (d:RC w Z B c (Gw.ev E x)) (a:C2e st c=some n) (i:Ho P T e s=true) (o:∀k,c≠ .mp k):
 Zf P st E w Z B ty (.call ⟨.builtin .len, #[x], #[T]⟩) (.one ⟨false,[.val (.int .i64) n]⟩):=by
 have mk:∀(f:Option Addr) (m b:Nat),Gw.ev E x= .slice f m b->m<=maxLen->Zf P st E w Z B ty (.call ⟨.builtin .len, #[x], #[T]⟩) (.one ⟨false,[.val (.int .i64) (m:Int)]⟩):=fun f m b g hm=>
  Ja (fun j _=>C7q g i) ⟨rfl,by
   unfold OR;have i:i64.min= -9223372036854775808:=by decide
   have i:i64.max=9223372036854775807:=by decide
   simp only[maxLen]at hm;omega⟩ trivial
 unfold C2e at a;split at a
 . cases a;obtain⟨f,b,i,j,l,_⟩:=d;simp only[sI,vN]at i;exact mk f _ b i (qX j l)
 . rename_i k;split at a
   . rename_i t l i;cases a;obtain⟨j,l,r⟩:=B1v h i;have d:Gw.ev E x=B k:=d;rcases r.2 with⟨g,a⟩ | ⟨u,b,t,i,_,_,j,l,_⟩
     . rw[a];exact mk none 0 0 (d.trans g) (rK _)
     . exact mk _ _ b (d.trans i) (qX j l)
   . cases a
 . exact absurd rfl (o _)
 . cases a;exact mk none 0 0 (show _= _ from d.1) (rK _)
 . rename_i k sz l j;cases a;obtain⟨f,n,b,i,y,z,o,r,t,u,v,g⟩:=d;have:=mk _ _ _ g (by omega);rwa[show((j.toNat-l.toNat:Nat):Int)=j-l by omega]at this
 . cases a
end
section
variable {za:Zn} {w0 w:World} {Z:Nat->Prop} {B:Nat->Value} {st:St} {E:G2} {P:Program}
def A5q {T e ty:TypeId} {x:Operand} {lo d:Option Operand} {a:Option Addr} {len b size l h:Nat} (r:Gw.ev E x= .slice a len b) (f:Ho P T e size=true)
 (c:match lo with|none=>l=0|some o=>∃k,Gw.ev E o= .int k (l:Int)) (hhi:match d with|none=>h=len|some o=>∃k,Gw.ev E o= .int k (h:Int)) (hlh:l<=h) (hhc:h<=b) (w:World):
 Gw.E7 P E ty (.slice T x lo d none) w (.slice (if b=l then a else a.map (·.add (l*size))) (h-l) (b-l)) w:=fun _ _ _ _=>by
 obtain⟨n,g⟩:=Kc f;have i:=Gw.Ga (P:=P) (w:=w) g;have f:(l:Int)<=(h:Int):=by omega
 have g:(h:Int)<=(b:Int):=by omega
 have j:(Instr.sliceBounds true len b (lo.map (Gw.ev E)) (d.map (Gw.ev E)) none).run P w= .ok (l,h,b) w:=by
  unfold Instr.sliceBounds;cases d with
  |none=>
   simp only at hhi;subst hhi;cases lo with
   |none=>simp only at c;subst c;simp[go_sem]
   |some o=>obtain⟨k,b⟩:=c;simp[Instr.sliceBound,asIntOf,b,f,hlh,go_sem]
  |some b=>
   obtain⟨d,b⟩:=hhi;cases lo with
   |none=>simp only at c;subst c;simp[Instr.sliceBound,asIntOf,b,g,hhc,go_sem]
   |some o=>obtain⟨k,d⟩:=c;simp[Instr.sliceBound,asIntOf,d,b,f,g,hlh,hhc,go_sem]
 simp only[execOp,r];unfold Instr.sliceAt Instr.slice;simp only[Sem.run_bind,run_underlying n,Result.andThen_ok,Option.map_none,j,i,Sem.run_pure]
def A9k (E:G2):Option Operand->Option Int->Prop
 |none,i=>i=none
 |some o,i=>∃k j,i=some j/\Gw.ev E o= .int k j
def A5d {t:Ty} {a:Option Addr} {n c:Nat} {l:List t.den} {L H:Int} (h:C5 (.sl t) w Z [.slice a n c] l) (D:0<=L) (E:L<=H) (r:H<=(n:Int)):
 C5 (.sl t) w Z [.slice (if c=L.toNat then a else a.map (·.add (L.toNat*t.size))) (H.toNat-L.toNat) (c-L.toNat)] ((l.take H.toNat).drop L.toNat):=by
 obtain⟨A,B,i,F,I,x,d⟩:=h;simp only[sI,vN,Value.slice.injEq]at i;obtain⟨rfl,rfl,rfl⟩:=i;have f:((l.take H.toNat).drop L.toNat).length=H.toNat-L.toNat:=by simp;omega
 refine⟨_,_,by rw[f],by rw[f];omega,by omega,fun b=> ?_, ?_⟩
 . split at b
   . omega
   . have:=x (by simpa using b);omega
 by_cases G:H.toNat=L.toNat
 . left;exact qR (by rw[f];omega)
 . right;rcases d with d| ⟨k,z,g,s,b,u,v⟩
   . subst d;simp at r;omega
   . subst s;have o:=G1.drop (fun _ _ h=>C5.length h) L.toNat (G1.take (fun _ _ h=>C5.length h) H.toNat v);refine⟨k,z+L.toNat*t.size,(g.take (H.toNat*t.size)).drop (L.toNat*t.size), ?_,b, ?_,o⟩
     . rw[qK (by omega),vW,K5]
     . have j:=S6 u 0 (H.toNat*t.size);rw[tW,tC]at j;have y:=S6 j (L.toNat*t.size) ((g.take (H.toNat*t.size)).drop (L.toNat*t.size)).length;rwa[uW]at y
def oP (h:B7 za w0 st E w Z B) {T ty e:TypeId} {x:Operand} {lo j:Option Operand} {o n:Option Int} {c a:C} {φ:Option Prop} (d:RC w Z B c (Gw.ev E x)) (g:A2n st o n c=some (φ,a)) (a1:Cr st.nx c) (O:RH φ)
 (A:A9k E lo o) (z:A9k E j n)
 (N:∀s,(∃t y,a= .val (.sl t) y/\s=t.size)\/(∃k lo j,a= .win k s lo j)->Ho P T e s=true):Zf P st E w Z B ty (.slice T x lo j none) (.one ⟨false,[a]⟩):=by
 unfold A2n at g;split at g
 . rename_i t l;cases g;have G:=N t.size (.inl ⟨t,_,rfl,rfl⟩);obtain⟨J,M,D⟩:=O;obtain⟨i,a,b,f,r,R,v⟩:=d;simp only[sI,vN]at b;generalize f:o.getD 0=L at*;generalize u:n.getD (l.length:Int)=H at*;have F:((l.take H.toNat).drop L.toNat).length=H.toNat-L.toNat:=by simp;omega
   refine Ja (fun I _=>A5q (l:=L.toNat) (h:=H.toNat) b G ?_ ?_ (by omega) (by omega) I) ?_ trivial
   . cases lo with
     |none=>rw[show o=none from A]at f;simp at f;simp only;omega
     |some r=>obtain⟨k,U,b,Q⟩:=A;subst b;simp at f;subst f;exact⟨k,by rw[Q];congr 1;omega⟩
   . cases j with
     |none=>rw[show n=none from z]at u;simp at u;simp only;omega
     |some r=>obtain⟨k,U,b,Q⟩:=z;subst b;simp at u;subst u;exact⟨k,by rw[Q];congr 1;omega⟩
   . refine⟨_,_,by rw[F],by rw[F];omega,by omega,fun u=> ?_, ?_⟩
     . split at u
       . omega
       . have:=R (by simpa using u);omega
     by_cases Q:H.toNat=L.toNat
     . left;exact qR (by rw[F];omega)
     . right;rcases v with v| ⟨Q,r,F,R,u,U,V⟩
       . subst v;simp at D;omega
       . subst R;have b:=G1.drop (fun _ _ h=>C5.length h) L.toNat (G1.take (fun _ _ h=>C5.length h) H.toNat V);refine⟨Q,r+L.toNat*t.size,(F.take (H.toNat*t.size)).drop (L.toNat*t.size), ?_,u, ?_,b⟩
         . rw[qK (by omega),vW,K5]
         . have u:=S6 U 0 (H.toNat*t.size);rw[tW,tC]at u;have v:=S6 u (L.toNat*t.size) ((F.take (H.toNat*t.size)).drop (L.toNat*t.size)).length;rwa[uW]at v
 . rename_i k;split at g
   . rename_i t v l u;cases g;have G:=N t.size (.inr ⟨_,_,_,rfl⟩);obtain⟨J,M,D⟩:=O;have f:=h.locs k;rw[u]at f;obtain⟨u,a0,_,_⟩:=f;have V:Gw.ev E x=B k:=d;generalize v:o.getD 0=L at*;generalize u:n.getD (l.length:Int)=H at*;obtain⟨i,a,N,O,U,Q,R⟩:∃i a,B k= .slice i l.length a/\(∀x,i=some x->∃f,x=⟨f,0,none⟩)/\(i=none->a=0)/\l.length<=a/\a<=maxLen:=by
      rcases a0.2 with⟨F,X⟩ | ⟨f,a,a2,F,_,_,Y,W,_⟩
      . exact⟨none,0,by rw[F,X],fun x d=>(by cases d),fun _=>rfl,by omega,rK _⟩
      . exact⟨some ⟨f,0,none⟩,a,F,fun x d=>⟨f,by cases d;rfl⟩,fun d=>(by cases d),Y,W⟩
     refine Ja (fun I _=>A5q (l:=L.toNat) (h:=H.toNat) (V.trans N) G ?_ ?_ (by omega) (by omega) I) ⟨i,l.length,a,N,O,U,J,M,D,Q,R,rfl⟩ a1
     . cases lo with
       |none=>rw[show o=none from A]at v;simp at v;simp only;omega
       |some r=>obtain⟨k,i,b,a⟩:=A;subst b;simp at v;subst v;exact⟨k,by rw[a];congr 1;omega⟩
     . cases j with
       |none=>rw[show n=none from z]at u;simp at u;simp only;omega
       |some r=>obtain⟨k,i,b,a⟩:=z;subst b;simp at u;subst u;exact⟨k,by rw[a];congr 1;omega⟩
   . cases g
 . cases g
def B7h (P:Program) (T:TypeId) (k:IntKind):Bool:=match P.underlying T with|some (.int k')=>decide (k=k') | _=>false
def dL {T:TypeId} {k:IntKind} (h:B7h P T k=true):P.underlying T=some (.int k):=by
 unfold B7h at h;split at h
 . rename_i b a;have:=qA h;subst this;exact a
 . cases h
def B6q {T T' ty:TypeId} {x:Operand} {k k':IntKind} {a:Int} (b:RC w Z B (.val (.int k) a) (Gw.ev E x)) (c:∃d,P.underlying T=some d) (f:B7h P T' k'=true):Zf P st E w Z B ty (.convert T T' x) (.one ⟨false,[.val (.int k') (k'.wrap a)]⟩):=by
 obtain⟨b,_⟩:=b;simp only[sI,vN]at b;obtain⟨d,g⟩:=c;have c:=dL f;refine Ja (v:= .int k' (k'.wrap a)) (fun f _=> ?_) ⟨rfl,Oj _ _⟩ trivial;intro _ _ _ _;simp[execOp,convert,b,run_underlying g,run_underlying c,Conv.intToInt,go_sem]
def unC (op:UnOp):C->Option C
 | .val .bool b=>match op with
  | .not=>some (.val .bool (!b))
  | _=>none
 | .val (.int k) a=>match op with
  | .neg=>some (.val (.int k) (k.wrap (-a)))
  | .xor=>some (.val (.int k) (k.wrap (BitVec.ofInt k.bits (if k.signed then -1 else k.max)^^^BitVec.ofInt k.bits a).toNat))
  | _=>none
 | _=>none
def C7j {op:UnOp} {T ty:TypeId} {x:Operand} {c b:C} (a:RC w Z B c (Gw.ev E x)) (h:unC op c=some b):Zf P st E w Z B ty (.unOp op T x) (.one ⟨false,[b]⟩):=by
 unfold unC at h;split at h
 . split at h
   . cases h;rename_i b _;have a:Gw.ev E x= .bool b:=by simpa[RC,C5]using a
     exact Ja (fun b _=>C7u a) rfl trivial
   . cases h
 . obtain⟨a,_⟩:=a;simp only[sI,vN]at a;split at h
   . cases h;exact Ja (fun b _=>C7t a) ⟨rfl,Oj _ _⟩ trivial
   . cases h;refine Ja (v:= .int _ _) (fun b _ _ _ _ _=>by simp[execOp,a,Op.unary,Op.intBits,go_sem]) ⟨rfl,Oj _ _⟩ trivial
   . cases h
 . cases h
def AC (place:Nat->Option (Nat×Nat)):List C->List (Nat×List C)->Option (List C)
 |a,[]=>some a
 |a,(i,c)::r=>match place i with
  |none=>none
  |some (b,sz)=>bif Nat.beq c.length sz&&Nat.ble (b+sz) a.length then AC place (a.take b++c++a.drop (b+sz)) r else none
def Fu:C->Bool
 | .dead=>false
 | _=>true
def C5.one1 {t:Ty} {v:Value} {x:t.den} (h:C5 t w Z [v] x):v.oneCell'=true:=C5.oneCell h v (by simp)
def RC.one (h:B7 za w0 st E w Z B) {c:C} {v:Value} (b:Fu c=true) (a:RC w Z B c v):v.oneCell'=true:=by
 cases c with
 |val t x=>exact C5.one1 a
 |row k=>rw[show v= _ from a];exact h.bone k
 |box k d=>obtain⟨d,_,e⟩:=a;rw[e];rfl
 |elp k sz i d=>obtain⟨d,_,_,_,_,e⟩:=a;rw[e];rfl
 |win k sz f d=>obtain⟨_,_,_,_,_,_,_,_,_,_,_,e⟩:=a;rw[e];rfl
 |pf t x d=>obtain⟨d,_,_,e,_⟩:=a;rw[e];rfl
 |mp k=>rw[show v= _ from a];exact h.bone k
 |fn f d=>rw[show v= _ from a];rfl
 |fv _ _ _ _ _ _=>obtain⟨_,_,e,_⟩:=a;rw[e];rfl
 |raw d=>rw[a.1];exact a.2
 |dead=>cases b
end
end Go.Vc
