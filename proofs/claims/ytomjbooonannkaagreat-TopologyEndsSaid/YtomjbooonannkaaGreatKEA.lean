/- Part. -/
import Derived.Orders
import Derived.OrdersHeld
import Derived.Below
import Derived.KernelRfl
import Derived.Deep.LoopGhost
import Derived.WalkKit
import Derived.OwnWalk
import Derived.Maps.RangeRun
import Derived.DeepKeys3
import Derived.Laws.Strings
set_option linter.all false
namespace Go.Gw
open Go Go.RowKit
abbrev G3:=Nat->Value
def upd (E:G3) (d:Nat) (v:Value):G3:=fun t=>bif Nat.beq t d then v else E t
def RV (E:G3):Option Tmp->Value->G3
 |some d,v=>upd E d v
 |none,_=>E
def ev (E:G3):Operand->Value
 | .tmp t=>E t
 | .const v=>v
 | .global g=> .pointer (some ⟨g,0,none⟩)
 | .func f=> .func (.func f) #[] #[]
theorem E6 {t d:Nat} (h:t≠d):Nat.beq t d=false:=by
 cases hb:Nat.beq t d with
 |false=>rfl
 |true=>exact absurd (Nat.eq_of_beq_eq_true hb) h
theorem A9 (E:G3) (d:Nat) (v:Value):upd E d v d=v:=by simp[upd]
theorem C1 (E:G3) (d t:Nat) (v:Value) (h:t≠d):upd E d v t=E t:=by
 have:Nat.beq t d=false:=E6 h;simp[upd,this]
structure C6 (n:Nat) (a:Act) (E:G3):Prop where
 size:a.tmps.size=n
 get:∀t,a.tmps.getD t undef=E t
 defers:a.defers= []
theorem C6.ev {n:Nat} {a:Act} {E:G3} (h:C6 n a E):a.eval=Gw.ev E:=by
 funext x;cases x with
 |tmp t=>exact h.get t
 | _=>rfl
def aM (n:Nat) (l:List Oper):Bool:=l.all fun o=>match o.dst with|some d=>decide (d<n) |none=>true
theorem C6.put {n:Nat} {a:Act} {E:G3} (h:C6 n a E) (o:Option Tmp) (v:Value) (ho:∀d,o=some d->d<n):C6 n (a.put o v) (RV E o v):=by
 cases o with
 |none=>exact h
 |some d=>
  have hd:=ho d rfl;refine⟨by simp[Act.put,h.size],fun t=> ?_,h.defers⟩;have hs:=h.size;have hg:=h.get t;by_cases htd:t=d
  . subst htd;simp[Act.put,RV,A9,Array.getElem?_setIfInBounds,hs,hd]
  . simp only[RV,C1 _ _ _ _ htd];rw[<-hg];simp[Act.put,Array.getElem?_setIfInBounds,Ne.symm htd]
def Ac (all:List Oper) (E:G3) (j:Nat):Option Bool:=
 match(all[j]?).bind (·.dst)with
 |some t=>match E t with| .bool b=>some b| _=>none
 |none=>none
def D4 (all:List Oper) (o:Oper) (E:G3):Bool:=
 match o.guard with
 |none=>true
 |some (j,want)=>Ac all E j==some want
theorem C6.yielded {n:Nat} {a:Act} {E:G3} (h:C6 n a E) (all:List Oper) (j:Nat):yielded all.toArray a.tmps j=Ac all E j:=by
 unfold Go.yielded Ac;rw[List.getElem?_toArray];cases hq:(all[j]?).bind (·.dst)with
 |none=>simp
 |some t=>
  simp only[Option.bind_some];have hg:=h.get t;cases ht:a.tmps[t]? with
  |none=>
   have:a.tmps.getD t undef=undef:=by simp[ht]
   rw[this]at hg;simp[<-hg,undef]
  |some v=>
   have:a.tmps.getD t undef=v:=by simp[ht]
   rw[this]at hg;rw[<-hg];cases v<;>rfl
theorem C6.wanted {n:Nat} {a:Act} {E:G3} (h:C6 n a E) (all:List Oper) (o:Oper):Region.wanted o (Go.yielded all.toArray a.tmps)=D4 all o E:=by
 unfold Region.wanted D4;cases o.guard with
 |none=>rfl
 |some g=>simp only[h.yielded]
def M2 (P:Program) (all:List Oper) (o:Oper) (next:G3->World->Prop) (E:G3) (w:World):Prop:=
 if D4 all o E=true then
  match(execOp (ev E) o).run P w with
  | .ok (.value v) w'=>next (RV E o.dst v) w'
  | .ok .skip w'=>next (RV E o.dst undef) w'
  | .ok (.enter f args) w'=>Calls P f args w' fun e w''=>∃v,e= .returned v/\next (RV E o.dst v) w''
  | _=>False
 else next (RV E o.dst undef) w
def JZ (P:Program) (all:List Oper) (next:G3->World->Prop):List Oper->G3->World->Prop
 | []=>next
 |o::r=>M2 P all o (JZ P all next r)
def AT (n:Nat) (Q:Exit->G3->World->Prop):Exit->Act->World->Prop:=fun e a w=>∃E,C6 n a E/\Q e E w
theorem I7 {P:Program} {all:List Oper} {o:Oper} {next next':G3->World->Prop} (h:∀E w,next E w->next' E w) {E:G3} {w:World} (hs:M2 P all o next E w):M2 P all o next' E w:=by
 unfold M2 at*;split
 . rename_i hw;simp only[hw,if_true]at hs;generalize (execOp (ev E) o).run P w=r at*;cases r with
   |ok m w'=>
    cases m<;>simp only at hs⊢
    case value v=>exact h _ _ hs
    case skip=>exact h _ _ hs
    case enter f args=>exact hs.mono fun e w'' ⟨v,he,hn⟩=>⟨v,he,h _ _ hn⟩
   |halt x w'=>exact hs
 . rename_i hw;simp only[hw]at hs;exact h _ _ hs
theorem EH {P:Program} {n:Nat} {all:List Oper} (hn:aM n all=true) {i:Nat} {o:Oper} (hi:all[i]? =some o) {Q:Exit->Act->World->Prop} {K:Act->World->Prop} {next:G3->World->Prop}
 (hK:∀a E w,C6 n a E->next E w->K a w) {a:Act} {E:G3} {w:World} (hr:C6 n a E) (h:M2 P all o next E w):wpOp P all.toArray Q i K a w:=by
 have hd:∀d,o.dst=some d->d<n:=fun d hd=>by
  have:=List.all_eq_true.1 hn o (List.mem_of_getElem? hi);simpa[hd]using this
 unfold wpOp;simp only[List.getElem?_toArray,hi];rw[hr.wanted];unfold M2 at h;split
 . rename_i hw;simp only[hw,if_true]at h;refine .inl ?_;unfold Oper.wp;rw[hr.ev];generalize (execOp (ev E) o).run P w=r at*;cases r with
   |ok m w'=>
    cases m<;>simp only at h
    case value v=>exact hK _ _ _ (hr.put _ _ hd) h
    case skip=>exact hK _ _ _ (hr.put _ _ hd) h
    case enter f args=>
     refine h.mono fun e w'' ⟨v,he,hn⟩=> ?_
     subst he;exact hK _ _ _ (hr.put _ _ hd) hn
   |halt x w'=>exact h.elim
 . rename_i hw;simp only[hw]at h;exact hK _ _ _ (hr.put _ _ hd) h
theorem EC {P:Program} {n:Nat} {all:List Oper} (hn:aM n all=true) {Q:Exit->G3->World->Prop} :
 ∀(rest:List Oper) (k:Nat),(∀j,rest[j]? =all[k+j]?)->∀(a:Act) (E:G3) (w:World),C6 n a E->JZ P all (Q .normal) rest E w->
  wpOps P all.toArray (AT n Q) (List.range' k rest.length) a w
 | [],_,_,a,E,w,hr,h=>⟨E,hr,h⟩
 |o::rest,k,hl,a,E,w,hr,h=>by
  have h0:all[k]? =some o:=by simpa using(hl 0).symm
  rw[List.length_cons,List.range'_succ,wpOps_cons];refine EH hn h0 (fun a' E' w' hr' hh=> ?_) hr h;exact EC hn rest (k+1) (fun j=>by have:=hl (j+1);simpa[Nat.add_assoc,Nat.add_comm 1 j]using this) a' E' w' hr' hh
inductive WI where
 |done
 |q (i:Nat) (p:WI)
 |p (i:Nat) (p:WI)
 |e (i:Nat) (p:WI)
 |br (i:Nat) (p:WI) (j:Nat) (p':WI)
def I2 (tails:List Nat) (listed:Array Bool):Bool:=tails.any fun i=>listed.getD i false
inductive Reach (ops:Array Oper) (j:Nat):Nat->Prop
 |one {oj:Oper} {e:Edge} :ops[j]? =some oj->e∈oj.after->Region.binds .any e=true->Reach ops j e.on
 |more {i:Nat} {oi:Oper} {e:Edge} :Reach ops j i->ops[i]? =some oi->e∈oi.after->Region.binds .any e=true->Reach ops j e.on
def gX (all:List Oper) (i:Nat):List Nat:=match all[i]? with
 |some o=>(o.after.toList.filter fun e=>Region.binds .any e).map (·.on)
 |none=> []
def fY (all:List Oper):List Nat->List Nat->List Nat
 | [],s=>s
 |i::r,s=>fY all r (bif s.contains i then s++(gX all i).filter (fun x=> !(s.contains x))else s)
def Zy (all:List Oper) (heads tails:List Nat):Bool:=
 tails.all fun j=>(fun s=>heads.all fun i=>s.contains i) (fY all (List.range j).reverse (gX all j))
theorem ZP {all:List Oper} {i x:Nat} (h:x∈gX all i):∃oi e,all.toArray[i]? =some oi/\e∈oi.after/\Region.binds .any e=true/\e.on=x:=by
 unfold gX at h;split at h
 . rename_i o ho;obtain⟨e,he,rfl⟩:=List.mem_map.1 h;obtain⟨h1,h2⟩:=List.mem_filter.1 he;exact⟨o,e,by rw[List.getElem?_toArray];exact ho,by simpa using h1,h2,rfl⟩
 . cases h
theorem VJ {all:List Oper} {j:Nat} :∀ {r s:List Nat},(∀x∈s,Reach all.toArray j x)->∀x∈fY all r s,Reach all.toArray j x
 | [],_,h,x,hx=>h x hx
 |i::r,s,h,x,hx=>by
  refine VJ (r:=r) (fun y hy=> ?_) x hx;cases hc:s.contains i with
  |false=>rw[hc]at hy;exact h y hy
  |true=>
   rw[hc]at hy;simp only[cond_true,List.mem_append]at hy;rcases hy with hy|hy
   . exact h y hy
   . obtain⟨oi,e,h1,h2,h3,rfl⟩:=ZP (List.mem_filter.1 hy).1;exact .more (h i (by simpa using hc)) h1 h2 h3
theorem Xx {all:List Oper} {heads tails:List Nat} (hw:Zy all heads tails=true):∀(j:Nat) (oj:Oper),all.toArray[j]? =some oj->j∈tails->∀h∈heads,Reach all.toArray j h:=by
 intro j oj hj hjt h hh;have h1:=List.all_eq_true.1 hw j hjt;have h2:=List.all_eq_true.1 h1 h hh;refine VJ (fun x hx=> ?_) h (by simpa using h2);obtain⟨oi,e,q1,q2,q3,rfl⟩:=ZP hx;exact .one q1 q2 q3
def Qm (P:Program) (S:World->Prop) (all:List Oper) (o:Oper) (next:G3->World->Prop) (E:G3) (w:World):Prop:=
 (D4 all o E=true/\∃v,(∀w',S w'->(execOp (ev E) o).run P w'= .ok (.value v) w')/\next (RV E o.dst v) w)\/
 (D4 all o E=false/\next (RV E o.dst undef) w)
def TX (P:Program) (S:World->Prop) (all:List Oper) (tails:List Nat) (next:G3->World->Prop):WI->Bool->G3->World->Prop
 | .done,_=>next
 | .q i p,t=>fun E w=>∃o,all[i]? =some o/\Qm P S all o (TX P S all tails next p t) E w
 | .p i p,t=>fun E w=>∃o,all[i]? =some o/\Qm P (fun _=>True) all o (TX P S all tails next p t) E w
 | .e i p,t=>fun E w=>∃o,all[i]? =some o/\M2 P all o (fun E' w'=>((t||tails.contains i)=true\/S w')/\TX P S all tails next p (t||tails.contains i) E' w') E w
 | .br i p j p',t=>fun E w=>(∃o,all[i]? =some o/\M2 P all o (fun E' w'=>((t||tails.contains i)=true\/S w')/\TX P S all tails next p (t||tails.contains i) E' w') E w)/\
  (∃o,all[j]? =some o/\M2 P all o (fun E' w'=>((t||tails.contains j)=true\/S w')/\TX P S all tails next p' (t||tails.contains j) E' w') E w)
section held
variable {P:Program} {ops:Array Oper} {Q:Exit->Act->World->Prop} {S:World->Prop} {heads tails:List Nat}
def X7 (P:Program) (ops:Array Oper) (Q:Exit->Act->World->Prop) (S:World->Prop) (tails:List Nat):Nat->Array Bool->Act->World->Prop
 |0,listed,a,w=>Region.ready .any ops listed= []/\Q .normal a w
 |fuel+1,listed,a,w=>
  (Region.ready .any ops listed= []->Q .normal a w)/\∀i∈Region.ready .any ops listed,wpOp P ops Q i (fun a' w'=>(I2 tails (listed.setIfInBounds i true)=true\/S w')/\X7 P ops Q S tails fuel (listed.setIfInBounds i true) a' w') a w
theorem SN:∀(fuel:Nat) (listed:Array Bool) (a:Act) (w:World),X7 P ops Q S tails fuel listed a w->wpAny P .any ops Q fuel listed a w
 |0,_,_,_,h=>h
 |fuel+1,_,_,_,h=>⟨h.1,fun i hi=>wpOp_mono (fun a' w' h'=>SN fuel _ a' w' h'.2) (h.2 i hi)⟩
def dX (ops:Array Oper) (listed:Array Bool):Prop:=∀(i:Nat) (oi:Oper),ops[i]? =some oi->listed.getD i false=true->∀e∈oi.after,Region.binds .any e=true->listed.getD e.on false=true
def SX (ops:Array Oper) (heads tails:List Nat) (listed:Array Bool):Prop:=dX ops listed/\(I2 tails listed=true->∀h∈heads,listed.getD h false=true)
theorem aH (ops:Array Oper) (n:Nat):dX ops (Array.replicate n false):=fun i oi _ hl=>by
 simp only[Array.getD_eq_getD_getElem?,Array.getElem?_replicate]at hl;split at hl<;>cases hl
theorem Reach.listed {ops:Array Oper} {listed:Array Bool} {j h:Nat} (hc:dX ops listed) (hj:j∈Region.ready .any ops listed) (hr:Reach ops j h):listed.getD h false=true:=by
 induction hr with
 |one ho he hb=>
  obtain⟨_,oj,hoj,hall⟩:=mem_ready.1 hj;rw[ho]at hoj;cases hoj;exact hall _ he hb
 |more _ ho he hb ih=>exact hc _ _ ho ih _ he hb
theorem BY {listed:Array Bool} {i:Nat} (h:listed.getD i true=false):listed.getD i false=false:=by
 rcases Nat.lt_or_ge i listed.size with h'|h'
 . simp[h']at h⊢;exact h
 . simp[Array.getElem?_eq_none h']
theorem L1 {listed:Array Bool} {i:Nat} (hi:i∉tails):I2 tails (listed.setIfInBounds i true)=I2 tails listed:=by
 unfold I2;rw[Bool.eq_iff_iff,List.any_eq_true,List.any_eq_true];constructor
 . rintro⟨x,hx,h⟩;have hne:i≠x:=fun e=>hi (by rw[e];exact hx)
   exact⟨x,hx,by rw[getD_set_ne false hne]at h;exact h⟩
 . rintro⟨x,hx,h⟩;have hne:i≠x:=fun e=>hi (by rw[e];exact hx)
   exact⟨x,hx,by rw[getD_set_ne false hne];exact h⟩
theorem De {listed:Array Bool} {i:Nat} (h:I2 tails listed=true):I2 tails (listed.setIfInBounds i true)=true:=by
 unfold I2 at*;rw[List.any_eq_true]at*;obtain⟨x,hx,h⟩:=h;exact⟨x,hx,getD_set_true h⟩
theorem SX.set (hwait:∀(j:Nat) (oj:Oper),ops[j]? =some oj->j∈tails->∀h∈heads,Reach ops j h) {listed:Array Bool} {j:Nat} (hd:SX ops heads tails listed) (hj:j∈Region.ready .any ops listed):SX ops heads tails (listed.setIfInBounds j true):=by
 obtain⟨_,oj,hoj,hall⟩:=mem_ready.1 hj;refine⟨fun i oi hi hl e he hb=> ?_,fun ht h hh=> ?_⟩
 . by_cases hij:i=j
   . subst hij;rw[hoj]at hi;cases hi;exact getD_set_true (hall e he hb)
   . rw[getD_set_ne false (Ne.symm hij)]at hl;exact getD_set_true (hd.1 i oi hi hl e he hb)
 . by_cases hjt:j∈tails
   . exact getD_set_true ((hwait j oj hoj hjt h hh).listed hd.1 hj)
   . rw[L1 hjt]at ht;exact getD_set_true (hd.2 ht h hh)
theorem IF {i:Nat} {oi:Oper} {v:Value} (hi:ops[i]? =some oi) (hih:i∈heads) (hit:i∉tails) (hsel:∀(j:Nat) (o:Oper) cs b,ops[j]? =some o->o.op≠ .select cs b)
 (hwait:∀(j:Nat) (oj:Oper),ops[j]? =some oj->j∈tails->∀h∈heads,Reach ops j h)
 (hQ:∀c a w,Q (.panic c) (a.put oi.dst v) w->Q (.panic c) a w):
 ∀(fuel:Nat) (listed:Array Bool) (a:Act) (w:World),SX ops heads tails listed->
  (∀j oj,ops[j]? =some oj->j≠i->listed.getD j true=false->(∀e∈oj.after,Region.binds .any e=true->e.on≠i)->oi.apart ops oj=true)->
  i∈Region.ready .any ops listed->YieldsIf P ops S oi v a->S w->
  X7 P ops Q S tails fuel (listed.setIfInBounds i true) (a.put oi.dst v) w->X7 P ops Q S tails (fuel+1) listed a w:=by
 intro fuel
 induction fuel with
 |zero=>
  intro listed a w _ _ hr hy hS H;refine⟨fun h=>(by rw[h]at hr;cases hr),fun j hj=> ?_⟩;by_cases hji:j=i
  . subst hji;exact hy.wpOp hi hS ⟨.inr hS,H⟩
  . have:=ready_mono hj hji;rw[H.1]at this;cases this
 |succ fuel ih=>
  intro listed a w hd hfree hr hy hS H;have hli:listed.getD i false=false:=BY (mem_ready.1 hr).1;refine⟨fun h=>(by rw[h]at hr;cases hr),fun j hj=> ?_⟩;by_cases hji:j=i
  . subst hji;exact hy.wpOp hi hS ⟨.inr hS,H⟩
  . obtain⟨hjun,oj,hoj,hall⟩:=mem_ready.1 hj;have hnot:∀e∈oj.after,Region.binds .any e=true->e.on≠i:=fun e he hb heq=>by
     have h1:=hall e he hb;rw[heq]at h1;rw[hli]at h1;cases h1
    have hjt:j∉tails:=fun hjt=>by
     have:=(hwait j oj hoj hjt i hih).listed hd.1 hj;rw[hli]at this;cases this
    have hnt:I2 tails listed=false:=by
     cases ht:I2 tails listed with
     |false=>rfl
     |true=>have:=hd.2 ht i hih;rw[hli]at this;cases this
    have h1:=H.2 j (ready_mono hj hji);have h2:=wpOp_putIf hoj (hfree j oj hoj hji hjun hnot) (fun cs b=>hsel i oi cs b hi) (fun cs b=>hsel j oj cs b hoj) hQ hy h1;have hfree':∀k ok,ops[k]? =some ok->k≠i->(listed.setIfInBounds j true).getD k true=false->
     (∀e∈ok.after,Region.binds .any e=true->e.on≠i)->oi.apart ops ok=true:=fun k ok hk hki hun hno=>by
     refine hfree k ok hk hki ?_ hno;by_cases hjk:j=k
     . subst hjk;exact hjun
     . rw[getD_set_ne true hjk]at hun;exact hun
    refine wpOp_mono (fun a' w' h3=> ?_) h2;have hS':S w':=by
     rcases h3.2.1 with ht|hS'
     . rw[L1 hjt,L1 hit,hnt]at ht;cases ht
     . exact hS'
    refine⟨.inr hS',ih (listed.setIfInBounds j true) a' w' (hd.set hwait hj) hfree' (ready_mono hr (Ne.symm hji)) h3.1 hS' ?_⟩;rw[Array.setIfInBounds_comm _ _ hji];exact h3.2.2
theorem Zb {i:Nat} {oi:Oper} {v:Value} (hi:ops[i]? =some oi) (hit:i∉tails) (hsel:∀(j:Nat) (o:Oper) cs b,ops[j]? =some o->o.op≠ .select cs b)
 (hQ:∀c a w,Q (.panic c) (a.put oi.dst v) w->Q (.panic c) a w):
 ∀(fuel:Nat) (listed:Array Bool) (a:Act) (w:World),
  (∀j oj,ops[j]? =some oj->j≠i->listed.getD j true=false->(∀e∈oj.after,Region.binds .any e=true->e.on≠i)->oi.apart ops oj=true)->
  i∈Region.ready .any ops listed->YieldsIf P ops (fun _=>True) oi v a->(I2 tails listed=true\/S w)->
  X7 P ops Q S tails fuel (listed.setIfInBounds i true) (a.put oi.dst v) w->X7 P ops Q S tails (fuel+1) listed a w:=by
 intro fuel
 induction fuel with
 |zero=>
  intro listed a w _ hr hy hS H;refine⟨fun h=>(by rw[h]at hr;cases hr),fun j hj=> ?_⟩;by_cases hji:j=i
  . subst hji;exact hy.wpOp hi trivial ⟨hS.imp De id,H⟩
  . have:=ready_mono hj hji;rw[H.1]at this;cases this
 |succ fuel ih=>
  intro listed a w hfree hr hy hS H;have hli:listed.getD i false=false:=BY (mem_ready.1 hr).1;refine⟨fun h=>(by rw[h]at hr;cases hr),fun j hj=> ?_⟩;by_cases hji:j=i
  . subst hji;exact hy.wpOp hi trivial ⟨hS.imp De id,H⟩
  . obtain⟨hjun,oj,hoj,hall⟩:=mem_ready.1 hj;have hnot:∀e∈oj.after,Region.binds .any e=true->e.on≠i:=fun e he hb heq=>by
     have h1:=hall e he hb;rw[heq]at h1;rw[hli]at h1;cases h1
    have h1:=H.2 j (ready_mono hj hji);have h2:=wpOp_putIf hoj (hfree j oj hoj hji hjun hnot) (fun cs b=>hsel i oi cs b hi) (fun cs b=>hsel j oj cs b hoj) hQ hy h1;have hfree':∀k ok,ops[k]? =some ok->k≠i->(listed.setIfInBounds j true).getD k true=false->
     (∀e∈ok.after,Region.binds .any e=true->e.on≠i)->oi.apart ops ok=true:=fun k ok hk hki hun hno=>by
     refine hfree k ok hk hki ?_ hno;by_cases hjk:j=k
     . subst hjk;exact hjun
     . rw[getD_set_ne true hjk]at hun;exact hun
    refine wpOp_mono (fun a' w' h3=> ?_) h2;have hS':I2 tails (listed.setIfInBounds j true)=true\/S w':=by
     refine h3.2.1.imp (fun ht=> ?_) id;rw[Array.setIfInBounds_comm _ _ (Ne.symm hji),L1 hit]at ht;exact ht
    refine⟨hS',ih (listed.setIfInBounds j true) a' w' hfree' (ready_mono hr (Ne.symm hji)) h3.1 hS' ?_⟩;rw[Array.setIfInBounds_comm _ _ hji];exact h3.2.2
end held
theorem P9 {l:List Nat} {i:Nat} (h:l.contains i=false):i∉l:=by
 intro hm;have:l.contains i=true:=by simpa using hm
 rw[h]at this;cases this
theorem aC {tails:List Nat} {listed:Array Bool} {i:Nat} (hlt:i<listed.size):I2 tails (listed.setIfInBounds i true)=(I2 tails listed||tails.contains i):=by
 cases hc:tails.contains i with
 |false=>rw[L1 (P9 hc)];simp
 |true=>
  rw[Bool.or_true];unfold I2;rw[List.any_eq_true];exact⟨i,by simpa using hc,by simp[Array.getElem?_setIfInBounds,hlt]⟩
theorem pZ {ops:Array Oper} {listed:Array Bool} {i:Nat} (h:i∈Region.ready .any ops listed):i<listed.size:=by
 have:=(mem_ready.1 h).1;rcases Nat.lt_or_ge i listed.size with h'|h'
 . exact h'
 . simp[Array.getElem?_eq_none h']at this
def V3 (n:Nat):Code->Bool
 | .region _ ops _=>aM n ops.toList
 | .seq a b=>V3 n a&&V3 n b
 | .cond _ a b=>V3 n a&&V3 n b
 | .block _ b=>V3 n b
 | .loop b=>V3 n b
 | .scope b=>V3 n b
 | .rangeFunc .. =>false
 | _=>true
def Wp (P:Program) (n:Nat) (c:Code) (Q:Exit->G3->World->Prop) (E:G3) (w:World):Prop:=
 V3 n c=true->∀a,C6 n a E->c.wp P (AT n Q) a w
inductive Fr where
 |code (c:Code)
 |blk (id:Nat)
 |ops (all rest:List Oper)
 |dops (S:World->Prop) (all:List Oper) (tails:List Nat) (p:WI) (t:Bool)
 |chk (S:World->Prop)
 |upto (I:G3->World->Prop)
def Den (P:Program) (n:Nat) (R:G3->World->Prop):List Fr->Exit->G3->World->Prop
 | [], .normal=>R
 | [], .ret=>R
 | [],_=>fun _ _=>False
 | .code c::k, .normal=>Wp P n c (Den P n R k)
 | .blk _::k, .normal=>Den P n R k .normal
 | .ops all rest::k, .normal=>JZ P all (Den P n R k .normal) rest
 | .dops S all tails p t::k, .normal=>TX P S all tails (Den P n R k .normal) p t
 | .chk S::k, .normal=>fun E w=>S w/\Den P n R k .normal E w
 | .upto I:: _, .normal=>I
 | .blk id::k, .exit j=>if j=id then Den P n R k .normal else Den P n R k (.exit j)
 | _::k,e=>Den P n R k e
structure Go (P:Program) (n:Nat) (R:G3->World->Prop) (k:List Fr) (E:G3) (w:World):Prop where
 out:Den P n R k .normal E w
section rules
variable {P:Program} {n:Nat} {R:G3->World->Prop} {k:List Fr} {E:G3} {w:World}
def ZJ (mods:List Nat) (E E0:G3):Prop:=∀t,mods.contains t=false->E t=E0 t
theorem ZJ.refl (mods:List Nat) (E:G3):ZJ mods E E:=fun _ _=>rfl
theorem ZJ.upd {mods:List Nat} {E E0:G3} {d:Nat} {v:Value} (hd:mods.contains d=true) (h:ZJ mods E E0):ZJ mods (upd E d v) E0:=fun t ht=>by
 rw[C1]
 . exact h t ht
 . intro e;subst e;rw[hd]at ht;cases ht
end rules
def KW (args:List Value):G3:=fun t=>(args[t]?).getD undef
theorem Wm {P:Program} {f:FuncId} {fn:Func} {c:Code} {args:List Value} {w:World} {Φ:Value->World->Prop} (hf:P.funcs[f]? =some fn) (hb:fn.body=some c)
 (hn:args.length<=fn.ntmps) (hok:V3 fn.ntmps c=true) (R:G3->World->Prop)
 (hR:∀E w (tmps:Array Value),(∀t,tmps.getD t undef=E t)->R E w->∃v,(results fn tmps).run P w= .ok v w/\Φ v w)
 (h:Go P fn.ntmps R [.code c] (KW args) w):
 Calls P f args.toArray w fun e w'=>∃v,e= .returned v/\Φ v w':=by
 refine calls_of_wp hf hb ?_;have hrep:C6 fn.ntmps {tmps:=args.toArray++Array.replicate (fn.ntmps-args.toArray.size) undef,defers:= []} (KW args):=by
  refine⟨by simp;omega,fun t=> ?_,rfl⟩;unfold KW;simp only[Array.getD_eq_getD_getElem?,Array.getElem?_append,List.size_toArray,List.getElem?_toArray,Array.getElem?_replicate];split
  . rfl
  . rename_i hlt;rw[List.getElem?_eq_none (by omega)];split<;>rfl
 refine wp_mono (h.out hok _ hrep) ?_;rintro e a' w' ⟨E',hr',hq⟩;cases e with
 |normal=>obtain⟨v,hv,hΦ⟩:=hR E' w' a'.tmps hr'.get hq;exact⟨hr'.defers,v,hv,v,rfl,hΦ⟩
 |ret=>obtain⟨v,hv,hΦ⟩:=hR E' w' a'.tmps hr'.get hq;exact⟨hr'.defers,v,hv,v,rfl,hΦ⟩
 |exit j=>exact hq.elim
 |goto l=>exact hq.elim
 |panic c=>exact hq.elim
 |outgrown=>exact hq.elim
def C8 (P:Program) (E:G3) (ty:TypeId) (op:Op) (w:World) (v:Value) (w':World):Prop:=
 ∀(d:Option Tmp) (pos:String) (aft:Array Edge) (g:Option (Nat×Bool)),(execOp (ev E) ⟨d,op,ty,pos,aft,g⟩).run P w= .ok (.value v) w'
def EV (P:Program) (E:G3) (ty:TypeId) (op:Op) (w w':World):Prop:=
 ∀(d:Option Tmp) (pos:String) (aft:Array Edge) (g:Option (Nat×Bool)),(execOp (ev E) ⟨d,op,ty,pos,aft,g⟩).run P w= .ok .skip w'
def WH (P:Program) (E:G3) (ty:TypeId) (op:Op) (w:World) (f:FuncId) (args:List Value):Prop:=
 ∀(d:Option Tmp) (pos:String) (aft:Array Edge) (g:Option (Nat×Bool)),(execOp (ev E) ⟨d,op,ty,pos,aft,g⟩).run P w= .ok (.enter f args.toArray) w
def jW (P:Program) (f:FuncId) (args:List Value) (w:World) (Φ:Value->World->Prop):Prop:=
 Calls P f args.toArray w fun e w'=>∃v,e= .returned v/\Φ v w'
theorem jW.mono {P:Program} {f:FuncId} {args:List Value} {w:World} {Φ Φ':Value->World->Prop} (h:jW P f args w Φ) (hh:∀v w',Φ v w'->Φ' v w'):jW P f args w Φ':=
 Calls.mono h fun _ _ ⟨v,he,hv⟩=>⟨v,he,hh _ _ hv⟩
theorem GR {all:List Oper} {d:Option Tmp} {op:Op} {ty:TypeId} {pos:String} {aft:Array Edge} {j t:Nat} {b:Bool} {E:G3} (h1:(all[j]?).bind (·.dst)=some t) (h2:E t= .bool b):D4 all ⟨d,op,ty,pos,aft,some (j,b)⟩ E=true:=by
 simp[D4,Ac,h1,h2]
section frames
variable {P:Program} {n:Nat} {R:G3->World->Prop} {k:List Fr} {E:G3} {w:World} {all rest:List Oper} {d:Nat} {op:Op} {ty:TypeId} {pos:String} {aft:Array Edge} {g:Option (Nat×Bool)}
variable {S:World->Prop} {i:Nat} {p:WI} {tails:List Nat} {t:Bool}
end frames
def S7 (P:Program) (t:TypeId):Bool:=match P.underlying t with|some (.struct _)=>false|some (.array _ _)=>false|some _=>true|none=>false
def SZ (P:Program) (t:TypeId) (s:Nat):Bool:=
 (match P.underlying t with|some (.struct _)=>true|some (.array _ _)=>true| _=>false)&&(match P.info? t with|some i=>i.size==s|none=>false)
def Na (P:Program) (t:TypeId) (s:Nat):Bool:=match P.info? t with|some i=>i.size==s|none=>false
def JD (P:Program) (t:TypeId) (f off:Nat):Bool:=
 match P.underlying t with
 |some (.struct fs)=>(match fs[f]? with|some x=>x.offset==off&&(match P.info? x.type with|some i=> !(i.size==0) |none=>false) |none=>false)
 | _=>false
def Aq (P:Program) (t e:TypeId) (s:Nat):Bool:=(match P.underlying t with|some (.slice e')=>e'==e| _=>false)&&Na P e s
def Fi (P:Program) (f:FuncId):Bool:=match P.funcs[f]? with|some fn=> !(fn.name== "runtime.NumGoroutine")&&fn.body.isSome|none=>false
def Dc (P:Program) (t:TypeId):Option Value:=(P.info? t).bind (·.zero)
section ops
variable {P:Program} {E:G3} {w:World} {ty:TypeId}
theorem SQ {x:Operand} :C8 P E ty (.move x) w (ev E x) w:=fun _ _ _ _=>rfl
theorem SO {x:Operand} :C8 P E ty (.assign x) w (ev E x) w:=fun _ _ _ _=>rfl
theorem A6i {c a b:Operand} {t:Bool} (hc:ev E c= .bool t):C8 P E ty (.pick c a b) w (bif t then ev E a else ev E b) w:=fun _ _ _ _=>by
 cases t<;>simp[execOp,hc,asBool,go_sem]
theorem mF {x:Operand} {vs:Array Value} {v:Value} {i:Nat} (hx:ev E x= .tuple vs) (hv:vs[i]? =some v):C8 P E ty (.extract x i) w v w:=fun _ _ _ _=>by
 simp[execOp,hx,Instr.extract,hv,go_sem]
theorem A8j {T:TypeId} {x:Operand} {b:Bool} (hx:ev E x= .bool b):C8 P E ty (.unOp .not T x) w (.bool !b) w:=fun _ _ _ _=>by
 simp[execOp,hx,Op.unary,go_sem]
theorem A8i {T:TypeId} {x:Operand} {k:IntKind} {a:Int} (hx:ev E x= .int k a):C8 P E ty (.unOp .neg T x) w (.int k (k.wrap (-a))) w:=fun _ _ _ _=>by
 simp[execOp,hx,Op.unary,Op.intArith,go_sem]
theorem aO {op:BinOp} {T:TypeId} {x y:Operand} {k k':IntKind} {a b:Int} :(eqGuard op T x y (.int k a) (.int k' b)).run P w= .ok () w:=by
 unfold eqGuard;cases op<;>rfl
theorem A0w {op:BinOp} {T T':TypeId} {x y:Operand} {k k':IntKind} {a b:Int} {v:Value} (hx:ev E x= .int k a) (hy:ev E y= .int k' b) (h:(binOp op T (.int k a) (.int k' b)).run P w= .ok v w):C8 P E ty (.binOp op T x y T') w v w:=fun _ _ _ _=>by
 simp only[execOp,hx,hy];have h1:=aO (P:=P) (w:=w) (op:=op) (T:=T) (x:=x) (y:=y) (k:=k) (k':=k') (a:=a) (b:=b);simp[go_sem,h1,h]
theorem A6f {x y:Operand} {ts:Array TypeId} {k k':IntKind} {a b:Int} (hx:ev E x= .int k a) (hy:ev E y= .int k' b):C8 P E ty (.call ⟨.builtin .max, #[x,y],ts⟩) w (.int k (max a b)) w:=fun _ _ _ _=>by
 have hm:(if b>a then b else a)=max a b:=by by_cases h:a<b<;>simp only[gt_iff_lt,h,if_true,if_false]<;>omega
 simp[execOp,resolve,invoke,builtin,Builtin.max_,Builtin.max2,hx,hy,go_sem];exact hm
theorem A6g {x y z:Operand} {ts:Array TypeId} {k k' k'':IntKind} {a b c:Int} (hx:ev E x= .int k a) (hy:ev E y= .int k' b) (hz:ev E z= .int k'' c):C8 P E ty (.call ⟨.builtin .max, #[x,y,z],ts⟩) w (.int k (max (max a b) c)) w:=fun _ _ _ _=>by
 have hm:∀a b:Int,(if b>a then b else a)=max a b:=fun a b=>by by_cases h:a<b<;>simp only[gt_iff_lt,h,if_true,if_false]<;>omega
 simp only[execOp,resolve,invoke,builtin,Builtin.max_,go_sem];simp[hx,hy,hz,Builtin.max2,hm,go_sem]
theorem A6h {x y:Operand} {ts:Array TypeId} {k k':IntKind} {a b:Int} (hx:ev E x= .int k a) (hy:ev E y= .int k' b):C8 P E ty (.call ⟨.builtin .min, #[x,y],ts⟩) w (.int k (min a b)) w:=fun _ _ _ _=>by
 have hm:(if b<a then b else a)=min a b:=by by_cases h:b<a<;>simp only[h,if_true,if_false]<;>omega
 simp[execOp,resolve,invoke,builtin,Builtin.min_,Builtin.min2,hx,hy,go_sem];exact hm
theorem A3y {x:Operand} {t e:TypeId} {s len cap:Nat} {a:Option Addr} (hx:ev E x= .slice a len cap) (ht:Aq P t e s=true):C8 P E ty (.call ⟨.builtin .len, #[x], #[t]⟩) w (.int .i64 len) w:=fun _ _ _ _=>by
 have hu:P.underlying t=some (.slice e):=by
  unfold Aq at ht;simp only[Bool.and_eq_true]at ht;obtain⟨ht,_⟩:=ht;split at ht
  . rename_i e' he;simp at ht;subst ht;exact he
  . cases ht
 simp[execOp,resolve,invoke,builtin,Builtin.len_,hx,run_underlying hu,goInt,go_sem]
end ops
theorem Dg {P:Program} {E:G3} {w:World} {ty:TypeId} {fo:Operand} {f:FuncId} {cap args:List Value} {as:List Operand} {ts:Array TypeId} (hf:ev E fo= .func (.func f) #[] cap.toArray) (he:Fi P f=true) (ha:as.map (ev E)++cap=args):
 WH P E ty (.call ⟨.value fo,as.toArray,ts⟩) w f args:=fun _ _ _ _=>by
 unfold Fi at he;split at he
 . rename_i fn hfn;simp only[Bool.and_eq_true,Bool.not_eq_true']at he;have h2:¬fn.body=none:=by intro hb;rw[hb]at he;simp at he
   have h1:¬fn.name= "runtime.NumGoroutine" :=by simpa using he.1
   subst ha;simp[execOp,resolve,hf,Deferred.ofValue,invoke,callFunc,hfn,h1,h2,go_sem]
 . cases he
theorem A8g {P:Program} {E:G3} {w:World} {ty:TypeId} {fn:Fn} {caps:List Operand} {vs:List Value} (hc:caps.map (ev E)=vs):C8 P E ty (.makeFunc fn #[] caps.toArray) w (.func fn #[] vs.toArray) w:=fun _ _ _ _=>by
 subst hc;simp[execOp,Instr.makeFunc]
theorem A8h {P:Program} {E:G3} {w:World} {ty:TypeId} {T T':TypeId} {x y:Operand} {a b:Bool} (hx:ev E x= .bool a) (hy:ev E y= .bool b) (hT:P.underlying T=some .bool):C8 P E ty (.binOp .neq T x y T') w (.bool (a !=b)) w:=fun _ _ _ _=>by
 have h1:=run_equalIn_bool' (P:=P) w 9999 T a b hT;have hg:(eqGuard .neq T x y (.bool a) (.bool b)).run P w= .ok () w:=rfl;have h2:(binOp .neq T (.bool a) (.bool b)).run P w= .ok (.bool (a !=b)) w:=by
  show((Op.equal T (.bool a) (.bool b))>>=fun r=>pure (Value.bool (!r))).run P w= _;unfold Op.equal Op.maxDepth;rw[Sem.run_bind,h1];rfl
 simp only[execOp,hx,hy];simp[hg,h2]
def IG (w:World) (b:Nat) (cs:Array Value) (t:TypeId):Prop:=w.heap[b]? =some (.cells cs t (0,0))
structure R2 (w w':World):Prop extends Below w.heap.size w w' where
 drw:True
theorem IG.lt {w:World} {b:Nat} {cs:Array Value} {t:TypeId} (h:IG w b cs t):b<w.heap.size:=(Array.getElem?_eq_some_iff.1 h).1
theorem IG.ext {w w':World} {b:Nat} {cs:Array Value} {t:TypeId} (h:IG w b cs t) (hx:R2 w w'):IG w' b cs t:=(hx.block b h.lt).trans h
theorem IG.cell {w:World} {b o:Nat} {cs:Array Value} {t:TypeId} {v:Value} (h:IG w b cs t) (hv:cs[o]? =some v):w.cell? ⟨b,o,none⟩=some v:=by
 unfold IG at h;simp[World.cell?,h,hv]
theorem R2.refl (w:World):R2 w w:=⟨Below.refl _ _,trivial⟩
theorem R2.trans {a b c:World} (h:R2 a b) (k:R2 b c):R2 a c:=⟨Below.trans h.toBelow (Below.mono k.toBelow h.size),trivial⟩
theorem R2.drew {a b:World} (h:R2 a b):R2 a b.drew:=⟨Below.drew h.toBelow,trivial⟩
theorem R2.alloc (w:World) (o:Obj):R2 w (w.alloc o):=⟨(Below.refl _ _).alloc (Nat.le_refl _) o,trivial⟩
section mem
variable {P:Program} {E:G3} {w:World} {ty:TypeId}
theorem Dn {t:TypeId} (h:S7 P t=true):(isAgg t).run P w= .ok false w:=by
 unfold S7 at h;cases hu:P.underlying t with
 |none=>simp[hu]at h
 |some d=>cases d<;>simp[hu]at h<;>simp[isAgg,run_underlying hu,go_sem]
theorem Qn {t:TypeId} {s:Nat} (h:SZ P t s=true):(isAgg t).run P w= .ok true w/\(sizeOf t).run P w= .ok s w:=by
 unfold SZ at h;simp only[Bool.and_eq_true]at h;obtain⟨h1,h2⟩:=h;constructor
 . cases hu:P.underlying t with
   |none=>simp[hu]at h1
   |some d=>cases d<;>simp[hu]at h1<;>simp[isAgg,run_underlying hu,go_sem]
 . cases hi:P.info? t with
   |none=>simp[hi]at h2
   |some i=>simp[hi]at h2;simp[sizeOf,typeInfo,hi,h2,go_sem]
theorem Co {t:TypeId} {s:Nat} (h:Na P t s=true):(sizeOf t).run P w= .ok s w:=by
 unfold Na at h;cases hi:P.info? t with
 |none=>simp[hi]at h
 |some i=>simp[hi]at h;simp[sizeOf,typeInfo,hi,h,go_sem]
theorem SP {T:TypeId} {x:Operand} {a:Addr} {v:Value} (hx:ev E x= .pointer (some a)) (hs:S7 P T=true) (hc:w.cell? a=some v):C8 P E ty (.load T x) w v w:=fun _ _ _ _=>by
 have h1:=Dn (P:=P) (w:=w) hs;simp[execOp,hx,Instr.loadAt,Instr.sureAddr,loadVar,h1,hc,go_sem]
def K0 (w:World) (a:Addr) (cs:List Value):Prop:=∀j v,cs[j]? =some v->w.cell? (a.add j)=some v
theorem gS {T:TypeId} {x:Operand} {a:Addr} {cs:List Value} {s:Nat} (hx:ev E x= .pointer (some a)) (hs:SZ P T s=true) (hl:cs.length=s) (hc:K0 w a cs):C8 P E ty (.load T x) w (.agg cs.toArray) w:=fun _ _ _ _=>by
 obtain⟨h1,h2⟩:=Qn (P:=P) (w:=w) hs;have h3:=run_loadCells_list (P:=P) (w:=w) a cs hc;rw[hl]at h3;unfold loadCells at h3;simp[execOp,hx,Instr.loadAt,Instr.sureAddr,loadVar,h1,h2,h3,go_sem]
theorem IG.cellsAt {w:World} {b:Nat} {cs:Array Value} {t:TypeId} (h:IG w b cs t):K0 w ⟨b,0,none⟩ cs.toList:=fun j v hv=>by
 have:(⟨b,0,none⟩:Addr).add j=⟨b,j,none⟩:=by unfold Addr.add;split<;>simp_all
 rw[this];exact h.cell (by simpa using hv)
theorem L4 (b o n:Nat):(⟨b,o,none⟩:Addr).add n=⟨b,o+n,none⟩:=by unfold Addr.add;split<;>simp_all
theorem Zd {T:TypeId} {x:Operand} {b o f off:Nat} (hx:ev E x= .pointer (some ⟨b,o,none⟩)) (hf:JD P T f off=true):C8 P E ty (.fieldAddr T x f) w (.pointer (some ⟨b,o+off,none⟩)) w:=fun _ _ _ _=>by
 unfold JD at hf;split at hf
 . rename_i fs hu;split at hf
   . rename_i fd hfd;simp only[Bool.and_eq_true,beq_iff_eq]at hf;obtain⟨h1,h2⟩:=hf;cases hi:P.info? fd.type with
     |none=>simp[hi]at h2
     |some i=>
      simp[hi]at h2;have hz:(sizeOf fd.type).run P w= .ok i.size w:=by simp[sizeOf,typeInfo,hi,go_sem]
      subst h1;simp[execOp,hx,Instr.fieldAt,Instr.sureAddr,run_underlying hu,hfd,fieldPlace,hz,h2,L4,go_sem]
   . cases hf
 . cases hf
theorem A8d {T:TypeId} {x:Operand} {v:Value} (hx:ev E x=v):C8 P E ty (.box T x) w (.pointer (some ⟨w.heap.size,0,none⟩)) (w.alloc (.cells v.cells T)):=fun _ _ _ _=>by
 subst hx;simp[execOp,Instr.box,newVar,newRow,go_sem]
theorem jT {T:TypeId} {z:Value} (hz:Dc P T=some z):C8 P E ty (.alloc T) w (.pointer (some ⟨w.heap.size,0,none⟩)) (w.alloc (.cells z.cells T)):=fun _ _ _ _=>by
 unfold Dc at hz;cases hi:P.info? T with
 |none=>simp[hi]at hz
 |some i=>
  simp[hi]at hz;simp[execOp,Instr.alloc,zeroValue,typeInfo,hi,hz,newVar,newRow,go_sem]
theorem Df (w:World) (cs:Array Value) (t:TypeId):IG (w.alloc (.cells cs t)) w.heap.size cs t:=heap_alloc_new w _
theorem IG.alloc {w:World} {b:Nat} {cs:Array Value} {t:TypeId} (h:IG w b cs t) (o:Obj):IG (w.alloc o) b cs t:=h.ext (R2.alloc w o)
end mem
theorem Kw:∀u∈([]:List Value),u.oneCell'=true:=fun _ h=>by cases h
theorem Mh {v:Value} {l:List Value} (h:v.oneCell'=true) (t:∀u∈l,u.oneCell'=true):∀u∈v::l,u.oneCell'=true:=fun u hu=>by
 rcases List.mem_cons.1 hu with hu|hu
 . rw[hu];exact h
 . exact t u hu
section frames
variable {P:Program} {n:Nat} {R:G3->World->Prop} {k:List Fr} {E:G3} {w:World} {all rest:List Oper} {d:Nat} {ty:TypeId} {pos:String} {aft:Array Edge} {g:Option (Nat×Bool)}
end frames
section tests
variable {P:Program} {n:Nat} {R:G3->World->Prop} {k:List Fr} {E:G3} {w:World} {all rest:List Oper} {d:Nat} {ty:TypeId} {pos:String} {aft:Array Edge} {g:Option (Nat×Bool)} {op:Op} {c:Prop} [Decidable c]
variable {S:World->Prop} {i:Nat} {p:WI} {tails:List Nat} {t:Bool}
end tests
def Zv (P:Program) (t:TypeId):Option (List (Nat×Nat)):=
 match P.underlying t with
 |some (.struct fs)=>fs.toList.mapM fun f=>(P.info? f.type).map fun i=>(f.offset,i.size)
 | _=>none
theorem QV {P:Program} {w:World} :∀(fs:List Field) (pl:List (Nat×Nat)),fs.mapM (fun f=>(P.info? f.type).map fun i=>(f.offset,i.size))=some pl->
 (fs.mapM fun f=>do pure (f.offset, <-sizeOf f.type):Sem (List (Nat×Nat))).run P w= .ok pl w
 | [],pl,h=>by simp at h;subst h;rfl
 |f::fs,pl,h=>by
  simp only[List.mapM_cons]at h;cases hi:P.info? f.type with
  |none=>simp[hi]at h
  |some i=>
   simp only[hi,Option.map_some,Option.bind_eq_bind,Option.bind_some]at h;cases hm:fs.mapM (fun f=>(P.info? f.type).map fun i=>(f.offset,i.size))with
   |none=>rw[hm]at h;simp at h
   |some pl'=>
    rw[hm]at h;simp at h;subst h;have ih:=QV (w:=w) fs pl' hm;rw[List.mapM_cons];simp[sizeOf,typeInfo,hi,go_sem];simp[sizeOf,typeInfo,go_sem]at ih;rw[ih];rfl
theorem A3g {P:Program} {E:G3} {w:World} {ty:TypeId} {T:TypeId} {parts:List (Nat×Operand)} {z:Value} {pl:List (Nat×Nat)} (cs:Array Value) (hz:Dc P T=some z) (hp:Zv P T=some pl)
 (hfill:Instr.fill (fun i=>pl[i]?) z.cells (parts.map fun x=>(x.1,ev E x.2))=some cs):C8 P E ty (.build T parts.toArray) w (.agg cs) w:=fun _ _ _ _=>by
 unfold Dc at hz;unfold Zv at hp;cases hi:P.info? T with
 |none=>simp[hi]at hz
 |some i=>
  simp[hi]at hz;cases hu:P.underlying T with
  |none=>simp[hu]at hp
  |some ds=>
   cases ds<;>simp[hu]at hp
   case struct fs=>
    have hpl:=QV (w:=w) fs.toList pl hp;have hm:(fs.mapM fun f=>do pure (f.offset, <-sizeOf f.type):Sem (Array (Nat×Nat))).run P w= .ok pl.toArray w:=by
     rw[Array.mapM_eq_mapM_toList];simp at hpl⊢;simp[hpl]
    simp only[execOp];unfold Instr.build;simp at hm;simp[zeroValue,typeInfo,hi,hz,run_underlying hu,hm,hfill]
theorem dN {P:Program} {E:G3} {w:World} {ty:TypeId} {T e:TypeId} {len sz:Nat} {parts:List (Nat×Operand)} {z:Value} (cs:Array Value) (hz:Dc P T=some z) (hT:P.underlying T=some (.array len e)) (hs:Na P e sz=true)
 (hfill:Instr.fill (fun i=>some (i*sz,sz)) z.cells (parts.map fun x=>(x.1,ev E x.2))=some cs):C8 P E ty (.build T parts.toArray) w (.agg cs) w:=fun _ _ _ _=>by
 unfold Dc at hz;have h3:=Co (P:=P) (w:=w) hs;cases hi:P.info? T with
 |none=>simp[hi]at hz
 |some i=>
  simp[hi]at hz;simp only[execOp];unfold Instr.build;simp[zeroValue,typeInfo,hi,hz,run_underlying hT,h3,hfill]
theorem dO {P:Program} {E:G3} {w:World} {ty:TypeId} {T e:TypeId} {x ix:Operand} {len:Nat} {cs:Array Value} {kd:IntKind} {i:Int} {v:Value} (hx:ev E x= .agg cs) (hi:ev E ix= .int kd i) (hT:P.underlying T=some (.array len e)) (he:S7 P e=true) (hsz:Na P e 1=true)
 (h0:0<=i) (h1:i<len) (hv:cs[i.toNat]? =some v):C8 P E ty (.index T x ix) w v w:=fun _ _ _ _=>by
 have h2:=Dn (P:=P) (w:=w) he;have h3:=Co (P:=P) (w:=w) hsz;simp[execOp,hx,hi,Instr.index,asIntOf,run_underlying hT,h0,h1,part,h2,h3,hv,go_sem]
theorem nC {w w':World} (hx:R2 w w') {a:Addr} {v:Value} (h:w.cell? a=some v):w'.cell? a=some v:=by
 have hlt:a.block<w.heap.size:=block_lt_of_cell h;rw[hx.cell hlt];exact h
theorem K0.ext {w w':World} {a:Addr} {cs:List Value} (h:K0 w a cs) (hx:R2 w w'):K0 w' a cs:=fun j v hv=>nC hx (h j v hv)
def SlR {α:Type} (w:World) (sz:Nat) (f:α->List Value) (v:Value) (l:List α):Prop:=
 (∃a cap,v= .slice a 0 cap/\l= [])\/∃b o cap,v= .slice (some ⟨b,o,none⟩) l.length cap/\l.length<=cap/\∀i a,l[i]? =some a->K0 w ⟨b,o+i*sz,none⟩ (f a)
theorem SlR.ext {α:Type} {w w':World} {sz:Nat} {f:α->List Value} {v:Value} {l:List α} (h:SlR w sz f v l) (hx:R2 w w'):SlR w' sz f v l:=by
 rcases h with h| ⟨b,o,cap,hv,hc,hh⟩
 . exact .inl h
 . exact .inr ⟨b,o,cap,hv,hc,fun i a hi=>(hh i a hi).ext hx⟩
theorem SlR.nil {α:Type} (w:World) (sz:Nat) (f:α->List Value):SlR w sz f (.slice none 0 0) []:= .inl ⟨_,_,rfl,rfl⟩
section sl
variable {P:Program} {E:G3} {w:World} {ty:TypeId} {α:Type} {sz:Nat} {f:α->List Value} {v:Value} {l:List α}
theorem Iu {t e:TypeId} {s:Nat} (ht:Aq P t e s=true):P.underlying t=some (.slice e)/\Na P e s=true:=by
 unfold Aq at ht;simp only[Bool.and_eq_true]at ht;obtain⟨ht,h2⟩:=ht;refine⟨?_,h2⟩;split at ht
 . rename_i e' he;simp at ht;subst ht;exact he
 . cases ht
theorem jU {x ix:Operand} {t e:TypeId} {kd:IntKind} {i:Int} {a:Addr} {len cap:Nat} (hx:ev E x= .slice (some a) len cap) (hi:ev E ix= .int kd i) (ht:Aq P t e sz=true) (h0:0<=i) (h1:i<len):C8 P E ty (.indexAddr t x ix) w (.pointer (some (a.add (i.toNat*sz)))) w:=fun _ _ _ _=>by
 obtain⟨hu,hz⟩:=Iu ht;have h3:=Co (P:=P) (w:=w) hz;simp[execOp,hx,hi,Instr.indexAt,asIntOf,run_underlying hu,h0,h1,h3,go_sem]
end sl
section owned
variable {w w':World} {base:Nat} {e:TypeId} {sz:Nat} {v:Value} {n:Nat} {xs:List Value}
theorem A2m (h:w.ownsRow base e sz v n xs) (hx:R2 w w'):w'.ownsRow base e sz v n xs:=
 h.kept (row:=none) ⟨hx.os,hx.tape,hx.output,hx.size,fun k hk _=>hx.block k hk⟩ (by cases v.ownBlock<;>simp)
theorem IG.grown {b:Nat} {cs:Array Value} {t:TypeId} {row:Option Nat} (h:IG w b cs t) (hg:w.grownBy w' row) (hne:some b≠row):IG w' b cs t:=(hg.block b h.lt hne).trans h
end owned
section frames2
variable {P:Program} {n:Nat} {R:G3->World->Prop} {k:List Fr} {E:G3} {w:World} {all rest:List Oper} {d:Nat} {ty:TypeId} {pos:String} {aft:Array Edge} {g:Option (Nat×Bool)}
theorem ZF {T e:TypeId} {sz len:Nat} {parts:List (Nat×Operand)} {z:Value} (cs:Array Value) (ht:Aq P T e sz=true) (hz:Dc P e=some z) (hlen:len*sz<=16777216)
 (hfill:Instr.fill (fun i=>some (i*sz,sz)) ((Array.range (len*sz)).map (z.cells[· %z.cells.size]!)) (parts.map fun x=>(x.1,ev E x.2))=some cs) (h0:len*sz≠0):
 C8 P E ty (.buildSlice T len parts.toArray) w (.slice (some ⟨w.heap.size,0,none⟩) len len) (w.alloc (.cells cs e)):=fun _ _ _ _=>by
 obtain⟨hu,hs⟩:=Iu ht;unfold Dc at hz;have h3:=Co (P:=P) (w:=w) hs;cases hi:P.info? e with
 |none=>simp[hi]at hz
 |some i=>
  simp[hi]at hz;have hn:¬(16777216<len*sz):=by omega
  simp only[execOp];unfold Instr.buildSlice;simp[run_underlying hu,h3,hn,h0,zeroValue,typeInfo,hi,hz,hfill,newRow]
def IH (b:Nat) (w w':World):Prop:=w'.os=w.os/\w'.tape=w.tape/\(w'.output=w.output/\w.drawn<=w'.drawn)/\w'.heap.size=w.heap.size/\∀k,k≠b->w'.heap[k]? =w.heap[k]?
theorem IG.chg {w w':World} {b b':Nat} {cs:Array Value} {t:TypeId} (h:IG w b cs t) (hc:IH b' w w') (hne:b≠b'):IG w' b cs t:=(hc.2.2.2.2 b hne).trans h
theorem R2.chg {w0 w w':World} {b:Nat} (h:R2 w0 w) (hc:IH b w w') (hb:w0.heap.size<=b):R2 w0 w':=
 ⟨⟨hc.1.trans h.os,hc.2.1.trans h.tape,hc.2.2.1.1.trans h.output,by rw[hc.2.2.2.1];exact h.size,fun k hk=>(hc.2.2.2.2 k (by omega)).trans (h.block k hk)⟩,trivial⟩
theorem nB {w w':World} {b:Nat} (hc:IH b w w') {a:Addr} (hne:a.block≠b):w'.cell? a=w.cell? a:=World.cell?_of_block (w:=w) (hc.2.2.2.2 _ hne)
theorem A2l {w w':World} {b base e sz n:Nat} {v:Value} {xs:List Value} (h:w.ownsRow base e sz v n xs) (hc:IH b w w') (hne:some b≠v.ownBlock):w'.ownsRow base e sz v n xs:=
 h.kept (row:=some b) ⟨hc.1,hc.2.1,hc.2.2.1.1,by rw[hc.2.2.2.1];exact Nat.le_refl _,fun k _ hk=>hc.2.2.2.2 k (fun e=>hk (by rw[e]))⟩ (.inr (Ne.symm hne))
theorem NV {T tb:TypeId} {x y:Operand} {b o s:Nat} {cs:Array Value} {v:Value} (vs:List Value) (hx:ev E x= .pointer (some ⟨b,o,none⟩)) (hy:ev E y=v) (hvs:v.cells.toList=vs) (hs:Na P T s=true) (hl:vs.length=s) (hb:IG w b cs tb) (hfit:o+vs.length<=cs.size) (h1:∀u∈vs,u.oneCell'=true):
 EV P E ty (.store T x y) w (w.setRow b (cs.toList.take o++vs++cs.toList.drop (o+vs.length)).toArray):=fun _ _ _ _=>by
 have h2:=Co (P:=P) (w:=w) hs;have h3:=run_storeCells_at P b o tb vs 0 cs w hb (by simpa using hfit) h1;have h4:v.cells.size=s:=by rw[<-hl, <-hvs];simp
 simp only[Nat.add_zero]at h3;subst hy;simp[execOp,hx,Instr.storeAt,Instr.sureAddr,storeVar,h2,h4,hvs,h3]
end frames2
section el
variable {P:Program} {E:G3} {w:World} {ty:TypeId}
theorem A6e {x ix:Operand} {t e:TypeId} {kd:IntKind} {i':Int} {b o len cap sz:Nat} {v:Value} (i:Nat) (hx:ev E x=v) (hv:v= .slice (some ⟨b,o,none⟩) len cap) (hi:ev E ix= .int kd i') (hii:i'=(i:Int)) (ht:Aq P t e sz=true) (h1:i<len):
 C8 P E ty (.indexAddr t x ix) w (.pointer (some ⟨b,o+i*sz,none⟩)) w:=by
 subst hv hii;have:=jU (P:=P) (w:=w) (ty:=ty) (sz:=sz) hx hi ht (by omega) (by omega);rwa[L4,Int.toNat_natCast]at this
theorem K0.get {w:World} {b o j:Nat} {cs:List Value} {v:Value} (h:K0 w ⟨b,o,none⟩ cs) (hv:cs[j]? =some v):w.cell? ⟨b,o+j,none⟩=some v:=by
 have:=h j v hv;rwa[L4]at this
theorem A1p {α:Type} {l:List α} {i:Nat} (h:i<l.length):∃a,l[i]? =some a:=⟨_,List.getElem?_eq_getElem h⟩
theorem BV {α:Type} {l:List α} {i:Nat} {a:α} (h:l[i]? =some a):i<l.length:=(List.getElem?_eq_some_iff.1 h).1
end el
section frames
variable {P:Program} {n:Nat} {R:G3->World->Prop} {k:List Fr} {E:G3} {w:World} {all rest:List Oper} {d:Nat} {ty:TypeId} {pos:String} {aft:Array Edge} {g:Option (Nat×Bool)}
end frames
def two (a b:Int):Array Value:= #[.int .i64 a, .int .i64 b]
def Wc {κ:Type} (kv:κ->Value) (w:World) (b:Nat) (ks:List κ):Prop:=
 ∃es clock,w.heap[b]? =some (.map es clock)/\es.toList.map (·.key)=ks.map kv/\∀x∈es.toList,x.val= .bool true
theorem Wc.lt {κ:Type} {kv:κ->Value} {w:World} {b:Nat} {ks:List κ} (h:Wc kv w b ks):b<w.heap.size:=by
 obtain⟨es,cl,hb,_⟩:=h;exact(Array.getElem?_eq_some_iff.1 hb).1
theorem Wc.ext {κ:Type} {kv:κ->Value} {w w':World} {b:Nat} {ks:List κ} (h:Wc kv w b ks) (hx:R2 w w'):Wc kv w' b ks:=by
 have hlt:=h.lt;obtain⟨es,cl,hb,r⟩:=h;exact⟨es,cl,(hx.block b hlt).trans hb,r⟩
theorem Wc.chg {κ:Type} {kv:κ->Value} {w w':World} {b b':Nat} {ks:List κ} (h:Wc kv w b ks) (hc:IH b' w w') (hne:b≠b'):Wc kv w' b ks:=by
 obtain⟨es,cl,hb,r⟩:=h;exact⟨es,cl,(hc.2.2.2.2 b hne).trans hb,r⟩
theorem Wc.grown {κ:Type} {kv:κ->Value} {w w':World} {b:Nat} {row:Option Nat} {ks:List κ} (h:Wc kv w b ks) (hg:w.grownBy w' row) (hne:some b≠row):Wc kv w' b ks:=by
 have hlt:=h.lt;obtain⟨es,cl,hb,r⟩:=h;exact⟨es,cl,(hg.block b hlt hne).trans hb,r⟩
def iv (i:Int):Value:= .int .i64 i
def sv (s:Int×Int):Value:= .agg (two s.1 s.2)
section maps
variable {P:Program} {E:G3} {w:World} {ty:TypeId} {κ:Type} {kv:κ->Value}
theorem mH {t:TypeId} :C8 P E ty (.makeMap t none) w (.map (some w.heap.size)) (w.alloc (.map #[] 0)):=fun _ _ _ _=>by
 simp[execOp,Instr.makeMap]
end maps
section mframes
variable {P:Program} {n:Nat} {R:G3->World->Prop} {k:List Fr} {E:G3} {w:World} {all rest:List Oper} {d:Nat} {ty:TypeId} {pos:String} {aft:Array Edge} {g:Option (Nat×Bool)} {κ:Type}
end mframes
def dR {α:Type} (w:World) (base:Nat) (e:TypeId) (sz:Nat) (f:α->List Value) (v:Value) (l:List α):Prop:=w.ownsRow base e sz v l.length (l.flatMap f)
section own
variable {α:Type} {w w':World} {base:Nat} {e:TypeId} {sz:Nat} {f:α->List Value} {v:Value} {l:List α}
theorem dR.ext (h:dR w base e sz f v l) (hx:R2 w w'):dR w' base e sz f v l:=A2m h hx
theorem dR.chg {b:Nat} (h:dR w base e sz f v l) (hc:IH b w w') (hne:some b≠v.ownBlock):dR w' base e sz f v l:=A2l h hc hne
theorem dR.nil (w:World) (base:Nat) (e:TypeId) (sz:Nat) (f:α->List Value):dR w base e sz f (.slice none 0 0) []:=World.ownsRow_nil w base e sz
theorem dR.lit {b:Nat} {cs:Array Value} {a:α} (hb:IG w b cs e) (hcs:cs.toList=f a) (hl:(f a).length=sz) (hbase:base<=b):dR w base e sz f (.slice (some ⟨b,0,none⟩) 1 1) [a]:=by
 refine⟨by simp[hl], .inr ⟨b,1,cs,rfl,hbase,hb,by simp,by decide, ?_, ?_⟩⟩
 . rw[<-Array.length_toList,hcs,hl];simp
 . rw[hcs];simp[hl,List.take_of_length_le]
theorem dR.grown {β:Type} {base2 e2 sz2:Nat} {f2:β->List Value} {v2:Value} {l2:List β} (h2:dR w base2 e2 sz2 f2 v2 l2) (hg:w.grownBy w' v.ownBlock) (hne:v2.ownBlock=none\/v2.ownBlock≠v.ownBlock):dR w' base2 e2 sz2 f2 v2 l2:=h2.kept hg hne
end own
section frames
variable {P:Program} {n:Nat} {R:G3->World->Prop} {k:List Fr} {E:G3} {w:World} {all rest:List Oper} {d:Nat} {ty:TypeId} {pos:String} {aft:Array Edge} {g:Option (Nat×Bool)} {α:Type} {f:α->List Value}
theorem Ud (off:Nat):∀(l:List Value) (j:Nat) (cs:Array Value),off+j+l.length<=cs.size->
 ((l.zipIdx j).foldl (fun cs (x:Value×Nat)=>cs.setIfInBounds (off+x.2) x.1) cs).toList=cs.toList.take (off+j)++l++cs.toList.drop (off+j+l.length)
 | [],j,cs,_=>by simp
 |x::l,j,cs,h=>by
  simp only[List.zipIdx_cons,List.foldl_cons];simp only[List.length_cons]at h;rw[Ud off l (j+1) _ (by simp;omega)];have hlt:off+j<cs.size:=by omega
  have hlt':off+j<cs.toList.length:=by simpa using hlt
  simp only[Array.toList_setIfInBounds];rw[List.take_set,List.drop_set_of_lt (by omega),show off+(j+1)=(off+j)+1 from by omega,List.take_succ_eq_append_getElem hlt'];rw[List.set_append_right _ _ (by simp;omega)];simp[Nat.min_eq_left (Nat.le_of_lt hlt),show off+j+1+l.length=off+j+(l.length+1)from by omega]
theorem aR (sz:Nat):∀(vs:List Value) (k:Nat) (cs:Array Value),(∀v∈vs,v.cells.size=sz)->(k+vs.length)*sz<=cs.size->
 ∃r,Instr.fill (fun i=>some (i*sz,sz)) cs ((vs.zipIdx k).map fun x=>(x.2,x.1))=some r/\r.toList=cs.toList.take (k*sz)++vs.flatMap (·.cells.toList)++cs.toList.drop ((k+vs.length)*sz)/\r.size=cs.size
 | [],k,cs,_,_=>⟨cs,by simp[Instr.fill],by simp,rfl⟩
 |v::vs,k,cs,hv,h=>by
  have hs:v.cells.size=sz:=hv v (by simp);have h1:(k+(vs.length+1))*sz=k*sz+vs.length*sz+sz:=by rw[Nat.add_mul,Nat.succ_mul];omega
  simp only[List.length_cons,h1]at h;have hle:k*sz+v.cells.size<=cs.size:=by omega
  have hfold:=Ud (k*sz) v.cells.toList 0 cs (by simp;omega);simp only[Nat.add_zero]at hfold;generalize hc':(v.cells.toList.zipIdx 0).foldl (fun cs (x:Value×Nat)=>cs.setIfInBounds (k*sz+x.2) x.1) cs=cs' at hfold;have hsz':cs'.size=cs.size:=by
   have:=congrArg List.length hfold;simp only[Array.length_toList,List.length_append,List.length_take,List.length_drop]at this;omega
  have h2:(k+1+vs.length)*sz=k*sz+vs.length*sz+sz:=by rw[Nat.add_mul,Nat.add_mul];omega
  obtain⟨r,hr,hrl,hrs⟩:=aR sz vs (k+1) cs' (fun x hx=>hv x (by simp[hx])) (by rw[h2,hsz'];exact h);refine⟨r, ?_, ?_,by rw[hrs,hsz']⟩
  . simp only[List.zipIdx_cons,List.map_cons];unfold Instr.fill;simp only[hs];rw[if_neg (by simp;omega)];rw[<-hr, <-hc', <-Array.foldl_toList];simp
  . rw[hrl,hfold];have e1:(k+1)*sz=k*sz+sz:=Nat.succ_mul k sz;have e2:(k+(vs.length+1))*sz=(k+1+vs.length)*sz:=by rw[h2,h1]
    have l1:(cs.toList.take (k*sz)).length=k*sz:=by simp;omega
    have l2:v.cells.toList.length=sz:=by simpa using hs
    rw[e1,List.flatMap_cons,List.length_cons,e2];have l3:(cs.toList.take (k*sz)++v.cells.toList).length=k*sz+sz:=by rw[List.length_append,l1,l2]
    congr 1
    . rw[<-List.append_assoc,List.take_left' l3]
    . rw[List.drop_append,List.drop_of_length_le (by rw[l3,h2];omega),List.nil_append,List.drop_drop,l3,l2,h2];congr 1;omega
end frames
def Frs (n:Nat) (v:Value):Prop:=∀g,v.ownBlock=some g->n<=g
theorem SlR.chg {α:Type} {w w':World} {sz b:Nat} {f:α->List Value} {v:Value} {l:List α} (h:SlR w sz f v l) (hc:IH b w w') (hne:∀g,v.ownBlock=some g->g≠b):SlR w' sz f v l:=by
 rcases h with h| ⟨b',o,cap,hv,hcap,hh⟩
 . exact .inl h
 . refine .inr ⟨b',o,cap,hv,hcap,fun i a hi j u hu=> ?_⟩;have hb:b'≠b:=hne b' (by rw[hv];rfl);have:=hh i a hi j u hu;rw[L4]at this⊢;rw[nB hc hb];exact this
theorem dR.frs {α:Type} {w:World} {base e sz n:Nat} {f:α->List Value} {v:Value} {l:List α} (h:dR w base e sz f v l) (hn:n<=base):Frs n v:=fun g hg=>by have:=(World.ownsRow.lt h g hg).1;omega
def TN (v v2:Value):Prop:=∀g,v.ownBlock=some g->v2.ownBlock≠some g
theorem TN.symm {v v2:Value} (h:TN v v2):TN v2 v:=fun g h1 h2=>h g h2 h1
section
variable {α β:Type} {w w':World} {base e sz base2 e2 sz2:Nat} {f:α->List Value} {f2:β->List Value} {v v' v2:Value} {l:List α} {l2:List β}
theorem TN.append (ha:TN v v2) (h2:dR w base2 e2 sz2 f2 v2 l2) (h:v'.ownBlock=v.ownBlock\/v'.ownBlock=some w.heap.size):TN v' v2:=by
 intro g hg hg2;rcases h with h|h
 . exact ha g (h▸hg) hg2
 . rw[hg]at h;have:=(World.ownsRow.lt h2 g hg2).2;cases h;omega
end
inductive Pl where
 |done
 |q (i:Nat) (p:Pl)
 |p (i:Nat) (p:Pl)
 |e (i:Nat) (p:Pl)
 |or (i:Nat) (p:Pl) (q:Pl)
 |al (is js:List Nat) (p:Pl)
def Fe (all:List Oper) (i:Nat):Nat:=((all[i]?).bind (·.dst)).getD 0
def Ar (all:List Oper) (l:List Nat):List Nat:=l.map (Fe all)
def UZ (all:List Oper) (i:Nat):List Nat:=match all[i]? with
 |some o=>o.op.operands.toList.filterMap fun x=>match x with| .tmp t=>some t| _=>none
 |none=> []
def YR (all:List Oper) (i:Nat):Bool:=match all[i]? with
 |some o=>o.dst.isSome&&o.guard.isNone&&(match o.op with| .select _ _=>false| _=>true)
 |none=>false
def rm (i:Nat) (l:List Nat):List Nat:=l.filter fun k=> !Nat.beq k i
def A3a (l ds:List Nat):Bool:=l.all fun x=> !ds.contains x
def QG:List Nat->Bool
 | []=>true
 |x::r=> !r.contains x&&QG r
def jY (all:List Oper) (is js:List Nat):Bool:=(is++js).all (YR all)&&QG (is++js)&&QG (Ar all (is++js))&&is.all fun i=>A3a (UZ all i) (Ar all (is++js))
def jX (all:List Oper) (tails:List Nat) (leaf:Nat->Array Bool->Bool):Nat->List Nat->List Nat->Array Bool->Bool
 |0,ri,rj,listed=>ri.isEmpty&&rj.isEmpty&&leaf 0 listed
 |f+1,ri,rj,listed=>match rj.find? fun j=>(Region.ready .any all.toArray listed).contains j&&Region.free .any all.toArray listed j with
  |some j=> !tails.contains j&&A3a (UZ all j) (Ar all (ri++rj))&&jX all tails leaf f ri (rm j rj) (listed.setIfInBounds j true)
  |none=>match ri with
   | []=>rj.isEmpty&&leaf (f+1) listed
   |i0::r0=>(Region.ready .any all.toArray listed==i0::r0)&&(i0::r0).all fun i=> !tails.contains i&&jX all tails leaf f (rm i (i0::r0)) rj (listed.setIfInBounds i true)
def Ff (all:List Oper) (f:Nat->Nat->Value) (X:Nat->Obj):List Nat->G3->World->G3×World
 | [],E,w=>(E,w)
 |i::r,E,w=>Ff all f X r (upd E (Fe all i) (f i w.heap.size)) (w.alloc (X i))
def AlV (P:Program) (all:List Oper) (js:List Nat) (F:G3):Prop:=∀j∈js,∃o,all[j]? =some o/\∀w,(execOp (ev F) o).run P w= .ok (.value (F (Fe all j))) w
structure mQ (P:Program) (R:World->World->Prop) (all:List Oper) (is js:List Nat) (f:Nat->Nat->Value) (X:Nat->Obj) (nx:G3->World->Prop) (E:G3) (w:World):Prop where
 one:∀i∈is,∃o,all[i]? =some o/\∀w',(execOp (ev E) o).run P w'= .ok (.value (f i w'.heap.size)) (w'.alloc (X i))
 rel:∀i∈is,∀w',R w w'->R w' (w'.alloc (X i))
 fin:∀l,l.Perm is->∃F,(∀x,x∉Ar all js->F x=(Ff all f X l E w).1 x)/\AlV P all js F/\nx F (Ff all f X l E w).2
def Ru (all:List Oper) (heads tails:List Nat):Pl->Nat->Array Bool->Option (List Nat)->Bool
 | .done,_,listed,al=>al.isNone&&(Region.ready .any all.toArray listed).isEmpty
 | .q i p,fuel,listed,al=>match fuel with
  |0=>false
  |fuel+1=>al.isNone&&heads.contains i&& !tails.contains i&&Region.free .any all.toArray listed i&&(Region.ready .any all.toArray listed).contains i&&Ru all heads tails p fuel (listed.setIfInBounds i true) none
 | .p i p,fuel,listed,al=>match fuel with
  |0=>false
  |fuel+1=>al.isNone&& !tails.contains i&&Region.free .any all.toArray listed i&&(Region.ready .any all.toArray listed).contains i&&Ru all heads tails p fuel (listed.setIfInBounds i true) none
 | .e i p,fuel,listed,al=>match fuel with
  |0=>false
  |fuel+1=>(al.getD (Region.ready .any all.toArray listed)== [i])&&Ru all heads tails p fuel (listed.setIfInBounds i true) none
 | .or i p q,fuel,listed,al=>match fuel with
  |0=>false
  |fuel+1=>match al.getD (Region.ready .any all.toArray listed)with
   | []=>false
   |j::rest=>Nat.beq i j&&Ru all heads tails p fuel (listed.setIfInBounds i true) none&&Ru all heads tails q (fuel+1) listed (some rest)
 | .al is js p,fuel,listed,al=>al.isNone&&jY all is js&&jX all tails (fun f l=>Ru all heads tails p f l none) fuel is js listed
def A3p (all:List Oper) (heads tails:List Nat) (p:Pl):Bool:=Region.noSelect all.toArray&&Zy all heads tails&&Ru all heads tails p all.length (Array.replicate all.length false) none
def OQ (P:Program) (R:World->World->Prop) (all:List Oper) (tails:List Nat) (next:G3->World->Prop):Pl->Bool->G3->World->Prop
 | .done,_=>next
 | .q i p,t=>fun E w=>∃o,all[i]? =some o/\Qm P (R w) all o (OQ P R all tails next p t) E w
 | .p i p,t=>fun E w=>∃o,all[i]? =some o/\Qm P (fun _=>True) all o (OQ P R all tails next p t) E w
 | .e i p,t=>fun E w=>∃o,all[i]? =some o/\M2 P all o (fun E' w'=>((t||tails.contains i)=true\/R w w')/\OQ P R all tails next p (t||tails.contains i) E' w') E w
 | .or i p q,t=>fun E w=>(∃o,all[i]? =some o/\M2 P all o (fun E' w'=>((t||tails.contains i)=true\/R w w')/\OQ P R all tails next p (t||tails.contains i) E' w') E w)/\OQ P R all tails next q t E w
 | .al is js p,t=>fun E w=>∃f X,mQ P R all is js f X (OQ P R all tails next p t) E w
section
variable {P:Program} {ops:Array Oper} {Q:Exit->Act->World->Prop} {S S':World->Prop} {tails:List Nat}
theorem Jd (hS:∀w,S w->S' w):∀(fuel:Nat) (listed:Array Bool) (a:Act) (w:World),X7 P ops Q S tails fuel listed a w->X7 P ops Q S' tails fuel listed a w
 |0,_,_,_,h=>h
 |fuel+1,_,_,_,h=>⟨h.1,fun i hi=>wpOp_mono (fun a' w' h'=>⟨h'.1.imp id (hS w'),Jd hS fuel _ a' w' h'.2⟩) (h.2 i hi)⟩
theorem LU:∀(fuel:Nat) (listed:Array Bool) (a:Act) (w:World),I2 tails listed=true->X7 P ops Q S tails fuel listed a w->X7 P ops Q S' tails fuel listed a w
 |0,_,_,_,_,h=>h
 |fuel+1,_,_,_,ht,h=>⟨h.1,fun i hi=>wpOp_mono (fun a' w' h'=>⟨.inl (De ht),LU fuel _ a' w' (De ht) h'.2⟩) (h.2 i hi)⟩
end
theorem Mc:∀ {l:List Nat},QG l=true->l.Nodup
 | [],_=>List.nodup_nil
 |x::r,h=>by
  simp only[QG,Bool.and_eq_true,Bool.not_eq_true']at h;exact List.nodup_cons.2 ⟨P9 h.1,Mc h.2⟩
theorem YF {i k:Nat} {l:List Nat} :k∈rm i l↔k∈l/\k≠i:=by
 unfold rm;rw[List.mem_filter];refine and_congr_right fun _=>⟨fun h e=>by subst e;simp at h,fun h=>by rw[E6 h];rfl⟩
theorem jD {i:Nat} :∀ {l:List Nat},l.Nodup->i∈l->(i::rm i l).Perm l
 | [],_,h=>by cases h
 |x::r,hn,h=>by
  obtain⟨h1,h2⟩:=List.nodup_cons.1 hn;by_cases hx:x=i
  . subst hx;have:rm x (x::r)=r:=by
     unfold rm;rw[List.filter_cons,if_neg (by simp)];exact List.filter_eq_self.2 fun k hk=>by rw[E6 (show k≠x from fun e=>h1 (by rw[<-e];exact hk))];rfl
    rw[this]
  . have:rm i (x::r)=x::rm i r:=by
     unfold rm;rw[List.filter_cons,if_pos (by rw[E6 hx];rfl)]
    rw[this];rcases List.mem_cons.1 h with h|h
    . exact absurd h.symm hx
    . exact(List.Perm.swap x i _).trans ((jD h2 h).cons x)
theorem KL {l ds:List Nat} (h:A3a l ds=true):∀x∈l,x∉ds:=fun x hx=>by
 have:=List.all_eq_true.1 h x hx;simp only[Bool.not_eq_true']at this;exact P9 this
theorem Xm {all:List Oper} {i:Nat} {o:Oper} (h:YR all i=true) (ho:all[i]? =some o):o.dst=some (Fe all i)/\o.guard=none/\∀cs b,o.op≠ .select cs b:=by
 unfold YR at h;rw[ho]at h;simp only[Bool.and_eq_true,Option.isNone_iff_eq_none]at h;refine⟨?_,h.1.2,fun cs b e=>by rw[e]at h;simp at h⟩;cases hd:o.dst with
 |none=>rw[hd]at h;simp at h
 |some d=>simp[Fe,ho,hd]
theorem lE {all:List Oper} {i:Nat} {o:Oper} {t:Nat} (ho:all[i]? =some o) (h:Operand.tmp t∈o.op.operands):t∈UZ all i:=by
 unfold UZ;rw[ho];exact List.mem_filterMap.2 ⟨.tmp t,by simpa using h,rfl⟩
theorem JB {all:List Oper} {i:Nat} {o:Oper} {E E':G3} (ho:all[i]? =some o) (hs:∀cs b,o.op≠ .select cs b) (h:∀t∈UZ all i,E t=E' t):execOp (ev E) o=execOp (ev E') o:=
 execOp_congr o hs fun x hx=>by
  cases x with
  |tmp t=>exact h t (lE ho hx)
  | _=>rfl
theorem Xr {all:List Oper} {f:Nat->Nat->Value} {X:Nat->Obj} :∀(a b:List Nat) (E:G3) (w:World),Ff all f X (a++b) E w=Ff all f X b (Ff all f X a E w).1 (Ff all f X a E w).2
 | [],_,_,_=>rfl
 |i::a,b,E,w=>Xr a b _ _
theorem Hi {all:List Oper} {f:Nat->Nat->Value} {X:Nat->Obj} {x:Nat} :∀(l:List Nat) (E:G3) (w:World),x∉Ar all l->(Ff all f X l E w).1 x=E x
 | [],_,_,_=>rfl
 |i::l,E,w,h=>by
  simp only[Ar,List.map_cons,List.mem_cons,not_or]at h;simp only[Ff];rw[Hi l _ _ h.2,C1 _ _ _ _ h.1]
theorem M5 {all:List Oper} {l:List Nat} {x:Nat} :x∈Ar all l↔∃i∈l,Fe all i=x:=by simp[Ar]
theorem XI {all:List Oper} :∀ {l:List Nat},(Ar all l).Nodup->∀ {i k:Nat},i∈l->k∈l->i≠k->Fe all i≠Fe all k
 | [],_,_,_,h,_,_=>by cases h
 |x::r,hn,i,k,hi,hk,hne=>by
  simp only[Ar,List.map_cons]at hn;obtain⟨h1,h2⟩:=List.nodup_cons.1 hn;rcases List.mem_cons.1 hi with hi|hi<;>rcases List.mem_cons.1 hk with hk|hk
  . exact absurd (hi.trans hk.symm) hne
  . rw[hi];exact fun e=>h1 (M5.2 ⟨k,hk,e.symm⟩)
  . rw[hk];exact fun e=>h1 (M5.2 ⟨i,hi,e⟩)
  . exact XI h2 hi hk hne
theorem A4d {P:Program} {R:World->World->Prop} (hrefl:∀w,R w w) (htr:∀ {a b c},R a b->R b c->R a c) {n:Nat} {all:List Oper} {heads tails is js:List Nat} (hn:aM n all=true) (hsel:Region.noSelect all.toArray=true) (hw:Zy all heads tails=true) {Q:Exit->Act->World->Prop} (hQ:∀(c:List PanicEntry) (a a':Act) (w:World),Q (.panic c) a' w->Q (.panic c) a w)
 {leaf:Nat->Array Bool->Bool} {nx:G3->World->Prop} {t:Bool} {f:Nat->Nat->Value} {X:Nat->Obj} {E:G3} {w:World} (hst:jY all is js=true) (hs:mQ P R all is js f X nx E w)
 (hleaf:∀(fuel:Nat) (listed:Array Bool) (a:Act) (E':G3) (w':World),leaf fuel listed=true->SX all.toArray heads tails listed->t=I2 tails listed->C6 n a E'->nx E' w'->X7 P all.toArray Q (R w') tails fuel listed a w'):
 ∀(fuel:Nat) (ri rj:List Nat) (listed:Array Bool),jX all tails leaf fuel ri rj listed=true->SX all.toArray heads tails listed->t=I2 tails listed->∀(a:Act) (Ec:G3) (ex:List Nat),C6 n a Ec->(ex++ri).Perm is->(∀j∈rj,j∈js)->
  (∀r,r.Perm ri->∀F,(∀x,x∉Ar all js->F x=(Ff all f X (ex++r) E w).1 x)->AlV P all js F->∀x,x∉Ar all (ri++rj)->F x=Ec x)->R w (Ff all f X ex E w).2->
  X7 P all.toArray Q (R (Ff all f X ex E w).2) tails fuel listed a (Ff all f X ex E w).2:=by
 simp only[jY,Bool.and_eq_true,List.all_eq_true]at hst;obtain⟨⟨⟨s1,s2⟩,s3⟩,s4⟩:=hst;have s2:=Mc s2;have s3:=Mc s3;have hwait:=Xx hw;have fin:∀(fuel:Nat) (listed:Array Bool),leaf fuel listed=true->SX all.toArray heads tails listed->t=I2 tails listed->∀(a:Act) (Ec:G3) (ex:List Nat),C6 n a Ec->(ex++ []).Perm is->(∀r,r.Perm []->∀F,(∀x,x∉Ar all js->F x=(Ff all f X (ex++r) E w).1 x)->AlV P all js F->∀x,x∉Ar all ([]++ [])->F x=Ec x)->X7 P all.toArray Q (R (Ff all f X ex E w).2) tails fuel listed a (Ff all f X ex E w).2:=by
  intro fuel listed hl hd ht a Ec ex hr hp hinv;obtain⟨F,f1,f2,f3⟩:=hs.fin ex (by simpa using hp);have:F=Ec:=funext fun x=>hinv [] (List.Perm.refl _) F (by simpa using f1) f2 x (by simp[Ar])
  subst this;exact hleaf fuel listed a F _ hl hd ht hr f3
 intro fuel
 induction fuel with
 |zero=>
  intro ri rj listed hok hd ht a Ec ex hr hp _ hinv _;simp only[jX,Bool.and_eq_true,List.isEmpty_iff]at hok;obtain⟨⟨rfl,rfl⟩,hok⟩:=hok;exact fin 0 listed hok hd ht a Ec ex hr hp hinv
 |succ fuel ih=>
  intro ri rj listed hok hd ht a Ec ex hr hp hj hinv hR;simp only[jX]at hok;split at hok
  . rename_i j hfind;simp only[Bool.and_eq_true,Bool.not_eq_true']at hok;obtain⟨⟨k1,k2⟩,k3⟩:=hok;have hjm:j∈rj:=List.mem_of_find?_eq_some hfind;have hjr:=List.find?_some hfind;simp only[Bool.and_eq_true]at hjr;have hrd:j∈Region.ready .any all.toArray listed:=by simpa using hjr.1
    have hit:=P9 k1;have hsub:=KL k2;obtain⟨F0,f1,f2,_⟩:=hs.fin (ex++ri) hp;obtain⟨o,ho,hv⟩:=f2 j (hj j hjm);obtain⟨hdst,hg,hns⟩:=Xm (s1 j (List.mem_append_right _ (hj j hjm))) ho;have ho':all.toArray[j]? =some o:=by simpa using ho
    have same:∀r,r.Perm ri->∀F,(∀x,x∉Ar all js->F x=(Ff all f X (ex++r) E w).1 x)->AlV P all js F->execOp (ev F) o=execOp (ev Ec) o:=fun r hrp F g1 g2=>JB ho hns fun u hu=>hinv r hrp F g1 g2 u (hsub u hu)
    have e0:=same ri (List.Perm.refl _) F0 f1 f2;have ht':t=I2 tails (listed.setIfInBounds j true):=by rw[L1 hit];exact ht
    have hwant:D4 all o Ec=true:=by simp[D4,hg]
    refine Zb (v:=F0 (Fe all j)) ho' hit (Region.noSelect_spec hsel) (fun c a w hh=>hQ c a _ w hh) fuel listed a _ (Region.free_spec ho' hjr.2) hrd (.inl ⟨by rw[hr.wanted];exact hwant,fun w' _=>by rw[hr.ev, <-e0];exact hv w'⟩) (.inr (hrefl _)) ?_;refine ih ri (rm j rj) _ k3 (hd.set hwait hrd) ht' _ (upd Ec (Fe all j) (F0 (Fe all j))) ex ?_ hp (fun k hk=>hj k (YF.1 hk).1) (fun r hrp F g1 g2 x hx=> ?_) hR
    . have:=hr.put o.dst (F0 (Fe all j)) fun d hd=>by
       have:=List.all_eq_true.1 hn o (List.mem_of_getElem? ho);simpa[hd]using this
      rw[hdst]at this⊢;exact this
    . by_cases hxj:x=Fe all j
      . subst hxj;rw[A9];obtain⟨o',ho2,hv'⟩:=g2 j (hj j hjm);rw[ho]at ho2;cases ho2;have h1:=hv' w;rw[same r hrp F g1 g2, <-e0,hv w]at h1;simp only[Result.ok.injEq,Next.value.injEq,and_true]at h1;exact h1.symm
      . rw[C1 _ _ _ _ hxj];refine hinv r hrp F g1 g2 x fun hm=>hx ?_
        obtain⟨i,hi,e⟩:=M5.1 hm;refine M5.2 ⟨i, ?_,e⟩;rcases List.mem_append.1 hi with hi|hi
        . exact List.mem_append_left _ hi
        . exact List.mem_append_right _ (YF.2 ⟨hi,fun hh=>hxj (by rw[<-e,hh])⟩)
  . split at hok
    . simp only[Bool.and_eq_true,List.isEmpty_iff]at hok;obtain⟨rfl,hok⟩:=hok;exact fin _ listed hok hd ht a Ec ex hr hp hinv
    . rename_i i0 r0;have hne:i0::r0≠ []:=by simp
      generalize i0::r0=ri at*;simp only[Bool.and_eq_true,List.all_eq_true,beq_iff_eq,Bool.not_eq_true']at hok;obtain⟨hready,hall⟩:=hok;unfold X7;refine⟨fun h0=>absurd (hready.symm.trans h0) hne,fun i hi=> ?_⟩;have hmem:=hi;rw[hready]at hi;obtain⟨k1,k2⟩:=hall i hi;have hit:=P9 k1;have hii:i∈is:=hp.subset (List.mem_append_right _ hi);have hnd:(ex++ri).Nodup:=hp.nodup_iff.2 (List.nodup_append.1 s2).1;obtain⟨o,ho,hv⟩:=hs.one i hii;obtain⟨hdst,hg,hns⟩:=Xm (s1 i (List.mem_append_left _ hii)) ho;obtain⟨F0,f1,f2,_⟩:=hs.fin (ex++ri) hp;have hEc:∀x,x∉Ar all (is++js)->Ec x=E x:=fun x hx=>by
       have hx1:x∉Ar all is:=fun hm=>hx (by obtain⟨k,hk,e⟩:=M5.1 hm;exact M5.2 ⟨k,List.mem_append_left _ hk,e⟩)
       have hx2:x∉Ar all js:=fun hm=>hx (by obtain⟨k,hk,e⟩:=M5.1 hm;exact M5.2 ⟨k,List.mem_append_right _ hk,e⟩)
       have h1:=hinv ri (List.Perm.refl _) F0 f1 f2 x fun hm=>by
        obtain⟨k,hk,e⟩:=M5.1 hm;rcases List.mem_append.1 hk with hk|hk
        . exact hx1 (M5.2 ⟨k,hp.subset (List.mem_append_right _ hk),e⟩)
        . exact hx2 (M5.2 ⟨k,hj k hk,e⟩)
       rw[<-h1,f1 x hx2];exact Hi _ _ _ fun hm=>by
        obtain⟨k,hk,e⟩:=M5.1 hm;exact hx1 (M5.2 ⟨k,hp.subset hk,e⟩)
      have hexec:=JB (E:=Ec) (E':=E) ho hns fun u hu=>hEc u (KL (s4 i hii) u hu)
      have ht':t=I2 tails (listed.setIfInBounds i true):=by rw[L1 hit];exact ht
      have hwant:D4 all o Ec=true:=by simp[D4,hg]
      have hstep:M2 P all o (fun E' w'=>E'=upd Ec (Fe all i) (f i (Ff all f X ex E w).2.heap.size)/\w'=(Ff all f X ex E w).2.alloc (X i)) Ec (Ff all f X ex E w).2:=by
       unfold M2;rw[if_pos hwant,hexec,hv,hdst];exact⟨rfl,rfl⟩
      have hrel:=hs.rel i hii _ hR;refine EH hn ho (fun a' E' w' hr' hh=> ?_) hr hstep;obtain⟨rfl,rfl⟩:=hh;refine⟨.inr hrel, ?_⟩;have hex:Ff all f X (ex++ [i]) E w=(upd (Ff all f X ex E w).1 (Fe all i) (f i (Ff all f X ex E w).2.heap.size),(Ff all f X ex E w).2.alloc (X i)):=by rw[Xr];rfl
      have hrmp:=jD (List.nodup_append.1 hnd).2.1 hi;have:=ih (rm i ri) rj _ k2 (hd.set hwait hmem) ht' a' _ (ex++ [i]) hr' (by
       rw[List.append_assoc];exact(List.Perm.append_left ex hrmp).trans hp) hj (fun r hrp F g1 g2 x hx=> ?_) (by rw[hex];exact htr hR hrel)
      . rw[hex]at this;exact Jd (fun w2 h2=>htr hrel h2) fuel _ a' _ this
      . have hcons:(i::r).Perm ri:=(hrp.cons i).trans hrmp;rw[List.append_assoc]at g1;by_cases hxi:x=Fe all i
        . subst hxi;have hnj:Fe all i∉Ar all js:=fun hm=>by
           obtain⟨k,hk,e⟩:=M5.1 hm;exact XI s3 (List.mem_append_right _ hk) (List.mem_append_left _ hii) (fun hh=>by
            subst hh;exact(List.nodup_append.1 s2).2.2 k hii k hk rfl) e
          rw[g1 _ hnj,A9,show ex++([i]++r)=(ex++ [i])++r from(List.append_assoc _ _ _).symm,Xr,hex];refine(Hi _ _ _ fun hm=> ?_).trans (A9 _ _ _);obtain⟨k,hk,e⟩:=M5.1 hm;have hk':=YF.1 (hrp.subset hk);exact XI s3 (List.mem_append_left _ (hp.subset (List.mem_append_right _ hk'.1))) (List.mem_append_left _ hii) hk'.2 e
        . rw[C1 _ _ _ _ hxi];refine hinv (i::r) hcons F g1 g2 x fun hm=>hx ?_
          obtain⟨k,hk,e⟩:=M5.1 hm;refine M5.2 ⟨k, ?_,e⟩;rcases List.mem_append.1 hk with hk|hk
          . exact List.mem_append_left _ (YF.2 ⟨hk,fun hh=>hxi (by rw[<-e,hh])⟩)
          . exact List.mem_append_right _ hk
theorem nJ {P:Program} {R:World->World->Prop} (hrefl:∀w,R w w) (htr:∀ {a b c},R a b->R b c->R a c) {n:Nat} {all:List Oper} {heads tails:List Nat} (hn:aM n all=true) (hsel:Region.noSelect all.toArray=true) (hw:Zy all heads tails=true) {Q:Exit->G3->World->Prop} (hQ:∀c E w,¬Q (.panic c) E w):
 ∀(p:Pl) (fuel:Nat) (listed:Array Bool) (al:Option (List Nat)),Ru all heads tails p fuel listed al=true->SX all.toArray heads tails listed->∀(t:Bool),t=I2 tails listed->∀(a:Act) (E:G3) (w:World),C6 n a E->(∀l,al=some l->∀i∈l,i∈Region.ready .any all.toArray listed)->OQ P R all tails (Q .normal) p t E w->
  match al with
  |none=>X7 P all.toArray (AT n Q) (R w) tails fuel listed a w
  |some l=>∃f,fuel=f+1/\∀i∈l,wpOp P all.toArray (AT n Q) i (fun a' w'=>(I2 tails (listed.setIfInBounds i true)=true\/R w w')/\X7 P all.toArray (AT n Q) (R w) tails f (listed.setIfInBounds i true) a' w') a w:=by
 have hQ':∀(c:List PanicEntry) (a a':Act) (w:World),AT n Q (.panic c) a' w->AT n Q (.panic c) a w:=fun c a a' w ⟨E,_,h⟩=>(hQ c E w h).elim
 have hdst:∀(i:Nat) (o:Oper),all[i]? =some o->∀d,o.dst=some d->d<n:=fun i o hi d hd=>by
  have:=List.all_eq_true.1 hn o (List.mem_of_getElem? hi);simpa[hd]using this
 have hwait:=Xx hw;have one:∀(i:Nat) (p:Pl) (fuel:Nat) (listed:Array Bool) (t:Bool) (a:Act) (E:G3) (w:World),(∀(fuel:Nat) (listed:Array Bool) (al:Option (List Nat)),Ru all heads tails p fuel listed al=true->SX all.toArray heads tails listed->∀(t:Bool),t=I2 tails listed->∀(a:Act) (E:G3) (w:World),C6 n a E->(∀l,al=some l->∀i∈l,i∈Region.ready .any all.toArray listed)->OQ P R all tails (Q .normal) p t E w->
  match al with
  |none=>X7 P all.toArray (AT n Q) (R w) tails fuel listed a w
  |some l=>∃f,fuel=f+1/\∀i∈l,wpOp P all.toArray (AT n Q) i (fun a' w'=>(I2 tails (listed.setIfInBounds i true)=true\/R w w')/\X7 P all.toArray (AT n Q) (R w) tails f (listed.setIfInBounds i true) a' w') a w)->
  Ru all heads tails p fuel (listed.setIfInBounds i true) none=true->SX all.toArray heads tails listed->t=I2 tails listed->C6 n a E->i∈Region.ready .any all.toArray listed->(∃o,all[i]? =some o/\M2 P all o (fun E' w'=>((t||tails.contains i)=true\/R w w')/\OQ P R all tails (Q .normal) p (t||tails.contains i) E' w') E w)->
  wpOp P all.toArray (AT n Q) i (fun a' w'=>(I2 tails (listed.setIfInBounds i true)=true\/R w w')/\X7 P all.toArray (AT n Q) (R w) tails fuel (listed.setIfInBounds i true) a' w') a w:=by
  intro i p fuel listed t a E w ih hok hd ht hr hmem ⟨o,hi,h⟩;have ht':(t||tails.contains i)=I2 tails (listed.setIfInBounds i true):=by rw[aC (pZ hmem),ht]
  refine EH hn hi (fun a' E' w' hr' hh=>⟨ht'▸hh.1, ?_⟩) hr h;have:=ih fuel _ none hok (hd.set hwait hmem) _ ht' a' E' w' hr' (fun _ hh=>by cases hh) hh.2;simp only at this;rcases hh.1 with g|g
  . exact LU fuel _ a' w' (ht'▸g) this
  . exact Jd (fun w2 h2=>htr g h2) fuel _ a' w' this
 intro p
 induction p with
 |done=>
  intro fuel listed al hok _ t _ a E w hr _ h;simp only[Ru,Bool.and_eq_true,Option.isNone_iff_eq_none]at hok;obtain⟨rfl,hok⟩:=hok;have hok':Region.ready .any all.toArray listed= []:=by simpa using hok
  cases fuel with
  |zero=>exact⟨hok',E,hr,h⟩
  |succ fuel=>exact⟨fun _=>⟨E,hr,h⟩,by rw[hok'];simp⟩
 |q i p ih=>
  intro fuel listed al hok hd t ht a E w hr _ h;cases fuel with
  |zero=>simp[Ru]at hok
  |succ fuel=>
   simp only[Ru,Bool.and_eq_true,Bool.not_eq_true',Option.isNone_iff_eq_none]at hok;obtain⟨⟨⟨⟨⟨rfl,hih⟩,hit⟩,hf⟩,hrd⟩,hok⟩:=hok;have hih:i∈heads:=by simpa using hih
   have hit:=P9 hit;have hrd:i∈Region.ready .any all.toArray listed:=by simpa using hrd
   obtain⟨o,hi,h⟩:=h;have hi':all.toArray[i]? =some o:=by simpa using hi
   have ht':t=I2 tails (listed.setIfInBounds i true):=by rw[L1 hit];exact ht
   rcases h with⟨hw,v,hv,h⟩ | ⟨hw,h⟩
   . refine IF (v:=v) hi' hih hit (Region.noSelect_spec hsel) hwait (fun c a w hh=>hQ' c a _ w hh) fuel listed a w hd (Region.free_spec hi' hf) hrd (.inl ⟨by rw[hr.wanted];exact hw,fun w' hS'=>by rw[hr.ev];exact hv w' hS'⟩) (hrefl w) ?_;exact ih fuel _ none hok (hd.set hwait hrd) t ht' _ _ w (hr.put _ _ (hdst i o hi)) (fun _ hh=>by cases hh) h
   . refine IF (v:=undef) hi' hih hit (Region.noSelect_spec hsel) hwait (fun c a w hh=>hQ' c a _ w hh) fuel listed a w hd (Region.free_spec hi' hf) hrd (.inr ⟨by rw[hr.wanted];exact hw,rfl⟩) (hrefl w) ?_;exact ih fuel _ none hok (hd.set hwait hrd) t ht' _ _ w (hr.put _ _ (hdst i o hi)) (fun _ hh=>by cases hh) h
 |p i p ih=>
  intro fuel listed al hok hd t ht a E w hr _ h;cases fuel with
  |zero=>simp[Ru]at hok
  |succ fuel=>
   simp only[Ru,Bool.and_eq_true,Bool.not_eq_true',Option.isNone_iff_eq_none]at hok;obtain⟨⟨⟨⟨rfl,hit⟩,hf⟩,hrd⟩,hok⟩:=hok;have hit:=P9 hit;have hrd:i∈Region.ready .any all.toArray listed:=by simpa using hrd
   obtain⟨o,hi,h⟩:=h;have hi':all.toArray[i]? =some o:=by simpa using hi
   have ht':t=I2 tails (listed.setIfInBounds i true):=by rw[L1 hit];exact ht
   rcases h with⟨hw,v,hv,h⟩ | ⟨hw,h⟩
   . refine Zb (v:=v) hi' hit (Region.noSelect_spec hsel) (fun c a w hh=>hQ' c a _ w hh) fuel listed a w (Region.free_spec hi' hf) hrd (.inl ⟨by rw[hr.wanted];exact hw,fun w' hS'=>by rw[hr.ev];exact hv w' hS'⟩) (.inr (hrefl w)) ?_;exact ih fuel _ none hok (hd.set hwait hrd) t ht' _ _ w (hr.put _ _ (hdst i o hi)) (fun _ hh=>by cases hh) h
   . refine Zb (v:=undef) hi' hit (Region.noSelect_spec hsel) (fun c a w hh=>hQ' c a _ w hh) fuel listed a w (Region.free_spec hi' hf) hrd (.inr ⟨by rw[hr.wanted];exact hw,rfl⟩) (.inr (hrefl w)) ?_;exact ih fuel _ none hok (hd.set hwait hrd) t ht' _ _ w (hr.put _ _ (hdst i o hi)) (fun _ hh=>by cases hh) h
 |e i p ih=>
  intro fuel listed al hok hd t ht a E w hr hal h;cases fuel with
  |zero=>simp[Ru]at hok
  |succ fuel=>
   simp only[Ru,Bool.and_eq_true,beq_iff_eq]at hok;obtain⟨hrd,hok⟩:=hok;cases al with
   |none=>
    simp only[Option.getD_none]at hrd;have hmem:i∈Region.ready .any all.toArray listed:=by rw[hrd];simp
    refine⟨fun h0=>by rw[hrd]at h0;simp at h0, ?_⟩;intro j hj;obtain rfl:j=i:=by rw[hrd]at hj;simpa using hj
    exact one j p fuel listed t a E w ih hok hd ht hr hmem h
   |some l=>
    simp only[Option.getD_some]at hrd;subst hrd;refine⟨fuel,rfl,fun j hj=> ?_⟩;obtain rfl:j=i:=by simpa using hj
    exact one j p fuel listed t a E w ih hok hd ht hr (hal _ rfl j (by simp)) h
 |or i p q ihp ihq=>
  intro fuel listed al hok hd t ht a E w hr hal h;cases fuel with
  |zero=>simp[Ru]at hok
  |succ fuel=>
   simp only[Ru]at hok;cases hl:al.getD (Region.ready .any all.toArray listed)with
   |nil=>rw[hl]at hok;simp at hok
   |cons j rest=>
    rw[hl]at hok;simp only[Bool.and_eq_true]at hok;obtain⟨⟨hij,hokp⟩,hokq⟩:=hok;have hij:=Nat.eq_of_beq_eq_true hij;subst hij;have hin:∀m∈i::rest,m∈Region.ready .any all.toArray listed:=fun m hm=>by
     cases al with
     |none=>rw[Option.getD_none]at hl;rw[hl];exact hm
     |some l=>rw[Option.getD_some]at hl;exact hal l rfl m (by rw[hl];exact hm)
    have h1:=one i p fuel listed t a E w ihp hokp hd ht hr (hin i (by simp)) h.1;have h2:=ihq (fuel+1) listed (some rest) hokq hd t ht a E w hr (fun l hh m hm=>by cases hh;exact hin m (by simp[hm])) h.2;obtain⟨f,hf,h2⟩:=h2;have hf:f=fuel:=by omega
    subst hf;have hall:∀m∈i::rest,wpOp P all.toArray (AT n Q) m (fun a' w'=>(I2 tails (listed.setIfInBounds m true)=true\/R w w')/\X7 P all.toArray (AT n Q) (R w) tails f (listed.setIfInBounds m true) a' w') a w:=fun m hm=>by
     rcases List.mem_cons.1 hm with rfl|hm
     . exact h1
     . exact h2 m hm
    cases al with
    |none=>
     rw[Option.getD_none]at hl;exact⟨fun h0=>by rw[hl]at h0;simp at h0,fun m hm=>hall m (by rw[hl]at hm;exact hm)⟩
    |some l=>
     rw[Option.getD_some]at hl;subst hl;exact⟨f,rfl,hall⟩
 |al is js p ih=>
  intro fuel listed al hok hd t ht a E w hr _ h;simp only[Ru,Bool.and_eq_true,Option.isNone_iff_eq_none]at hok;obtain⟨⟨rfl,hst⟩,hok⟩:=hok;obtain⟨f,X,hs⟩:=h;refine A4d hrefl htr hn hsel hw hQ' (t:=t) hst hs (fun fuel' listed' a' E' w' hl hd' ht' hr' hx=>ih fuel' listed' none hl hd' t ht' a' E' w' hr' (fun _ hh=>by cases hh) hx) fuel is js listed hok hd ht a E [] hr (List.Perm.refl _) (fun _ hh=>hh) (fun r hrp F g1 g2 x hx=> ?_) (hrefl w);have hx1:x∉Ar all js:=fun hm=>hx (by obtain⟨k,hk,e⟩:=M5.1 hm;exact M5.2 ⟨k,List.mem_append_right _ hk,e⟩)
  rw[g1 x hx1,List.nil_append];exact Hi _ _ _ fun hm=>hx (by obtain⟨k,hk,e⟩:=M5.1 hm;exact M5.2 ⟨k,List.mem_append_left _ (hrp.subset hk),e⟩)
end Go.Gw
namespace Go.Vc
open Go Go.RowKit Go.Gw
inductive Ty where
 |int (k:IntKind)
 |bool
 |str
 |unit
 |pair (a b:Ty)
 |sl (t:Ty)
 |ptr (t:Ty)
 |mp (ka:Bool) (kt:Ty) (va:Bool) (vt:Ty)
 deriving DecidableEq
@[reducible] def Ty.den:Ty->Type
 | .int _=>Int
 | .bool=>Bool
 | .str=>ByteArray
 | .unit=>Unit
 | .pair a b=>a.den×b.den
 | .sl t=>List t.den
 | .ptr t=>t.den
 | .mp _ kt _ vt=>List (kt.den×vt.den)
def Ty.size:Ty->Nat
 | .unit=>0
 | .pair a b=>a.size+b.size
 | _=>1
def Ty.dflt:(t:Ty)->t.den
 | .int _=>(0:Int)
 | .bool=>false
 | .str=>⟨#[]⟩
 | .unit=>()
 | .pair a b=>(a.dflt,b.dflt)
 | .sl _=> []
 | .ptr t=>t.dflt
 | .mp _ _ _ _=> []
def FX (k:IntKind) (n:Int):Prop:=k.min<=n/\n<=k.max
def Ty.wf:(t:Ty)->t.den->Prop
 | .int k,n=>FX k n
 | .bool,_=>True
 | .str,_=>True
 | .unit,_=>True
 | .pair a b,x=>a.wf x.1/\b.wf x.2
 | .sl t,l=>l.length<=9223372036854775807/\∀x∈l,t.wf x
 | .ptr t,x=>t.wf x
 | .mp _ kt _ vt,l=>∀x∈l,kt.wf x.1/\vt.wf x.2
def G4 {α:Type} (R:List Value->α->Prop):List Value->List α->Prop
 |cs,[]=>cs= []
 |cs,x::l=>∃c1 c2,cs=c1++c2/\R c1 x/\G4 R c2 l
def S4 {α:Type} (R:List Value->α->Prop):Bool->Value->α->Prop
 |true,v,x=>∃cs:List Value,v= .agg cs.toArray/\R cs x
 |false,v,x=>R [v] x
def mJ (ents:Array MapEntry) (clock:Nat):Prop:=(∀x∈ents.toList,x.born<clock)/\(ents.toList.map (·.born)).Nodup
def O8 {κ ν:Type} (Rk:Value->κ->Prop) (Rv:Value->ν->Prop):List MapEntry->List (κ×ν)->Prop
 |es,[]=>es= []
 |es,x::l=>∃e es',es=e::es'/\Rk e.key x.1/\Rv e.val x.2/\O8 Rk Rv es' l
def C6:(t:Ty)->World->(Nat->Prop)->List Value->t.den->Prop
 | .int k,_,_,cs,n=>cs= [.int k n]/\FX k n
 | .bool,_,_,cs,b=>cs= [.bool b]
 | .str,_,_,cs,s=>cs= [.string s]
 | .unit,_,_,cs,_=>cs= []
 | .pair a b,w,Z,cs,x=>∃c1 c2,cs=c1++c2/\C6 a w Z c1 x.1/\C6 b w Z c2 x.2
 | .sl t,w,Z,cs,l=>∃a cap,cs= [.slice a l.length cap]/\l.length<=cap/\cap<=maxLen/\(a=none->cap=0)/\(l= []\/∃b o ec,a=some ⟨b,o,none⟩/\Z b/\K0 w ⟨b,o,none⟩ ec/\G4 (C6 t w Z) ec l)
 | .ptr t,w,Z,cs,x=>∃b o ec,cs= [.pointer (some ⟨b,o,none⟩)]/\Z b/\K0 w ⟨b,o,none⟩ ec/\C6 t w Z ec x
 | .mp ka kt va vt,w,Z,cs,l=>(cs= [.map none]/\l= [])\/∃b ents clock,cs= [.map (some b)]/\Z b/\w.heap[b]? =some (.map ents clock)/\mJ ents clock/\O8 (S4 (C6 kt w Z) ka) (S4 (C6 vt w Z) va) ents.toList l
theorem S4.mono {α:Type} {R R':List Value->α->Prop} (h:∀c x,R c x->R' c x):∀ {a:Bool} {v:Value} {x:α},S4 R a v x->S4 R' a v x
 |true,_,_,⟨cs,e,hh⟩=>⟨cs,e,h _ _ hh⟩
 |false,_,_,hh=>h _ _ hh
theorem O8.mono {κ ν:Type} {Rk Rk':Value->κ->Prop} {Rv Rv':Value->ν->Prop} (h:∀c x,Rk c x->Rk' c x) (h':∀c x,Rv c x->Rv' c x):∀ {l:List (κ×ν)} {es:List MapEntry},O8 Rk Rv es l->O8 Rk' Rv' es l
 | [],_,hh=>hh
 | _:: _,_,⟨e,es',he,h1,h2,h3⟩=>⟨e,es',he,h _ _ h1,h' _ _ h2,O8.mono h h' h3⟩
theorem O8.mem {κ ν:Type} {Rk:Value->κ->Prop} {Rv:Value->ν->Prop} :∀ {l:List (κ×ν)} {es:List MapEntry} {x:κ×ν},O8 Rk Rv es l->x∈l->∃e∈es,Rk e.key x.1/\Rv e.val x.2
 |y::l,_,x,⟨e,es',he,h1,h2,h3⟩,hx=>by
  rw[he];rcases List.mem_cons.1 hx with rfl|hx
  . exact⟨e,by simp,h1,h2⟩
  . obtain⟨e',hm,h⟩:=O8.mem h3 hx;exact⟨e',by simp[hm],h⟩
section each
variable {α:Type} {R R':List Value->α->Prop}
theorem G4.mono (h:∀c x,R c x->R' c x):∀ {l:List α} {cs:List Value},G4 R cs l->G4 R' cs l
 | [],_,hh=>hh
 | _:: _,_,⟨c1,c2,e,h1,h2⟩=>⟨c1,c2,e,h _ _ h1,G4.mono h h2⟩
theorem G4.append:∀ {l l':List α} {cs cs':List Value},G4 R cs l->G4 R cs' l'->G4 R (cs++cs') (l++l')
 | [],_,cs,cs',h,h'=>by cases h;simpa using h'
 | _:: _,_,_,cs',⟨c1,c2,e,h1,h2⟩,h'=>⟨c1,c2++cs',by simp[e],h1,G4.append h2 h'⟩
theorem G4.length {s:Nat} (hs:∀c x,R c x->c.length=s):∀ {l:List α} {cs:List Value},G4 R cs l->cs.length=l.length*s
 | [],_,h=>by cases h;simp
 | _::l,_,⟨c1,c2,e,h1,h2⟩=>by
  have:=G4.length hs h2;rw[e,List.length_append,hs _ _ h1,this,List.length_cons,Nat.succ_mul];omega
theorem G4.get {s:Nat} (hs:∀c x,R c x->c.length=s):∀ {l:List α} {cs:List Value} {i:Nat} {x:α},G4 R cs l->l[i]? =some x->R ((cs.drop (i*s)).take s) x
 | [],_,_,_,_,hi=>by simp at hi
 |y::l,_,i,x,⟨c1,c2,e,h1,h2⟩,hi=>by
  have hl:=hs _ _ h1;cases i with
  |zero=>
   simp at hi;subst hi;rw[e,Nat.zero_mul,List.drop_zero,List.take_left' hl];exact h1
  |succ i=>
   simp at hi;have:=G4.get hs h2 hi;rw[e,Nat.succ_mul,Nat.add_comm, <-List.drop_drop,List.drop_left' hl];exact this
theorem G4.set {s:Nat} (hs:∀c x,R c x->c.length=s):∀ {l:List α} {cs:List Value} {i:Nat} {x:α} {c:List Value},G4 R cs l->R c x->i<l.length->G4 R (cs.take (i*s)++c++cs.drop (i*s+s)) (l.set i x)
 | [],_,_,_,_,_,_,hi=>by simp at hi
 |y::l,_,i,x,c,⟨c1,c2,e,h1,h2⟩,hc,hi=>by
  have hl:=hs _ _ h1;cases i with
  |zero=>
   refine⟨c,c2, ?_,hc,h2⟩;rw[e,Nat.zero_mul,Nat.zero_add,List.take_zero,List.nil_append,List.drop_left' hl]
  |succ i=>
   have hi':i<l.length:=by simpa using hi
   refine⟨c1,_, ?_,h1,G4.set hs h2 hc hi'⟩;have e1:(i+1)*s=s+i*s:=by rw[Nat.succ_mul,Nat.add_comm]
   rw[e,e1,List.take_append,List.take_of_length_le (by omega),hl,Nat.add_sub_cancel_left,List.drop_append,List.drop_of_length_le (by omega),hl];simp[show s+i*s+s-s=i*s+s from by omega]
theorem G4.take {s:Nat} (hs:∀c x,R c x->c.length=s):∀ {l:List α} {cs:List Value} (n:Nat),G4 R cs l->G4 R (cs.take (n*s)) (l.take n)
 | [],_,n,h=>by cases h;simp;rfl
 | _::l,_,n,⟨c1,c2,e,h1,h2⟩=>by
  have hl:=hs _ _ h1;cases n with
  |zero=>simp;rfl
  |succ n=>
   refine⟨c1,_, ?_,h1,G4.take hs n h2⟩;rw[e,show(n+1)*s=s+n*s from by rw[Nat.succ_mul,Nat.add_comm],List.take_append,List.take_of_length_le (by omega),hl,Nat.add_sub_cancel_left]
theorem G4.drop {s:Nat} (hs:∀c x,R c x->c.length=s):∀ {l:List α} {cs:List Value} (n:Nat),G4 R cs l->G4 R (cs.drop (n*s)) (l.drop n)
 | [],_,n,h=>by cases h;simp;rfl
 | _::l,_,n,⟨c1,c2,e,h1,h2⟩=>by
  have hl:=hs _ _ h1;cases n with
  |zero=>simp;exact⟨c1,c2,e,h1,h2⟩
  |succ n=>
   have:=G4.drop hs n h2;rw[e,show(n+1)*s=s+n*s from by rw[Nat.succ_mul,Nat.add_comm], <-List.drop_drop,List.drop_left' hl];exact this
end each
theorem C6.length:∀ {t:Ty} {w:World} {Z:Nat->Prop} {cs:List Value} {x:t.den},C6 t w Z cs x->cs.length=t.size
 | .int _,_,_,_,_,h=>by rw[h.1];rfl
 | .bool,_,_,_,_,h=>by rw[show _= _ from h];rfl
 | .str,_,_,_,_,h=>by rw[show _= _ from h];rfl
 | .unit,_,_,_,_,h=>by rw[show _= _ from h];rfl
 | .pair a b,_,_,_,_,⟨c1,c2,e,h1,h2⟩=>by rw[e,List.length_append,C6.length h1,C6.length h2];rfl
 | .sl _,_,_,_,_,⟨_,_,e,_⟩=>by rw[e];rfl
 | .ptr _,_,_,_,_,⟨_,_,_,e,_⟩=>by rw[e];rfl
 | .mp _ _ _ _,_,_,_,_,h=>by
  rcases h with⟨e,_⟩ | ⟨_,_,_,e,_⟩<;>rw[e]<;>rfl
def N5 (Z:Nat->Prop) (w w':World):Prop:=∀b,Z b->w'.heap[b]? =w.heap[b]?
theorem Wn {Z:Nat->Prop} {w w':World} {b o:Nat} {ec:List Value} (h:K0 w ⟨b,o,none⟩ ec) (hb:Z b) (hs:N5 Z w w'):K0 w' ⟨b,o,none⟩ ec:=fun j v hv=>by
 have:=h j v hv;rw[L4]at this⊢;rw[<-this];exact World.cell?_of_block (hs b hb)
theorem C6.mono:∀ {t:Ty} {w w':World} {Z Z':Nat->Prop} {cs:List Value} {x:t.den},(∀b,Z b->Z' b)->N5 Z w w'->C6 t w Z cs x->C6 t w' Z' cs x
 | .int _,_,_,_,_,_,_,_,_,h=>h
 | .bool,_,_,_,_,_,_,_,_,h=>h
 | .str,_,_,_,_,_,_,_,_,h=>h
 | .unit,_,_,_,_,_,_,_,_,h=>h
 | .pair a b,_,_,_,_,_,_,hz,hs,⟨c1,c2,e,h1,h2⟩=>⟨c1,c2,e,C6.mono hz hs h1,C6.mono hz hs h2⟩
 | .sl t,_,_,_,_,_,_,hz,hs,⟨a,cap,e,hc,hm,hn,h⟩=>⟨a,cap,e,hc,hm,hn,h.imp id fun⟨b,o,ec,ha,hb,hcs,he⟩=>⟨b,o,ec,ha,hz b hb,Wn hcs hb hs,he.mono fun _ _=>C6.mono hz hs⟩⟩
 | .ptr t,_,_,_,_,_,_,hz,hs,⟨b,o,ec,e,hb,hcs,he⟩=>⟨b,o,ec,e,hz b hb,Wn hcs hb hs,C6.mono hz hs he⟩
 | .mp ka kt va vt,_,_,_,_,_,_,hz,hs,h=>h.imp id fun⟨b,es,cl,e,hb,hh,hm,he⟩=>⟨b,es,cl,e,hz b hb,by rw[hs b hb];exact hh,hm,he.mono (fun _ _ h=>h.mono fun _ _=>C6.mono hz hs) (fun _ _ h=>h.mono fun _ _=>C6.mono hz hs)⟩
theorem S4.wf' {t:Ty} {R:List Value->t.den->Prop} (hR:∀cs x,R cs x->t.wf x):∀ {a:Bool} {v:Value} {x:t.den},S4 R a v x->t.wf x
 |true,_,_,⟨_,_,h⟩=>hR _ _ h
 |false,_,_,h=>hR _ _ h
theorem C6.wf:∀ {t:Ty} {w:World} {Z:Nat->Prop} {cs:List Value} {x:t.den},C6 t w Z cs x->t.wf x
 | .int _,_,_,_,_,h=>h.2
 | .bool,_,_,_,_,_=>trivial
 | .str,_,_,_,_,_=>trivial
 | .unit,_,_,_,_,_=>trivial
 | .pair a b,_,_,_,_,⟨c1,c2,e,h1,h2⟩=>⟨C6.wf h1,C6.wf h2⟩
 | .sl t,_,_,_,l,⟨a,cap,e,hc,hm,_,h⟩=>⟨by simp only[maxLen]at hm;omega,by
  rcases h with h| ⟨b,o,ec,_,_,_,he⟩
  . intro x hx;rw[h]at hx;cases hx
  . intro x hx;obtain⟨i,hi,hx'⟩:=List.getElem_of_mem hx;exact C6.wf (t:=t) (G4.get (R:=C6 t _ _) (s:=t.size) (fun _ _ h=>C6.length h) he (i:=i) (by rw[List.getElem?_eq_getElem hi,hx']))⟩
 | .ptr t,_,_,_,_,⟨b,o,ec,e,hb,hcs,he⟩=>C6.wf (t:=t) he
 | .mp ka kt va vt,_,_,_,l,h=>by
  rcases h with⟨_,e⟩ | ⟨b,es,cl,e,hb,hh,hm,he⟩
  . intro x hx;rw[e]at hx;cases hx
  . intro x hx;obtain⟨m,_,h1,h2⟩:=he.mem hx;exact⟨S4.wf' (fun _ _=>C6.wf) h1,S4.wf' (fun _ _=>C6.wf) h2⟩
theorem C6.oneCell:∀ {t:Ty} {w:World} {Z:Nat->Prop} {cs:List Value} {x:t.den},C6 t w Z cs x->∀u∈cs,u.oneCell'=true
 | .int _,_,_,_,_,h=>by rw[h.1];exact Mh rfl Kw
 | .bool,_,_,_,_,h=>by rw[show _= _ from h];exact Mh rfl Kw
 | .str,_,_,_,_,h=>by rw[show _= _ from h];exact Mh rfl Kw
 | .unit,_,_,_,_,h=>by rw[show _= _ from h];exact Kw
 | .pair a b,_,_,_,_,⟨c1,c2,e,h1,h2⟩=>by
  rw[e];intro u hu;rcases List.mem_append.1 hu with hu|hu
  . exact C6.oneCell h1 u hu
  . exact C6.oneCell h2 u hu
 | .sl _,_,_,_,_,⟨_,_,e,_⟩=>by rw[e];exact Mh rfl Kw
 | .ptr _,_,_,_,_,⟨_,_,_,e,_⟩=>by rw[e];exact Mh rfl Kw
 | .mp _ _ _ _,_,_,_,_,h=>by
  rcases h with⟨e,_⟩ | ⟨_,_,_,e,_⟩<;>rw[e]<;>exact Mh rfl Kw
theorem G4.oneCell {t:Ty} {w:World} {Z:Nat->Prop} :∀ {l:List t.den} {cs:List Value},G4 (C6 t w Z) cs l->∀u∈cs,u.oneCell'=true
 | [],_,h=>by rw[show _= _ from h];exact Kw
 | _:: _,_,⟨c1,c2,e,h1,h2⟩=>by
  rw[e];intro u hu;rcases List.mem_append.1 hu with hu|hu
  . exact C6.oneCell h1 u hu
  . exact G4.oneCell h2 u hu
theorem M8 {w:World} {b o:Nat} {ec:List Value} (h:K0 w ⟨b,o,none⟩ ec) (i n:Nat):K0 w ⟨b,o+i,none⟩ ((ec.drop i).take n):=fun j v hv=>by
 rw[L4];rw[List.getElem?_take]at hv;split at hv
 . rw[List.getElem?_drop]at hv;have:=h (i+j) v hv;rw[L4]at this;rw[Nat.add_assoc];exact this
 . cases hv
@[reducible] def Dp:List (Bool×Ty)->Type
 | []=>Unit
 | (_,t)::r=>t.den×Dp r
inductive C where
 |val (t:Ty) (x:t.den)
 |row (k:Nat)
 |box (k off:Nat)
 |elp (k sz i off:Nat)
 |win (k sz:Nat) (lo hi:Int)
 |pf (t:Ty) (x:t.den) (off:Nat)
 |mp (k:Nat)
 |fn (f:FuncId) (caps:List Nat)
 |fv (P:Program) (as:List (Bool×Ty)) (ra:Bool) (r:Ty) (ok:Dp as->Prop) (φ:Dp as->r.den)
 |raw (v:Value)
 |dead
structure SV where
 agg:Bool
 cs:List C
inductive DV where
 |one (v:SV)
 |tup (vs:List SV)
 |cnd (t:Tmp) (b:Bool) (v:SV)
 |dead
inductive LC where
 |none
 |box (ty:TypeId) (cs:List C)
 |row (t:Ty) (e:TypeId) (l:List t.den)
 |map (ka:Bool) (kt:Ty) (va:Bool) (vt:Ty) (es:List (kt.den×vt.den))
 |rows (t:Ty) (e e':TypeId) (ls:List (List t.den)) (al:List (Nat×Nat)) (ho:Option Nat)
 |al (k:Nat)
 |sbox (q:Nat) (t:Ty) (x:t.den)
 |mapE (ka:Bool) (kt:Ty) (va:Bool) (vt:Ty) (es:List (kt.den×vt.den)) (j q:Nat)
 |iter (ka:Bool) (kt:Ty) (va:Bool) (vt:Ty) (left:List (kt.den×vt.den)) (cur:Option (kt.den×vt.den))
 |nest (t:Ty) (e e':TypeId) (ls:List t.den) (bo:List (Nat×Nat)) (dd:List Nat)
 |itM (ka:Bool) (kt:Ty) (va:Bool) (vt:Ty) (es left:List (kt.den×vt.den)) (cur:Option (kt.den×vt.den)) (q:Nat)
structure St where
 sl:List (Nat×Nat×DV)
 lc:List (Nat×Nat×LC)
 nx:Nat
 ct:Nat
 nm:Nat:=0
 fr:List (List (Nat×Nat×DV)):= []
def CC:Option Prop->Prop
 |none=>True
 |some φ=>φ
def TB (φ:Option Prop) (p:Prop):Prop:=match φ with
 |none=>p
 |some φ=>φ/\p
theorem F4 {φ:Option Prop} {p:Prop} :TB φ p↔CC φ/\p:=by cases φ<;>simp[TB,CC]
def A1w (c:Prop) (φ:Option Prop):Option Prop:=match φ with
 |none=>none
 |some φ=>some (c->φ)
theorem bD {c:Prop} {φ:Option Prop} :CC (A1w c φ)↔(c->CC φ):=by cases φ<;>simp[A1w,CC]
def sel {α:Type} (e:Bool) (x y:α):α:=bif e then x else y
def find {α:Type} (d:α) (s:Nat):List (Nat×α)->α
 | []=>d
 | (t,x)::l=>bif Nat.beq t s then x else find d s l
def St.eS (st:St) (s:Nat):Nat×DV:=find (0, .dead) s st.sl
def St.eL (st:St) (k:Nat):Nat×LC:=find (0, .none) k st.lc
def St.S (st:St) (s:Nat):DV:=(st.eS s).2
def St.L (st:St) (k:Nat):LC:=(st.eL k).2
def put {α:Type} (s:Nat) (x:α):List (Nat×α)->List (Nat×α)
 | []=> [(s,x)]
 | (t,y)::l=>bif Nat.beq t s then(t,x)::l else(t,y)::put s x l
theorem Ws {α:Type} (d:α) (s:Nat) (x:α) (q:Nat):∀l:List (Nat×α),find d q (put s x l)=if q=s then x else find d q l
 | []=>by
  simp only[put,find];by_cases h:q=s
  . simp[h]
  . simp[h,E6 (Ne.symm h)]
 | (t,y)::l=>by
  have ih:=Ws d s x q l;simp only[put];cases hts:Nat.beq t s with
  |true=>
   have ets:=Nat.eq_of_beq_eq_true hts;subst ets;simp only[cond_true,find];by_cases h:q=t
   . simp[h]
   . simp[h,E6 (Ne.symm h)]
  |false=>
   have nts:t≠s:=Nat.ne_of_beq_eq_false hts;simp only[cond_false,find,ih];cases htq:Nat.beq t q with
   |true=>
    have etq:=Nat.eq_of_beq_eq_true htq;subst etq;simp[nts]
   |false=>simp
def BZ (t:Nat):DV->Bool
 | .cnd t' _ _=>Nat.beq t' t
 | _=>false
def unc (t g:Nat):Nat×DV->Nat×DV
 | (n, .cnd t' b v)=>bif Nat.beq t' t then(g, .dead)else(n, .cnd t' b v)
 | (n, .one v)=>(n, .one v)
 | (n, .tup v)=>(n, .tup v)
 | (n, .dead)=>(n, .dead)
theorem A6c (t g:Nat) (d:Nat×DV):unc t g d=bif BZ t d.2 then(g, .dead)else d:=by
 obtain⟨n,d⟩:=d;cases d<;>rfl
def dK (t g:Nat):List (Nat×Nat×DV)->List (Nat×Nat×DV)
 | []=> []
 | (s,d)::l=>(s,unc t g d)::dK t g l
theorem PE (t g q:Nat):∀l:List (Nat×Nat×DV),find (0, .dead) q (dK t g l)=bif BZ t (find (0, .dead) q l).2 then(g, .dead)else find (0, .dead) q l
 | []=>by simp[dK,find,BZ]
 | (s,d)::l=>by
  have ih:=PE t g q l;simp only[dK,find,A6c];cases Nat.beq s q<;>simp[ih]
def St.setS (st:St) (d:Nat) (x:DV):St:=⟨put d (st.ct+1,x) (dK d (st.ct+1) st.sl),st.lc,st.nx,st.ct+1,st.nm,st.fr⟩
def St.setL (st:St) (k:Nat) (x:LC):St:=⟨st.sl,put k (st.ct+1,x) st.lc,st.nx,st.ct+1,st.nm,st.fr⟩
def St.newL (st:St) (x:LC):St:=⟨st.sl,put st.nx (st.ct+1,x) st.lc,st.nx+1,st.ct+1,st.nm,st.fr⟩
theorem St.eS_setS (st:St) (d s:Nat) (x:DV):(st.setS d x).eS s=if s=d then(st.ct+1,x)else bif BZ d (st.S s)then(st.ct+1, .dead)else st.eS s:=by
 unfold St.eS St.setS;simp only;rw[Ws,PE];rfl
theorem St.S_setS (st:St) (d s:Nat) (x:DV):(st.setS d x).S s=if s=d then x else bif BZ d (st.S s)then .dead else st.S s:=by
 show((st.setS d x).eS s).2= _;rw[St.eS_setS];split
 . rfl
 . cases BZ d (st.S s)<;>rfl
theorem St.eL_setL (st:St) (k q:Nat) (x:LC):(st.setL k x).eL q=if q=k then(st.ct+1,x)else st.eL q:=Ws ..
theorem St.L_setL (st:St) (k q:Nat) (x:LC):(st.setL k x).L q=if q=k then x else st.L q:=by
 show((st.setL k x).eL q).2= _;rw[St.eL_setL];split<;>rfl
theorem St.eL_newL (st:St) (q:Nat) (x:LC):(st.newL x).eL q=if q=st.nx then(st.ct+1,x)else st.eL q:=Ws ..
theorem St.L_newL (st:St) (q:Nat) (x:LC):(st.newL x).L q=if q=st.nx then x else st.L q:=by
 show((st.newL x).eL q).2= _;rw[St.eL_newL];split<;>rfl
def P0 (n:Nat):List (Nat×Nat×DV)->List (Nat×Nat×DV)->Prop
 | [],[]=>True
 | (s,e)::l,(s',e')::l'=>s'=s/\(e'.1<=n->e'=e)/\P0 n l l'
 | _,_=>False
def Af (n:Nat):List (List (Nat×Nat×DV))->List (List (Nat×Nat×DV))->Prop
 | [],[]=>True
 |f::l,f'::l'=>P0 n f f'/\Af n l l'
 | _,_=>False
theorem P0.refl (n:Nat):∀l,P0 n l l
 | []=>trivial
 | (_,_)::l=>⟨rfl,fun _=>rfl,P0.refl n l⟩
theorem Af.refl (n:Nat):∀l,Af n l l
 | []=>trivial
 |f::l=>⟨P0.refl n f,Af.refl n l⟩
theorem P0.trans {n m:Nat} (hm:n<=m):∀ {a b c},P0 n a b->P0 m b c->P0 n a c
 | [],[],[],_,_=>trivial
 | (_,_):: _,(_,_):: _,(_,_):: _,⟨e1,h1,r1⟩,⟨e2,h2,r2⟩=>⟨e2.trans e1,fun hh=>by
  have:=h2 (Nat.le_trans hh hm);rw[this]at hh⊢;exact h1 hh,P0.trans hm r1 r2⟩
 | [],[],_:: _,_,h=>h.elim
 | [],_:: _,_,h,_=>h.elim
 | _:: _,[],_,h,_=>h.elim
 | (_,_):: _,(_,_):: _,[],_,h=>h.elim
theorem Af.trans {n m:Nat} (hm:n<=m):∀ {a b c},Af n a b->Af m b c->Af n a c
 | [],[],[],_,_=>trivial
 | _:: _,_:: _,_:: _,h,k=>⟨h.1.trans hm k.1,Af.trans hm h.2 k.2⟩
 | [],[],_:: _,_,h=>h.elim
 | [],_:: _,_,h,_=>h.elim
 | _:: _,[],_,h,_=>h.elim
 | _:: _,_:: _,[],_,h=>h.elim
theorem P0.le {n m:Nat} (hm:n<=m) {a b} (h:P0 m a b):P0 n a b:=(P0.refl n a).trans hm h
theorem Af.le {n m:Nat} (hm:n<=m) {a b} (h:Af m a b):Af n a b:=(Af.refl n a).trans hm h
theorem P0.find {n:Nat} {d:Nat×DV} (s:Nat):∀ {a b},P0 n a b->(Vc.find d s b).1<=n->Vc.find d s b=Vc.find d s a
 | [],[],_,_=>rfl
 | (t,e)::a,(t',e')::b,⟨e1,h1,r1⟩,h=>by
  subst e1;simp only[Vc.find]at h⊢;cases hb:Nat.beq t' s with
  |true=>rw[hb]at h;exact h1 h
  |false=>rw[hb]at h;exact P0.find s r1 h
 | [],_:: _,h,_=>h.elim
 | _:: _,[],h,_=>h.elim
def A5r (n:Nat) (fr:List (List (Nat×Nat×DV))):Bool:=fr.all fun f=>f.all fun e=>Nat.ble e.2.1 n
theorem P0.old {n:Nat} :∀ {a b},P0 n a b->(b.all fun e=>Nat.ble e.2.1 n)=true->b=a
 | [],[],_,_=>rfl
 | (t,e)::a,(t',e')::b,⟨e1,h1,r1⟩,h=>by
  simp only[List.all_cons,Bool.and_eq_true]at h;rw[e1,h1 (Nat.le_of_ble_eq_true h.1),P0.old r1 h.2]
 | [],_:: _,h,_=>h.elim
 | _:: _,[],h,_=>h.elim
theorem Af.old {n:Nat} :∀ {a b},Af n a b->A5r n b=true->b=a
 | [],[],_,_=>rfl
 |f::a,f'::b,⟨h1,r1⟩,h=>by
  simp only[A5r,List.all_cons,Bool.and_eq_true]at h;rw[h1.old h.1,Af.old r1 h.2]
 | [],_:: _,h,_=>h.elim
 | _:: _,[],h,_=>h.elim
structure C3 (st st':St):Prop where
 ct:st.ct<=st'.ct
 s:∀s,(st'.eS s).1≠0->(st'.eS s).1<=st.ct->st'.eS s=st.eS s
 l:∀k,(st'.eL k).1≠0->(st'.eL k).1<=st.ct->st'.eL k=st.eL k
 f:Af st.ct st.fr st'.fr
theorem C3.refl (st:St):C3 st st:=⟨Nat.le_refl _,fun _ _ _=>rfl,fun _ _ _=>rfl,Af.refl _ _⟩
def X3 (a:Bool) (t:Ty) (w:World) (Z:Nat->Prop) (v:Value) (x:t.den):Prop:=S4 (C6 t w Z) a v x
def NZ (w:World) (Z:Nat->Prop):(as:List (Bool×Ty))->List Value->Dp as->Prop
 | [],vs,_=>vs= []
 | (a,t)::r,vs,x=>∃v vs',vs=v::vs'/\X3 a t w Z v x.1/\NZ w Z r vs' x.2
def A3z (P:Program) (w:World) (Z:Nat->Prop) (v:Value) (as:List (Bool×Ty)) (ra:Bool) (r:Ty) (ok:Dp as->Prop) (φ:Dp as->r.den):Prop:=
 ∃g,∃caps:List Value,v= .func (.func g) #[] caps.toArray/\Fi P g=true/\∀(w':World) (Z':Nat->Prop) (vs:List Value) (x:Dp as),N5 Z w w'->(∀b,Z b->b<w'.heap.size)->(∀b,Z' b->b<w'.heap.size)->NZ w' Z' as vs x->ok x->
  Gw.jW P g (vs++caps) w' fun u w''=>R2 w' w''/\∃Zn:Nat->Prop,(∀b,Zn b->(w'.heap.size<=b/\b<w''.heap.size)\/Z b\/Z' b)/\X3 ra r w'' Zn u (φ x)
def RC (w:World) (Z:Nat->Prop) (B:Nat->Value):C->Value->Prop
 | .val t x,v=>C6 t w Z [v] x
 | .row k,v=>v=B k
 | .box k off,v=>∃b,B k= .pointer (some ⟨b,0,none⟩)/\v= .pointer (some ⟨b,off,none⟩)
 | .elp k sz i off,v=>∃b n cap,B k= .slice (some ⟨b,0,none⟩) n cap/\i<n/\v= .pointer (some ⟨b,i*sz+off,none⟩)
 | .win k sz lo hi,v=>∃a n cap,B k= .slice a n cap/\(∀x,a=some x->∃g,x=⟨g,0,none⟩)/\(a=none->cap=0)/\0<=lo/\lo<=hi/\hi<=(n:Int)/\n<=cap/\cap<=maxLen/\v= .slice (if cap=lo.toNat then a else a.map (·.add (lo.toNat*sz))) (hi.toNat-lo.toNat) (cap-lo.toNat)
 | .pf t x off,v=>∃b o ec,v= .pointer (some ⟨b,o+off,none⟩)/\Z b/\K0 w ⟨b,o,none⟩ ec/\C6 t w Z ec x
 | .mp k,v=>v=B k
 | .fn f caps,v=>v= .func (.func f) #[] (caps.map B).toArray
 | .fv P as ra r ok φ,v=>A3z P w Z v as ra r ok φ
 | .raw v0,v=>v=v0/\v0.oneCell'=true
 | .dead,_=>True
def Cf (w:World) (Z:Nat->Prop) (B:Nat->Value):List C->List Value->Prop
 | [],vs=>vs= []
 |c::cs,vs=>∃v vs',vs=v::vs'/\RC w Z B c v/\Cf w Z B cs vs'
def RS (w:World) (Z:Nat->Prop) (B:Nat->Value):SV->Value->Prop
 | ⟨true,cs⟩,v=>∃vs:List Value,v= .agg vs.toArray/\Cf w Z B cs vs
 | ⟨false,cs⟩,v=>Cf w Z B cs [v]
def Oj (w:World) (Z:Nat->Prop) (B:Nat->Value):List SV->List Value->Prop
 | [],vs=>vs= []
 |c::cs,vs=>∃v vs',vs=v::vs'/\RS w Z B c v/\Oj w Z B cs vs'
def RD (w:World) (Z:Nat->Prop) (B:Nat->Value) (E:G3):DV->Value->Prop
 | .one s,v=>RS w Z B s v
 | .tup ss,v=>∃vs:List Value,v= .tuple vs.toArray/\Oj w Z B ss vs
 | .cnd t b s,v=>(E t= .bool b/\RS w Z B s v)\/(E t≠ .bool b/\v=undef)
 | .dead,_=>True
def Kj (w:World) (Z:Nat->Prop) (ka:Bool) (kt:Ty) (va:Bool) (vt:Ty) (es:List MapEntry) (l:List (kt.den×vt.den)):Prop:=O8 (S4 (C6 kt w Z) ka) (S4 (C6 vt w Z) va) es l
def root:Value->Option Nat
 | .pointer (some a)=>some a.block
 | .slice (some a) _ _=>some a.block
 | .map r=>r
 | _=>none
def Dy:Option Nat->Nat->Bool
 |none,_=>false
 |some j,i=>Nat.beq j i
def X4 (bo:List (Nat×Nat)) (dd:List Nat) (i:Nat):Bool:=(bo.any fun p=>Nat.beq p.1 i) ||dd.any fun j=>Nat.beq j i
def R4 (w:World) (v:Value) (H:Nat->Bool) (b:Nat):Prop:=root v=some b\/∃g n cap cur e i x,v= .slice (some ⟨g,0,none⟩) n cap/\w.heap[g]? =some (.cells cur e (0,0))/\i<n/\H i=false/\cur[i]? =some x/\root x=some b
def A4 (w:World) (v:Value):LC->Nat->Prop
 | .none,_=>False
 | .box _ _,b=>root v=some b
 | .row _ _ _,b=>root v=some b
 | .map _ _ _ _ _,b=>root v=some b
 | .iter _ _ _ _ _ _,b=>root v=some b
 | .mapE _ _ _ _ _ _ _,b=>root v=some b
 | .al _,_=>False
 | .sbox _ _ _,_=>False
 | .nest _ _ _ _ bo dd,b=>R4 w v (X4 bo dd) b
 | .itM _ _ _ _ _ _ _ _,b=>root v=some b\/∃r c s c2,v= .pointer (some ⟨r,0,none⟩)/\w.heap[r]? =some (.mapIter (some b) c s c2)
 | .rows _ _ _ _ _ ho,b=>root v=some b\/∃g n cap cur e i x,v= .slice (some ⟨g,0,none⟩) n cap/\w.heap[g]? =some (.cells cur e (0,0))/\i<n/\Dy ho i=false/\cur[i]? =some x/\root x=some b
def AtV (xs:List Value) (i:Nat) (v:Value):Prop:=xs[i]? =some v\/(xs.length<=i/\v= .slice none 0 0)
def Inn (w:World) (Z:Nat->Prop) (B:Nat->Value) (t:Ty) (e':TypeId) (ls:List (List t.den)) (al:List (Nat×Nat)) (ho:Option Nat) (xs:List Value):Prop:=
 (∀p∈al,AtV xs p.1 (B p.2))/\(∀i l x,Dy ho i=false->ls[i]? =some l->xs[i]? =some x->∃ys,w.ownsRow 0 e' t.size x l.length ys/\G4 (C6 t w Z) ys l)/\
  ∀i j x y b,i≠j->Dy ho i=false->Dy ho j=false->xs[i]? =some x->xs[j]? =some y->root x=some b->root y≠some b
def ItR (w:World) (Z:Nat->Prop) (ka:Bool) (kt:Ty) (va:Bool) (vt:Ty) (r:Nat) (left:List (kt.den×vt.den)) (cur:Option (kt.den×vt.den)):Prop:=
 (w.heap[r]? =some (.mapIter none 0 #[] 0)/\left= []/\cur=none)\/
 ∃(m:Nat) (seen:Array Nat) (ents:Array MapEntry) (clock:Nat),w.heap[r]? =some (.mapIter (some m) clock seen clock)/\Z m/\w.heap[m]? =some (.map ents clock)/\mJ ents clock/\Kj w Z ka kt va vt (leftOf ents seen).toList left/\
  ∀x,cur=some x->∃e∈ents.toList,(∃seen':Array Nat,seen=seen'.push e.born)/\S4 (C6 kt w Z) ka e.key x.1/\S4 (C6 vt w Z) va e.val x.2
def LW:(t:Ty)->TypeId->World->(Nat->Prop)->Value->t.den->Prop
 | .sl t,e',w,Z,v,l=>∃ys:List Value,w.ownsRow 0 e' t.size v (List.length l) ys/\G4 (C6 t w Z) ys l
 | .mp ka kt va vt,_,w,Z,v,es=>∃b ents clock,v= .map (some b)/\w.heap[b]? =some (.map ents clock)/\mJ ents clock/\Kj w Z ka kt va vt ents.toList es
 | _,_,_,_,_,_=>False
structure ZL (w:World) (Z:Nat->Prop) (B:Nat->Value) (t:Ty) (e e':TypeId) (ls:List t.den) (bo:List (Nat×Nat)) (dd:List Nat) (v:Value) (xs:List Value):Prop where
 own:w.ownsRow 0 e 1 v ls.length xs
 out:∀p∈bo,xs[p.1]? =some (B p.2)
 elt:∀i l x,X4 bo dd i=false->ls[i]? =some l->xs[i]? =some x->LW t e' w Z x l
 dis:∀i j x y b,i≠j->X4 bo dd i=false->X4 bo dd j=false->xs[i]? =some x->xs[j]? =some y->root x=some b->root y≠some b
 top:∀i x b,X4 bo dd i=false->xs[i]? =some x->root x=some b->root v≠some b
structure A6q (w:World) (Z:Nat->Prop) (ka:Bool) (kt:Ty) (va:Bool) (vt:Ty) (es left:List (kt.den×vt.den)) (cur:Option (kt.den×vt.den)) (r m:Nat) (seen:Array Nat) (ents:Array MapEntry) (clock:Nat):Prop where
 it:w.heap[r]? =some (.mapIter (some m) clock seen clock)
 mp:w.heap[m]? =some (.map ents clock)
 ok:mJ ents clock
 all:Kj w Z ka kt va vt ents.toList es
 rest:Kj w Z ka kt va vt (leftOf ents seen).toList left
 cur:∀x,cur=some x->∃e∈ents.toList,(∃seen':Array Nat,seen=seen'.push e.born)/\S4 (C6 kt w Z) ka e.key x.1/\S4 (C6 vt w Z) va e.val x.2
def RL (U:Nat->Prop) (w:World) (Z:Nat->Prop) (B:Nat->Value) (k:Nat):LC->Prop
 | .none=>True
 | .box ty cs=>∃b vs,B k= .pointer (some ⟨b,0,none⟩)/\U b/\¬Z b/\IG w b vs ty/\Cf w Z B cs vs.toList
 | .row t e l=>∃xs,w.ownsRow 0 e t.size (B k) l.length xs/\G4 (C6 t w Z) xs l/\∀b,(B k).ownBlock=some b->U b/\¬Z b
 | .map ka kt va vt es=>∃b ents clock,B k= .map (some b)/\U b/\¬Z b/\w.heap[b]? =some (.map ents clock)/\mJ ents clock/\Kj w Z ka kt va vt ents.toList es
 | .al _=>True
 | .sbox q t x=>q=k/\C6 (.ptr t) w Z [B q] x/\∃b,B q= .pointer (some ⟨b,0,none⟩)
 | .mapE ka kt va vt es j q=>∃b ents clock,B k= .map (some b)/\U b/\¬Z b/\w.heap[b]? =some (.map ents clock)/\(mJ ents clock/\Kj w Z ka kt va vt ents.toList es)/\∃e:MapEntry,ents.toList[j]? =some e/\B q= .int .i64 e.born
 | .iter ka kt va vt left cur=>∃r,B k= .pointer (some ⟨r,0,none⟩)/\U r/\¬Z r/\ItR w Z ka kt va vt r left cur
 | .nest t e e' ls bo dd=>∃xs,ZL w Z B t e e' ls bo dd (B k) xs/\∀b,R4 w (B k) (X4 bo dd) b->U b/\¬Z b/\b<w.heap.size
 | .itM ka kt va vt es left cur q=>∃r m seen ents clock,B k= .pointer (some ⟨r,0,none⟩)/\B q= .map (some m)/\A6q w Z ka kt va vt es left cur r m seen ents clock/\U r/\¬Z r/\U m/\¬Z m
 | .rows t e e' ls al ho=>∃xs,w.ownsRow 0 e 1 (B k) ls.length xs/\Inn w Z B t e' ls al ho xs/\(∀i x b,Dy ho i=false->xs[i]? =some x->root x=some b->root (B k)≠some b)/\∀b,A4 w (B k) (.rows t e e' ls al ho) b->U b/\¬Z b/\b<w.heap.size
def live:LC->Prop
 | .none=>False
 | .al _=>False
 | .sbox _ _ _=>False
 | _=>True
def Cd (n:Nat):C->Prop
 | .row k=>k<n
 | .box k _=>k<n
 | .elp k _ _ _=>k<n
 | .win k _ _ _=>k<n
 | .mp k=>k<n
 | .fn _ caps=>∀k∈caps,k<n
 | _=>True
def Mm (n:Nat) (s:SV):Prop:=∀c∈s.cs,Cd n c
def GV (n:Nat):DV->Prop
 | .one s=>Mm n s
 | .tup ss=>∀s∈ss,Mm n s
 | .cnd _ _ s=>Mm n s
 | .dead=>True
def Xn (n:Nat):LC->Prop
 | .box _ cs=>∀c∈cs,Cd n c
 | .rows _ _ _ _ al _=>∀p∈al,p.2<n
 | .mapE _ _ _ _ _ _ q=>q<n
 | .sbox q _ _=>q<n
 | .nest _ _ _ _ bo _=>∀p∈bo,p.2<n
 | .itM _ _ _ _ _ _ _ q=>q<n
 | _=>True
structure Zn where
 z:Nat->Prop
 m:Nat->Prop
 n:Nat
 v:Nat->Value
 k0:Nat:=0
 b0:Nat:=0
 f:Nat->Nat->Prop
 fm:∀k b,f k b->m b
 es:List G3:= []
def RF (w:World) (Z:Nat->Prop) (B:Nat->Value):List G3->List (List (Nat×Nat×DV))->Prop
 | [],[]=>True
 |E::es,f::fs=>(∀s,RD w Z B E (find (0, .dead) s f).2 (E s))/\RF w Z B es fs
 | _,_=>False
def ZM (n:Nat) (fr:List (List (Nat×Nat×DV))):Prop:=∀f∈fr,∀s,GV n (find (0, .dead) s f).2
structure Ae (m:Nat->Prop) (w w':World):Prop where
 os:w'.os=w.os
 tape:w'.tape=w.tape
 output:w'.output=w.output
 size:w.heap.size<=w'.heap.size
 block:∀k,k<w.heap.size->¬m k->w'.heap[k]? =w.heap[k]?
 drw:True
theorem Ae.of {m:Nat->Prop} {w w':World} (h:R2 w w'):Ae m w w':=⟨h.os,h.tape,h.output,h.size,fun k hk _=>h.block k hk,h.drw⟩
theorem Ae.ext {m:Nat->Prop} {w w':World} (h:Ae m w w') (hm:∀b,¬m b):R2 w w':=⟨⟨h.os,h.tape,h.output,h.size,fun k hk=>h.block k hk (hm k)⟩,h.drw⟩
theorem Ae.trans {m:Nat->Prop} {a b c:World} (h:Ae m a b) (k:R2 b c):Ae m a c:=⟨k.os.trans h.os,k.tape.trans h.tape,k.output.trans h.output,Nat.le_trans h.size k.size,fun i hi hm=>(k.block i (Nat.lt_of_lt_of_le hi h.size)).trans (h.block i hi hm),trivial⟩
theorem Ae.chg {m:Nat->Prop} {w0 w w':World} {b:Nat} (h:Ae m w0 w) (hc:IH b w w') (hb:w0.heap.size<=b\/m b):Ae m w0 w':=
 ⟨hc.1.trans h.os,hc.2.1.trans h.tape,hc.2.2.1.1.trans h.output,by rw[hc.2.2.2.1];exact h.size,fun k hk hm=>(hc.2.2.2.2 k (fun e=>by subst e;rcases hb with hb|hb;exact absurd hk (by omega);exact hm hb)).trans (h.block k hk hm),trivial⟩
theorem Ae.grown {m:Nat->Prop} {w0 w w':World} {row:Option Nat} (h:Ae m w0 w) (hg:w.grownBy w' row) (hd:w.drawn<=w'.drawn) (hb:∀b,row=some b->w0.heap.size<=b\/m b):Ae m w0 w':=
 ⟨hg.os.trans h.os,hg.tape.trans h.tape,hg.output.trans h.output,Nat.le_trans h.size hg.size,fun k hk hm=>(hg.block k (Nat.lt_of_lt_of_le hk h.size) (fun e=>by rcases hb k e.symm with hb|hb;exact absurd hk (by omega);exact hm hb)).trans (h.block k hk hm),trivial⟩
def up (za:Zn) (w0:World) (k:Nat):Nat->Prop:=fun b=>(za.n<=k/\w0.heap.size<=b)\/(k<za.n/\za.f k b)
theorem up.m {za:Zn} {w0:World} {k b:Nat} (h:up za w0 k b):w0.heap.size<=b\/za.m b:=h.imp And.right fun h=>za.fm k b h.2
structure C0 (za:Zn) (w0:World) (st:St) (E:G3) (w:World) (Z:Nat->Prop) (B:Nat->Value):Prop where
 ext:Ae za.m w0 w
 zlt:∀b,Z b->b<w.heap.size
 slots:∀s,RD w Z B E (st.S s) (E s)
 locs:∀k,RL (up za w0 k) w Z B k (st.L k)
 disj:∀k k' b,k≠k'->A4 w (B k) (st.L k) b->¬A4 w (B k') (st.L k') b
 refs:∀s,GV st.nx (st.S s)
 refl:∀k,Xn st.nx (st.L k)
 fresh:∀k,st.nx<=k->st.L k= .none
 bone:∀k,(B k).oneCell'=true
 zin:∀b,Z b->za.z b\/w0.heap.size<=b
 nms:st.nm=za.n/\za.n<=st.nx
 bfix:∀k,k<za.n->B k=za.v k
 mrk:za.b0<=w.heap.size/\∀k b,za.k0<=k->A4 w (B k) (st.L k) b->za.b0<=b
 frs:RF w Z B za.es st.fr
 frf:ZM st.nx st.fr
section mono
variable {w w':World} {Z Z':Nat->Prop} {B B':Nat->Value} {n:Nat}
theorem RC.mono (hz:∀b,Z b->Z' b) (hs:N5 Z w w') (hB:∀k,k<n->B' k=B k):∀ {c:C} {v:Value},Cd n c->RC w Z B c v->RC w' Z' B' c v
 | .val _ _,_,_,h=>C6.mono hz hs h
 | .row k,_,hr,h=>h.trans (hB k hr).symm
 | .box k off,_,hr,⟨b,e,h⟩=>⟨b,(hB k hr).trans e,h⟩
 | .elp k sz i off,_,hr,⟨b,m,cap,e,h⟩=>⟨b,m,cap,(hB k hr).trans e,h⟩
 | .win k sz lo hi,_,hr,⟨a,m,cap,e,h⟩=>⟨a,m,cap,(hB k hr).trans e,h⟩
 | .pf t x off,_,_,⟨b,o,ec,e,hb,hc,h⟩=>⟨b,o,ec,e,hz b hb,Wn hc hb hs,C6.mono hz hs h⟩
 | .mp k,_,hr,h=>h.trans (hB k hr).symm
 | .fn f caps,_,hr,h=>by
  show _= _;rw[show _= _ from h];congr 2;exact List.map_congr_left fun k hk=>(hB k (hr k hk)).symm
 | .fv P as ra r ok φ,_,_,⟨g,caps,e,he,h⟩=>⟨g,caps,e,he,fun w2 Z2 vs x h1 h2 h3 h4 h5=>(h w2 Z2 vs x (fun b hb=>(h1 b (hz b hb)).trans (hs b hb)) (fun b hb=>h2 b (hz b hb)) h3 h4 h5).mono fun u w3 ⟨g1,Zn,g2,g3⟩=>⟨g1,Zn,fun b hb=>(g2 b hb).imp id (Or.imp (hz b) id),g3⟩⟩
 | .raw _,_,_,h=>h
 | .dead,_,_,_=>trivial
theorem Cf.mono (hz:∀b,Z b->Z' b) (hs:N5 Z w w') (hB:∀k,k<n->B' k=B k):∀ {cs:List C} {vs:List Value},(∀c∈cs,Cd n c)->Cf w Z B cs vs->Cf w' Z' B' cs vs
 | [],_,_,h=>h
 |c::cs,_,hr,⟨v,vs',e,h1,h2⟩=>⟨v,vs',e,RC.mono hz hs hB (hr c (by simp)) h1,Cf.mono hz hs hB (fun c hc=>hr c (by simp[hc])) h2⟩
theorem RS.mono (hz:∀b,Z b->Z' b) (hs:N5 Z w w') (hB:∀k,k<n->B' k=B k):∀ {s:SV} {v:Value},Mm n s->RS w Z B s v->RS w' Z' B' s v
 | ⟨true,cs⟩,_,hr,⟨vs,e,h⟩=>⟨vs,e,Cf.mono hz hs hB hr h⟩
 | ⟨false,cs⟩,_,hr,h=>Cf.mono (cs:=cs) hz hs hB hr h
theorem Oj.mono (hz:∀b,Z b->Z' b) (hs:N5 Z w w') (hB:∀k,k<n->B' k=B k):∀ {cs:List SV} {vs:List Value},(∀c∈cs,Mm n c)->Oj w Z B cs vs->Oj w' Z' B' cs vs
 | [],_,_,h=>h
 |c::cs,_,hr,⟨v,vs',e,h1,h2⟩=>⟨v,vs',e,RS.mono hz hs hB (hr c (by simp)) h1,Oj.mono hz hs hB (fun c hc=>hr c (by simp[hc])) h2⟩
theorem RD.mono {E:G3} (hz:∀b,Z b->Z' b) (hs:N5 Z w w') (hB:∀k,k<n->B' k=B k):∀ {d:DV} {v:Value},GV n d->RD w Z B E d v->RD w' Z' B' E d v
 | .one _,_,hr,h=>RS.mono hz hs hB hr h
 | .tup _,_,hr,⟨vs,e,h⟩=>⟨vs,e,Oj.mono hz hs hB hr h⟩
 | .cnd _ _ _,_,hr,h=>h.imp (fun⟨a,b⟩=>⟨a,RS.mono hz hs hB hr b⟩) id
 | .dead,_,_,_=>trivial
theorem RF.mono (hz:∀b,Z b->Z' b) (hs:N5 Z w w') (hB:∀k,k<n->B' k=B k):∀ {es:List G3} {fr:List (List (Nat×Nat×DV))},ZM n fr->RF w Z B es fr->RF w' Z' B' es fr
 | [],[],_,_=>trivial
 |E::es,f::fs,hr,⟨h1,h2⟩=>⟨fun s=>RD.mono hz hs hB (hr f (by simp) s) (h1 s),RF.mono hz hs hB (fun g hg=>hr g (by simp[hg])) h2⟩
 | [],_:: _,_,h=>h.elim
 | _:: _,[],_,h=>h.elim
theorem X3.mono {a:Bool} {t:Ty} {v:Value} {x:t.den} (hz:∀b,Z b->Z' b) (hs:N5 Z w w') (h:X3 a t w Z v x):X3 a t w' Z' v x:=S4.mono (fun _ _=>C6.mono hz hs) h
theorem NZ.mono (hz:∀b,Z b->Z' b) (hs:N5 Z w w'):∀ {as:List (Bool×Ty)} {vs:List Value} {x:Dp as},NZ w Z as vs x->NZ w' Z' as vs x
 | [],_,_,h=>h
 | _:: _,_,_,⟨v,vs',e,h1,h2⟩=>⟨v,vs',e,h1.mono hz hs,NZ.mono hz hs h2⟩
theorem Kj.mono {ka va:Bool} {kt vt:Ty} (hz:∀b,Z b->Z' b) (hs:N5 Z w w') {l:List (kt.den×vt.den)} {es:List MapEntry} (h:Kj w Z ka kt va vt es l):Kj w' Z' ka kt va vt es l:=
 O8.mono (fun _ _ h=>h.mono fun _ _=>C6.mono hz hs) (fun _ _ h=>h.mono fun _ _=>C6.mono hz hs) h
theorem A4.live {v:Value} {l:LC} {b:Nat} (h:A4 w v l b):Vc.live l:=by cases l<;>first|exact h.elim|trivial
theorem A4.of {v:Value} {l:LC} {b:Nat} (hl:Vc.live l) (h:Vc.root v=some b):A4 w v l b:=by
 cases l<;>first|exact hl.elim|exact h|exact .inl h
theorem R4.iff {v:Value} {H:Nat->Bool} {b:Nat} (h:∀b,root v=some b->w'.heap[b]? =w.heap[b]?):R4 w' v H b↔R4 w v H b:=by
 refine or_congr Iff.rfl ⟨fun⟨g,n,cap,cur,e,i,x,hv,hg,r⟩=>⟨g,n,cap,cur,e,i,x,hv, ?_,r⟩,fun⟨g,n,cap,cur,e,i,x,hv,hg,r⟩=>⟨g,n,cap,cur,e,i,x,hv, ?_,r⟩⟩
 . rw[<-h g (by rw[hv];rfl)];exact hg
 . rw[h g (by rw[hv];rfl)];exact hg
theorem A4.iff {v:Value} {l:LC} {b:Nat} (h:∀b,A4 w v l b->w'.heap[b]? =w.heap[b]?):A4 w' v l b↔A4 w v l b:=by
 cases l with
 |rows t e e' ls al ho=>
  refine or_congr Iff.rfl ⟨fun⟨g,n,cap,cur,e,i,x,hv,hg,r⟩=>⟨g,n,cap,cur,e,i,x,hv, ?_,r⟩,fun⟨g,n,cap,cur,e,i,x,hv,hg,r⟩=>⟨g,n,cap,cur,e,i,x,hv, ?_,r⟩⟩
  . rw[<-h g (.inl (by rw[hv];rfl))];exact hg
  . rw[h g (.inl (by rw[hv];rfl))];exact hg
 |nest t e e' ls bo dd=>exact R4.iff fun b hb=>h b (.inl hb)
 |itM ka kt va vt es left cur q=>
  refine or_congr Iff.rfl ⟨fun⟨r,c,s,c2,hv,hg⟩=>⟨r,c,s,c2,hv, ?_⟩,fun⟨r,c,s,c2,hv,hg⟩=>⟨r,c,s,c2,hv, ?_⟩⟩
  . rw[<-h r (.inl (by rw[hv];rfl))];exact hg
  . rw[h r (.inl (by rw[hv];rfl))];exact hg
 | _=>exact Iff.rfl
theorem RL.root {U:Nat->Prop} {k:Nat} {l:LC} (h:RL U w Z B k l) {b:Nat} (hb:A4 w (B k) l b):U b/\b<w.heap.size/\¬Z b:=by
 cases l with
 |none=>exact hb.elim
 |al _=>exact hb.elim
 |sbox _ _ _=>exact hb.elim
 |mapE ka kt va vt es j q=>
  obtain⟨b',ents,cl,e,h1,h2,h3,_⟩:=h;have hb:Vc.root (B k)=some b:=hb;rw[e]at hb;simp[Vc.root]at hb;subst hb;exact⟨h1,(Array.getElem?_eq_some_iff.1 h3).1,h2⟩
 |iter ka kt va vt left cur=>
  obtain⟨r,e,h1,h2,h3⟩:=h;have hb:Vc.root (B k)=some b:=hb;rw[e]at hb;simp[Vc.root]at hb;subst hb;refine⟨h1, ?_,h2⟩;rcases h3 with⟨h3,_⟩ | ⟨_,_,_,_,h3,_⟩<;>exact(Array.getElem?_eq_some_iff.1 h3).1
 |box ty cs=>
  obtain⟨b',vs,e,h1,h2,h3,_⟩:=h;have hb:Vc.root (B k)=some b:=hb;rw[e]at hb;simp[Vc.root]at hb;subst hb;exact⟨h1,h3.lt,h2⟩
 |row t e l=>
  obtain⟨xs,h1,h2,h3⟩:=h;have hb:Vc.root (B k)=some b:=hb;have hob:(B k).ownBlock=some b:=by
   rcases h1.2 with⟨hv,_⟩ | ⟨g,cap,cur,hv,_⟩
   . rw[hv]at hb;simp[Vc.root]at hb
   . rw[hv]at hb⊢;simpa[Vc.root,Value.ownBlock]using hb
  have:=World.ownsRow.lt h1 b hob;exact⟨(h3 b hob).1,this.2,(h3 b hob).2⟩
 |map ka kt va vt es=>
  obtain⟨b',ents,cl,e,h1,h2,h3,_⟩:=h;have hb:Vc.root (B k)=some b:=hb;rw[e]at hb;simp[Vc.root]at hb;subst hb;exact⟨h1,(Array.getElem?_eq_some_iff.1 h3).1,h2⟩
 |rows t e e' ls al ho=>
  obtain⟨xs,_,_,_,h4⟩:=h;exact⟨(h4 b hb).1,(h4 b hb).2.2,(h4 b hb).2.1⟩
 |nest t e e' ls bo dd=>
  obtain⟨xs,_,h4⟩:=h;exact⟨(h4 b hb).1,(h4 b hb).2.2,(h4 b hb).2.1⟩
 |itM ka kt va vt es left cur q=>
  obtain⟨r,m,seen,ents,cl,e1,e2,hi,h1,h2,h3,h4⟩:=h;rcases hb with hb| ⟨r',c,s,c2,hv,hg⟩
  . rw[e1]at hb;simp[Vc.root]at hb;subst hb;exact⟨h1,(Array.getElem?_eq_some_iff.1 hi.it).1,h2⟩
  . rw[e1]at hv;cases hv;rw[hi.it]at hg;cases hg;exact⟨h3,(Array.getElem?_eq_some_iff.1 hi.mp).1,h4⟩
theorem E5 {base e sz m:Nat} {v:Value} {xs:List Value} (h:w.ownsRow base e sz v m xs):root v=v.ownBlock:=by
 rcases h.2 with⟨hv,_⟩ | ⟨g,cap,cur,hv,_⟩<;>rw[hv]<;>rfl
theorem Aw {base e sz m:Nat} {v:Value} {xs:List Value} (h:w.ownsRow base e sz v m xs) (hb:∀b,v.ownBlock=some b->w'.heap[b]? =w.heap[b]?):w'.ownsRow base e sz v m xs:=by
 refine⟨h.1, ?_⟩;rcases h.2 with h| ⟨g,cap,cur,hv,h1,h2,h3⟩
 . exact .inl h
 . exact .inr ⟨g,cap,cur,hv,h1,by rw[hb g (by rw[hv];rfl)];exact h2,h3⟩
theorem R4.own {base e n:Nat} {v:Value} {xs:List Value} {H:Nat->Bool} (h1:w.ownsRow base e 1 v n xs) {i b:Nat} {x:Value} (hi:H i=false) (hx:xs[i]? =some x) (hb:Vc.root x=some b):R4 w v H b:=by
 refine .inr ?_;rcases h1.2 with⟨hv,hn⟩ | ⟨g,cap,cur,hv,_,hg,hle,_,hsz,htk⟩
 . have:=h1.1;rw[hn]at this;have hxs:xs= []:=List.eq_nil_of_length_eq_zero (by omega);rw[hxs]at hx;cases hx
 . have hil:i<n:=by have:=(List.getElem?_eq_some_iff.1 hx).1;have h0:=h1.1;omega
   refine⟨g,_,cap,cur,e,i,x,hv,hg,hil,hi, ?_,hb⟩;rw[<-htk,List.getElem?_take_of_lt (by omega)]at hx;simpa using hx
theorem R4.cases {base e n:Nat} {v:Value} {xs:List Value} {H:Nat->Bool} (h1:w.ownsRow base e 1 v n xs) {b:Nat} (hf:R4 w v H b):Vc.root v=some b\/∃(i:Nat) (x:Value),H i=false/\xs[i]? =some x/\Vc.root x=some b:=by
 rcases hf with hb| ⟨g,m,cap,cur,e1,i,x,hv,hg,hi,hH,hx,hb⟩
 . exact .inl hb
 . refine .inr ⟨i,x,hH, ?_,hb⟩;rcases h1.2 with⟨hv',_⟩ | ⟨g2,cap2,cur2,hv',_,hg2,hle,_,hsz2,htk⟩
   . rw[hv]at hv';cases hv'
   . rw[hv]at hv';cases hv';rw[hg]at hg2;cases hg2;rw[<-htk,List.getElem?_take_of_lt (by omega)];simpa using hx
theorem LW.mono (hz:∀b,Z b->Z' b) (hs:N5 Z w w'):∀ {t:Ty} {e':TypeId} {v:Value} {x:t.den},(∀b,Vc.root v=some b->w'.heap[b]? =w.heap[b]?)->LW t e' w Z v x->LW t e' w' Z' v x
 | .sl t,_,_,_,hb,⟨ys,g1,g2⟩=>⟨ys,Aw g1 (fun b hq=>hb b ((E5 g1).trans hq)),g2.mono fun _ _=>C6.mono hz hs⟩
 | .mp ka kt va vt,_,_,_,hb,⟨b,ents,cl,e,g1,g2,g3⟩=>⟨b,ents,cl,e,by rw[hb b (by rw[e];rfl)];exact g1,g2,g3.mono hz hs⟩
 | .int _,_,_,_,_,h=>h.elim
 | .bool,_,_,_,_,h=>h.elim
 | .str,_,_,_,_,h=>h.elim
 | .unit,_,_,_,_,h=>h.elim
 | .pair _ _,_,_,_,_,h=>h.elim
 | .ptr _,_,_,_,_,h=>h.elim
theorem RL.mono {U:Nat->Prop} {k:Nat} {l:LC} (hz:∀b,Z b->Z' b) (hs:N5 Z w w') (hB:∀k,k<n->B' k=B k) (hk:live l->B' k=B k) (hblk:∀b,A4 w (B k) l b->w'.heap[b]? =w.heap[b]?) (hnz:∀b,A4 w (B k) l b->¬Z' b) (hr:Xn n l) (h:RL U w Z B k l):RL U w' Z' B' k l:=by
 cases l with
 |none=>trivial
 |al _=>trivial
 |sbox q t x=>
  obtain⟨h0,h1,b,h2⟩:=h;have hq:B' q=B q:=hB q hr;refine⟨h0, ?_,b,hq.trans h2⟩;rw[hq];exact C6.mono hz hs h1
 |mapE ka kt va vt es j q=>
  obtain⟨b,ents,cl,e,h1,h2,h3,⟨hm,h4⟩,en,h5,h6⟩:=h;have hb:Vc.root (B k)=some b:=by rw[e];rfl
  exact⟨b,ents,cl,(hk trivial).trans e,h1,hnz b hb,by rw[hblk b hb];exact h3,⟨hm,h4.mono hz hs⟩,en,h5,(hB q hr).trans h6⟩
 |iter ka kt va vt left cur=>
  obtain⟨r,e,h1,h2,h3⟩:=h;have hb:Vc.root (B k)=some r:=by rw[e];rfl
  refine⟨r,(hk trivial).trans e,h1,hnz r hb, ?_⟩;have hrb:=hblk r hb;rcases h3 with⟨h3,h4⟩ | ⟨m,seen,ents,cl,h3,h4,h5,h6,h7,h8⟩
  . exact .inl ⟨hrb.trans h3,h4⟩
  . exact .inr ⟨m,seen,ents,cl,hrb.trans h3,hz m h4,(hs m h4).trans h5,h6,h7.mono hz hs,fun x hx=>(h8 x hx).imp fun e he=>⟨he.1,he.2.1,he.2.2.1.mono fun _ _=>C6.mono hz hs,he.2.2.2.mono fun _ _=>C6.mono hz hs⟩⟩
 |box ty cs=>
  obtain⟨b,vs,e,h1,h2,h3,h4⟩:=h;have hb:Vc.root (B k)=some b:=by rw[e];rfl
  refine⟨b,vs,(hk trivial).trans e,h1,hnz b hb, ?_,Cf.mono hz hs hB hr h4⟩;unfold IG;rw[hblk b hb];exact h3
 |row t e l=>
  obtain⟨xs,h1,h2,h3⟩:=h;have hro:=E5 h1;refine⟨xs, ?_,h2.mono fun _ _=>C6.mono hz hs,fun b hb=> ?_⟩
  . rw[hk trivial];exact Aw h1 fun b hb=>hblk b (hro.trans hb)
  . rw[hk trivial]at hb;exact⟨(h3 b hb).1,hnz b (hro.trans hb)⟩
 |map ka kt va vt es=>
  obtain⟨b,ents,cl,e,h1,h2,h3,hm,h4⟩:=h;have hb:Vc.root (B k)=some b:=by rw[e];rfl
  exact⟨b,ents,cl,(hk trivial).trans e,h1,hnz b hb,by rw[hblk b hb];exact h3,hm,h4.mono hz hs⟩
 |rows t e e' ls al ho=>
  have hft:=fun b=>A4.iff (b:=b) hblk
  obtain⟨xs,h1,⟨h2,h3,h4⟩,h5,h6⟩:=h;have hro:=E5 h1;have hin:∀i x b,Dy ho i=false->xs[i]? =some x->Vc.root x=some b->A4 w (B k) (.rows t e e' ls al ho) b:=fun i x b hi hx hb=>by
   refine .inr ?_;rcases h1.2 with⟨hv,hn⟩ | ⟨g,cap,cur,hv,_,hg,hle,_,hsz,htk⟩
   . have:=h1.1;rw[hn]at this;have hxs:xs= []:=List.eq_nil_of_length_eq_zero (by omega);rw[hxs]at hx;cases hx
   . have hil:i<ls.length:=by have:=(List.getElem?_eq_some_iff.1 hx).1;have h0:=h1.1;omega
     refine⟨g,_,cap,cur,e,i,x,hv,hg,hil,hi, ?_,hb⟩;rw[<-htk,List.getElem?_take_of_lt (by omega)]at hx;simpa using hx
  rw[<-hk trivial]at h1 h5;refine⟨xs,Aw h1 fun b hb=>hblk b (.inl (by rw[<-hk trivial];exact(E5 h1).trans hb)),⟨fun p hp=>by rw[hB _ (hr p hp)];exact h2 p hp,fun i l x hi hl hx=> ?_,h4⟩,h5,fun b hb=> ?_⟩
  . obtain⟨ys,g1,g2⟩:=h3 i l x hi hl hx;exact⟨ys,Aw g1 fun b hb=>hblk b (hin i x b hi hx ((E5 g1).trans hb)),g2.mono fun _ _=>C6.mono hz hs⟩
  . rw[hk trivial]at hb;have hb:=(hft b).1 hb;obtain⟨g1,_,g3⟩:=h6 b hb;refine⟨g1,hnz b hb, ?_⟩;have:=hblk b hb;rw[Array.getElem?_eq_getElem g3]at this;exact(Array.getElem?_eq_some_iff.1 this).1
 |nest t e e' ls bo dd=>
  obtain⟨xs,hN,h6⟩:=h;have hBk:=hk trivial;have hft:∀b,R4 w' (B k) (X4 bo dd) b↔R4 w (B k) (X4 bo dd) b:=fun b=>R4.iff fun b hb=>hblk b (.inl hb)
  rw[show RL U w' Z' B' k (.nest t e e' ls bo dd)=∃xs,ZL w' Z' B' t e e' ls bo dd (B k) xs/\∀b,R4 w' (B k) (X4 bo dd) b->U b/\¬Z' b/\b<w'.heap.size from by rw[<-hBk];rfl];refine⟨xs,⟨Aw hN.own fun b hb=>hblk b (.inl ((E5 hN.own).trans hb)),fun p hp=>(hN.out p hp).trans (by rw[hB _ (hr p hp)]),fun i l x hi hl hx=> ?_,hN.dis,hN.top⟩,fun b hb=> ?_⟩
  . exact(hN.elt i l x hi hl hx).mono hz hs fun b hb=>hblk b (R4.own hN.own hi hx hb)
  . have hb:=(hft b).1 hb;obtain⟨g1,_,g3⟩:=h6 b hb;refine⟨g1,hnz b hb, ?_⟩;have:=hblk b hb;rw[Array.getElem?_eq_getElem g3]at this;exact(Array.getElem?_eq_some_iff.1 this).1
 |itM ka kt va vt es left cur q=>
  obtain⟨r,m,seen,ents,cl,e1,e2,hi,h1,h2,h3,h4⟩:=h;have f1:A4 w (B k) (.itM ka kt va vt es left cur q) r:= .inl (by rw[e1];rfl);have f2:A4 w (B k) (.itM ka kt va vt es left cur q) m:= .inr ⟨r,_,_,_,e1,hi.it⟩;exact⟨r,m,seen,ents,cl,(hk trivial).trans e1,(hB q hr).trans e2,⟨(hblk r f1).trans hi.it,(hblk m f2).trans hi.mp,hi.ok,hi.all.mono hz hs,hi.rest.mono hz hs,fun x hx=>(hi.cur x hx).imp fun e he=>⟨he.1,he.2.1,he.2.2.1.mono fun _ _=>C6.mono hz hs,he.2.2.2.mono fun _ _=>C6.mono hz hs⟩⟩,h1,hnz r f1,h3,hnz m f2⟩
theorem Cd.le {m:Nat} (hm:n<=m):∀ {c:C},Cd n c->Cd m c
 | .val _ _,h=>h
 | .row _,h=>Nat.lt_of_lt_of_le h hm
 | .box _ _,h=>Nat.lt_of_lt_of_le h hm
 | .elp _ _ _ _,h=>Nat.lt_of_lt_of_le h hm
 | .win _ _ _ _,h=>Nat.lt_of_lt_of_le h hm
 | .pf _ _ _,h=>h
 | .mp _,h=>Nat.lt_of_lt_of_le h hm
 | .fn _ _,h=>fun k hk=>Nat.lt_of_lt_of_le (h k hk) hm
 | .fv _ _ _ _ _ _,h=>h
 | .raw _,h=>h
 | .dead,h=>h
theorem GV.le {m:Nat} (hm:n<=m):∀ {d:DV},GV n d->GV m d
 | .one _,h=>fun c hc=>(h c hc).le hm
 | .tup _,h=>fun s hs c hc=>(h s hs c hc).le hm
 | .cnd _ _ _,h=>fun c hc=>(h c hc).le hm
 | .dead,h=>h
theorem Xn.le {m:Nat} (hm:n<=m):∀ {d:LC},Xn n d->Xn m d
 | .none,h=>h
 | .box _ _,h=>fun c hc=>(h c hc).le hm
 | .row _ _ _,h=>h
 | .map _ _ _ _ _,h=>h
 | .al _,h=>h
 | .sbox _ _ _,h=>Nat.lt_of_lt_of_le h hm
 | .iter _ _ _ _ _ _,h=>h
 | .mapE _ _ _ _ _ _ _,h=>Nat.lt_of_lt_of_le h hm
 | .rows _ _ _ _ _ _,h=>fun p hp=>Nat.lt_of_lt_of_le (h p hp) hm
 | .nest _ _ _ _ _ _,h=>fun p hp=>Nat.lt_of_lt_of_le (h p hp) hm
 | .itM _ _ _ _ _ _ _ _,h=>Nat.lt_of_lt_of_le h hm
theorem ZM.le {n m:Nat} {fr:List (List (Nat×Nat×DV))} (h:ZM n fr) (hm:n<=m):ZM m fr:=fun f hf s=>(h f hf s).le hm
theorem RD.upd {E:G3} {d:Nat} {u:Value} :∀ {x:DV} {v:Value},BZ d x=false->RD w Z B E x v->RD w Z B (upd E d u) x v
 | .one _,_,_,h=>h
 | .tup _,_,_,h=>h
 | .cnd t b s,v,hc,h=>by
  have ht:t≠d:=Nat.ne_of_beq_eq_false hc;show(Gw.upd E d u t= _ /\ _)\/(Gw.upd E d u t≠ _ /\ _);rw[C1 _ _ _ _ ht];exact h
 | .dead,_,_,_=>trivial
end mono
section steps
variable {za:Zn} {w0 w w':World} {Z Z':Nat->Prop} {B:Nat->Value} {st:St} {E:G3}
theorem C0.setS (h:C0 za w0 st E w Z B) (d:Nat) {x:DV} {v:Value} (hx:RD w Z B (upd E d v) x v) (hr:GV st.nx x):C0 za w0 (st.setS d x) (upd E d v) w Z B:=by
 refine⟨h.ext,h.zlt,fun s=> ?_,h.locs,h.disj,fun s=> ?_,h.refl,h.fresh,h.bone,h.zin,h.nms,h.bfix,h.mrk,h.frs,h.frf⟩
 . rw[St.S_setS];by_cases hs:s=d
   . subst hs;simp only[if_true,A9];exact hx
   . rw[if_neg hs,C1 _ _ _ _ hs];cases hc:BZ d (st.S s)with
     |true=>trivial
     |false=>exact RD.upd hc (h.slots s)
 . rw[St.S_setS];by_cases hs:s=d
   . rw[if_pos hs];exact hr
   . rw[if_neg hs];cases hc:BZ d (st.S s)with
     |true=>trivial
     |false=>exact h.refs s
theorem C0.keep (h:C0 za w0 st E w Z B) (he:Ae za.m w0 w') (hsz:w.heap.size<=w'.heap.size) (hb:∀b,(Z b\/∃k,A4 w (B k) (st.L k) b)->w'.heap[b]? =w.heap[b]?)
 (hz:∀b,Z b->Z' b) (hz':∀b,Z' b->Z b\/(b<w'.heap.size/\w0.heap.size<=b/\∀k,¬A4 w (B k) (st.L k) b)):C0 za w0 st E w' Z' B:=by
 have hs:N5 Z w w':=fun b hzb=>hb b (.inl hzb)
 have hft:∀k b,A4 w' (B k) (st.L k) b↔A4 w (B k) (st.L k) b:=fun k b=>A4.iff fun b hf=>hb b (.inr ⟨k,hf⟩)
 refine⟨he,fun b hzb=> ?_,fun s=>(h.slots s).mono hz hs (fun _ _=>rfl) (h.refs s),fun k=> ?_,fun k k' b hne h1 h2=>h.disj k k' b hne ((hft k b).1 h1) ((hft k' b).1 h2),h.refs,h.refl,h.fresh,h.bone,fun b hzb=> ?_,h.nms,h.bfix,⟨Nat.le_trans h.mrk.1 hsz,fun k b hk hf=>h.mrk.2 k b hk ((hft k b).1 hf)⟩,h.frs.mono hz hs (fun _ _=>rfl) h.frf,h.frf⟩
 . rcases hz' b hzb with h1|h1
   . exact Nat.lt_of_lt_of_le (h.zlt b h1) hsz
   . exact h1.1
 . refine(h.locs k).mono hz hs (fun _ _=>rfl) (fun _=>rfl) (fun b hr=>hb b (.inr ⟨k,hr⟩)) (fun b hr hzb=> ?_) (h.refl k);rcases hz' b hzb with h1|h1
   . exact((h.locs k).root hr).2.2 h1
   . exact h1.2.2 k hr
 . rcases hz' b hzb with h1|h1
   . exact h.zin b h1
   . exact .inr h1.2.1
theorem C0.ft (h:C0 za w0 st E w Z B) (hx:R2 w w') {k b:Nat} (hf:A4 w' (B k) (st.L k) b):A4 w (B k) (st.L k) b:=(A4.iff fun c hc=>hx.block c ((h.locs k).root hc).2.1).1 hf
theorem C0.more (h:C0 za w0 st E w Z B) (hx:R2 w w') (hz:∀b,Z b->Z' b) (hz':∀b,Z' b->Z b\/(w.heap.size<=b/\b<w'.heap.size)):C0 za w0 st E w' Z' B:=by
 refine h.keep (h.ext.trans hx) hx.size (fun b hb=>hx.block b ?_) hz (fun b hb=> ?_)
 . rcases hb with hb| ⟨k,hr⟩
   . exact h.zlt b hb
   . exact((h.locs k).root hr).2.1
 . rcases hz' b hb with h1|h1
   . exact .inl h1
   . exact .inr ⟨h1.2,Nat.le_trans h.ext.size h1.1,fun k hr=>by have:=((h.locs k).root hr).2.1;omega⟩
theorem C0.new (h:C0 za w0 st E w Z B) {v:Value} {lc:LC} (hl:RL (up za w0 st.nx) w Z (upd B st.nx v) st.nx lc) (hd:∀k b,A4 w v lc b->¬A4 w (B k) (st.L k) b) (hr:Xn (st.nx+1) lc) (hv1:v.oneCell'=true) (hmk:∀b,za.k0<=st.nx->A4 w v lc b->za.b0<=b):
 C0 za w0 (st.newL lc) E w Z (upd B st.nx v):=by
 have hB:∀k,k<st.nx->(upd B st.nx v) k=B k:=fun k hk=>C1 _ _ _ _ (Nat.ne_of_lt hk)
 have hBn:(upd B st.nx v) st.nx=v:=A9 _ _ _;have hlv:∀k,live (st.L k)->k<st.nx:=fun k hk=>by
  by_cases hlt:k<st.nx
  . exact hlt
  . rw[h.fresh k (by omega)]at hk;exact hk.elim
 have hs:N5 Z w w:=fun _ _=>rfl
 refine⟨h.ext,h.zlt,fun s=>(h.slots s).mono (fun _=>id) hs hB (h.refs s),fun k=> ?_, ?_,fun s=>(h.refs s).le (Nat.le_succ _),fun k=> ?_,fun k hk=> ?_,fun k=> ?_,h.zin,⟨h.nms.1,Nat.le_succ_of_le h.nms.2⟩,fun k hk=>(hB k (Nat.lt_of_lt_of_le hk h.nms.2)).trans (h.bfix k hk),⟨h.mrk.1,fun k b hk hl=> ?_⟩,h.frs.mono (fun _=>id) hs hB h.frf,h.frf.le (Nat.le_succ _)⟩
 . rw[St.L_newL];by_cases hk:k=st.nx
   . subst hk;rw[if_pos rfl];exact hl
   . rw[if_neg hk];exact(h.locs k).mono (fun _=>id) hs hB (fun hl'=>hB k (hlv k hl')) (fun _ _=>rfl) (fun b hb hz=>((h.locs k).root hb).2.2 hz) (h.refl k)
 . intro k k' b hne h1 h2;rw[St.L_newL]at h1 h2;by_cases hk:k=st.nx
   . subst hk;rw[if_neg (Ne.symm hne)]at h2;rw[if_pos rfl,hBn]at h1;rw[hB k' (hlv k' h2.live)]at h2;exact hd k' b h1 h2
   . rw[if_neg hk]at h1;rw[hB k (hlv k h1.live)]at h1;by_cases hk':k'=st.nx
     . subst hk';rw[if_pos rfl,hBn]at h2;exact hd k b h2 h1
     . rw[if_neg hk']at h2;rw[hB k' (hlv k' h2.live)]at h2;exact h.disj k k' b hne h1 h2
 . rw[St.L_newL];by_cases hk:k=st.nx
   . rw[if_pos hk];exact hr
   . rw[if_neg hk];exact(h.refl k).le (Nat.le_succ _)
 . rw[St.L_newL];have hk':st.nx+1<=k:=hk;rw[if_neg (by omega)];exact h.fresh k (by omega)
 . by_cases hk:k=st.nx
   . rw[hk,hBn];exact hv1
   . rw[C1 _ _ _ _ hk];exact h.bone k
 . rw[St.L_newL]at hl;by_cases hkn:k=st.nx
   . subst hkn;rw[if_pos rfl,hBn]at hl;exact hmk b hk hl
   . rw[if_neg hkn]at hl;rw[hB k (hlv k hl.live)]at hl;exact h.mrk.2 k b hk hl
theorem C0.drop (h:C0 za w0 st E w Z B) (k:Nat):C0 za w0 (st.setL k .none) E w Z B:=by
 refine⟨h.ext,h.zlt,h.slots,fun q=> ?_,fun q q' b hne h1 h2=> ?_,h.refs,fun q=> ?_,fun q hq=> ?_,h.bone,h.zin,h.nms,h.bfix,⟨h.mrk.1,fun q b hk hl=>(by rw[St.L_setL]at hl;split at hl;exact hl.elim;exact h.mrk.2 q b hk hl)⟩,h.frs,h.frf⟩
 . rw[St.L_setL];split
   . trivial
   . exact h.locs q
 . rw[St.L_setL]at h1 h2;split at h1
   . exact h1.elim
   . split at h2
     . exact h2.elim
     . exact h.disj q q' b hne h1 h2
 . rw[St.L_setL];split
   . trivial
   . exact h.refl q
 . rw[St.L_setL];split
   . rfl
   . exact h.fresh q hq
theorem C0.chg (h:C0 za w0 st E w Z B) {k b:Nat} {lc:LC} (hk:live (st.L k)) (hb:A4 w (B k) (st.L k) b) (hc:IH b w w') (hl:RL (up za w0 k) w' Z B k lc) (hr:Xn st.nx lc) (hf:∀b,A4 w' (B k) lc b->root (B k)=some b\/A4 w (B k) (st.L k) b):C0 za w0 (st.setL k lc) E w' Z B:=by
 have h1:=(h.locs k).root hb;have hf:∀b,A4 w' (B k) lc b->A4 w (B k) (st.L k) b:=fun b hh=>(hf b hh).elim (A4.of hk) id
 have h2:C0 za w0 (st.setL k .none) E w' Z B:=by
  refine(h.drop k).keep (h.ext.chg hc h1.1.m) (by rw[hc.2.2.2.1];exact Nat.le_refl _) (fun q hq=>hc.2.2.2.2 q ?_) (fun _=>id) (fun _=> .inl);rintro rfl;rcases hq with hq| ⟨k',hl'⟩
  . exact h1.2.2 hq
  . rw[St.L_setL]at hl';by_cases hkk:k'=k
    . rw[if_pos hkk]at hl';exact hl'.elim
    . rw[if_neg hkk]at hl';exact h.disj k' k q hkk hl' hb
 have hkn:k<st.nx:=by
  by_cases hlt:k<st.nx
  . exact hlt
  . rw[h.fresh k (by omega)]at hk;exact hk.elim
 have hL:∀q,(st.setL k lc).L q=if q=k then lc else(st.setL k .none).L q:=fun q=>by
  rw[St.L_setL,St.L_setL];split<;>simp_all
 have lv:∀q b,A4 w' (B q) ((st.setL k lc).L q) b->A4 w (B q) (st.L q) b:=fun q b' hq=>by
  rw[St.L_setL]at hq;split at hq
  . rename_i e;rw[e]at hq⊢;exact hf b' hq
  . refine(A4.iff fun c hcf=>hc.2.2.2.2 c ?_).1 hq;rintro rfl;rename_i e;exact h.disj q k c e hcf hb
 refine⟨h2.ext,h2.zlt,h2.slots,fun q=> ?_,fun q q' b' hne l1 l2=> ?_,h2.refs,fun q=> ?_,fun q hq=> ?_,h.bone,h.zin,h.nms,h.bfix,⟨h2.mrk.1,fun q b hk' hl'=>h.mrk.2 q b hk' (lv q b hl')⟩,h2.frs,h2.frf⟩
 . rw[hL];split
   . rename_i hq;rw[hq];exact hl
   . exact h2.locs q
 . exact h.disj q q' b' hne (lv q b' l1) (lv q' b' l2)
 . rw[hL];split
   . exact hr
   . exact h2.refl q
 . rw[hL,if_neg (by have:st.nx<=q:=hq;omega)];exact h2.fresh q hq
theorem C0.relc (h:C0 za w0 st E w Z B) {k:Nat} {lc:LC} (hk:live (st.L k)) (hl:RL (up za w0 k) w Z B k lc) (hr:Xn st.nx lc) (hf:∀b,A4 w (B k) lc b->root (B k)=some b\/A4 w (B k) (st.L k) b):C0 za w0 (st.setL k lc) E w Z B:=by
 have hkn:k<st.nx:=by
  by_cases hlt:k<st.nx
  . exact hlt
  . rw[h.fresh k (by omega)]at hk;exact hk.elim
 have lv:∀q b,A4 w (B q) ((st.setL k lc).L q) b->A4 w (B q) (st.L q) b:=fun q b' hq=>by
  rw[St.L_setL]at hq;split at hq
  . rename_i e;rw[e]at hq⊢;exact(hf b' hq).elim (A4.of hk) id
  . exact hq
 refine⟨h.ext,h.zlt,h.slots,fun q=> ?_,fun q q' b' hne l1 l2=> ?_,h.refs,fun q=> ?_,fun q hq=> ?_,h.bone,h.zin,h.nms,h.bfix,⟨h.mrk.1,fun q b hk' hl'=>h.mrk.2 q b hk' (lv q b hl')⟩,h.frs,h.frf⟩
 . rw[St.L_setL];split
   . rename_i hq;rw[hq];exact hl
   . exact h.locs q
 . exact h.disj q q' b' hne (lv q b' l1) (lv q' b' l2)
 . rw[St.L_setL];split
   . exact hr
   . exact h.refl q
 . rw[St.L_setL,if_neg (by have:st.nx<=q:=hq;omega)];exact h.fresh q hq
theorem C0.addL (h:C0 za w0 st E w Z B) {k:Nat} {lc:LC} (hk:k<st.nx) (hl:RL (up za w0 k) w Z B k lc) (hd:∀j b,j≠k->A4 w (B k) lc b->¬A4 w (B j) (st.L j) b) (hr:Xn st.nx lc) (hmk:∀b,za.k0<=k->A4 w (B k) lc b->za.b0<=b):C0 za w0 (st.setL k lc) E w Z B:=by
 refine⟨h.ext,h.zlt,h.slots,fun q=> ?_,fun q q' b hne l1 l2=> ?_,h.refs,fun q=> ?_,fun q hq=> ?_,h.bone,h.zin,h.nms,h.bfix,⟨h.mrk.1,fun q b hk' hl'=>(by
  rw[St.L_setL]at hl';by_cases hqk:q=k
  . subst hqk;rw[if_pos rfl]at hl';exact hmk b hk' hl'
  . rw[if_neg hqk]at hl';exact h.mrk.2 q b hk' hl')⟩,h.frs,h.frf⟩
 . rw[St.L_setL];split
   . rename_i hq;rw[hq];exact hl
   . exact h.locs q
 . rw[St.L_setL]at l1 l2;by_cases hq:q=k
   . subst hq;rw[if_neg (Ne.symm hne)]at l2;rw[if_pos rfl]at l1;exact hd q' b (Ne.symm hne) l1 l2
   . rw[if_neg hq]at l1;by_cases hq':q'=k
     . subst hq';rw[if_pos rfl]at l2;exact hd q b hq l2 l1
     . rw[if_neg hq']at l2;exact h.disj q q' b hne l1 l2
 . rw[St.L_setL];split
   . exact hr
   . exact h.refl q
 . rw[St.L_setL,if_neg (by have:st.nx<=q:=hq;omega)];exact h.fresh q hq
theorem V6 {v:Value} {t t':Ty} {e e' d d' b:Nat} {ls:List (List t.den)} {ls':List (List t'.den)} {al al':List (Nat×Nat)} {ho:Option Nat} (h:∀g,root v=some g->w'.heap[g]? =w.heap[g]?):A4 w' v (.rows t' d d' ls' al' ho) b↔A4 w v (.rows t e e' ls al ho) b:=by
 refine or_congr Iff.rfl ⟨fun⟨g,n,cap,cur,e,i,x,hv,hg,r⟩=>⟨g,n,cap,cur,e,i,x,hv, ?_,r⟩,fun⟨g,n,cap,cur,e,i,x,hv,hg,r⟩=>⟨g,n,cap,cur,e,i,x,hv, ?_,r⟩⟩
 . rw[<-h g (by rw[hv];rfl)];exact hg
 . rw[h g (by rw[hv];rfl)];exact hg
theorem A0b {U:Nat->Prop} {t:Ty} {k e e' i q b:Nat} {ls:List (List t.den)} {al:List (Nat×Nat)} {l:List t.den} {ys:List Value} (h:RL U w Z B k (.rows t e e' ls al none)) (hq:(i,q)∈al) (hb:root (B q)=some b) (hc:IH b w w') (hz:¬Z b) (hown:w'.ownsRow 0 e' t.size (B q) l.length ys) (he:G4 (C6 t w' Z) ys l):
 RL U w' Z B k (.rows t e e' (ls.set i l) al none)/\A4 w (B k) (.rows t e e' ls al none) b/\root (B k)≠some b:=by
 obtain⟨xs,h1,⟨h2,h3,h4⟩,h5,h6⟩:=h;have hx:=(h2 _ hq).resolve_right fun hh=>by rw[hh.2]at hb;simp[Vc.root]at hb
 have hil:i<ls.length:=by have:=(List.getElem?_eq_some_iff.1 hx).1;have h0:=h1.1;omega
 have hne:root (B k)≠some b:=h5 i _ b rfl hx hb;have hsz:N5 Z w w':=fun c hc'=>hc.2.2.2.2 c (fun e=>hz (e▸hc'))
 have hhd:∀g,root (B k)=some g->w'.heap[g]? =w.heap[g]?:=fun g hg=>hc.2.2.2.2 g (fun e=>hne (e▸hg))
 refine⟨⟨xs,by rw[List.length_set];exact Aw h1 (fun g hg=>hhd g ((E5 h1).trans hg)),⟨h2,fun j l' x _ hl hxj=> ?_,h4⟩,h5,fun c hf=> ?_⟩, ?_,hne⟩
 . by_cases hj:i=j
   . subst hj;rw[List.getElem?_set_self hil]at hl;cases hl;rw[hx]at hxj;cases hxj;exact⟨ys,hown,he⟩
   . rw[List.getElem?_set_ne hj]at hl;obtain⟨zs,g1,g2⟩:=h3 j l' x rfl hl hxj;refine⟨zs,Aw g1 (fun g hg=>hc.2.2.2.2 g (fun e=> ?_)),g2.mono fun _ _=>C6.mono (fun _=>id) hsz⟩;subst e;exact h4 i j _ _ g hj rfl rfl hx hxj hb ((E5 g1).trans hg)
 . obtain⟨a1,a2,a3⟩:=h6 c ((V6 hhd).1 hf);exact⟨a1,a2,by rw[hc.2.2.2.1];exact a3⟩
 . refine .inr ?_;rcases h1.2 with⟨hv,hn⟩ | ⟨g,cap,cur,hv,_,hg,hle,_,hsz,htk⟩
   . omega
   . refine⟨g,_,cap,cur,e,i,_,hv,hg,hil,rfl, ?_,hb⟩;rw[<-htk,List.getElem?_take_of_lt (by omega)]at hx;simpa using hx
def Bt (w:World) (Z:Nat->Prop) (t:Ty) (e e':TypeId) (v:Value) (ls:List (List t.den)):Prop:=
 ∃xs:List Value,w.ownsRow 0 e 1 v ls.length xs/\(∀(i:Nat) (l:List t.den) (x:Value),ls[i]? =some l->xs[i]? =some x->∃ys,w.ownsRow 0 e' t.size x l.length ys/\G4 (C6 t w Z) ys l)/\
  (∀(i j:Nat) (x y:Value) (b:Nat),i≠j->xs[i]? =some x->xs[j]? =some y->root x=some b->root y≠some b)/\∀(i:Nat) (x:Value) (b:Nat),xs[i]? =some x->root x=some b->root v≠some b
theorem RL.rowsR {U:Nat->Prop} {t:Ty} {k e e':Nat} {ls:List (List t.den)} {al:List (Nat×Nat)} (h:RL U w Z B k (.rows t e e' ls al none)):Bt w Z t e e' (B k) ls:=by
 obtain⟨xs,h1,⟨h2,h3,h4⟩,h5,h6⟩:=h;exact⟨xs,h1,fun i l x hl hx=>h3 i l x rfl hl hx,fun i j x y b hij hx hy hb=>h4 i j x y b hij rfl rfl hx hy hb,fun i x b hx hb=>h5 i x b rfl hx hb⟩
theorem Bt.rl {U:Nat->Prop} {t:Ty} {k e e':Nat} {ls:List (List t.den)} (h:Bt w Z t e e' (B k) ls) (hf:∀b,A4 w (B k) (.rows t e e' ls [] none) b->U b/\¬Z b/\b<w.heap.size):RL U w Z B k (.rows t e e' ls [] none):=by
 obtain⟨xs,h1,h3,h4,h5⟩:=h;exact⟨xs,h1,⟨fun p hp=>(by cases hp),fun i l x _ hl hx=>h3 i l x hl hx,fun i j x y b hij _ _ hx hy hb=>h4 i j x y b hij hx hy hb⟩,fun i x b _ hx hb=>h5 i x b hx hb,hf⟩
theorem Bt.mono {t:Ty} {e e':Nat} {v:Value} {ls:List (List t.den)} (hz:∀b,Z b->Z' b) (h:Bt w Z t e e' v ls):Bt w Z' t e e' v ls:=by
 obtain⟨xs,h1,h3,h4,h5⟩:=h;exact⟨xs,h1,fun i l x hl hx=>(h3 i l x hl hx).imp fun ys hy=>⟨hy.1,hy.2.mono fun _ _=>C6.mono hz (fun _ _=>rfl)⟩,h4,h5⟩
end steps
def XV (P:Program) (r:TypeId->Ty->Bool):List Field->Nat->Ty->Bool
 | [],_, .unit=>true
 | [f],off,ty=>Nat.beq f.offset off&&r f.type ty&&Nat.beq (P.cellsOf f.type) ty.size
 |f::g::fs,off, .pair a b=>Nat.beq f.offset off&&r f.type a&&Nat.beq (P.cellsOf f.type) a.size&&XV P r (g::fs) (off+a.size) b
 | _,_,_=>false
def XT (r:Ty->Bool) (sz:Nat):Nat->Ty->Bool
 |0, .unit=>true
 |1,ty=>r ty&&Nat.beq ty.size sz
 |n+2, .pair a b=>r a&&Nat.beq a.size sz&&XT r sz (n+1) b
 | _,_=>false
def aS (P:Program):Nat->TypeId->Ty->Bool
 |0,_,_=>false
 |n+1,T,ty=>match P.underlying T with
  |some (.int k)=>(match ty with| .int k'=>decide (k=k') | _=>false)
  |some .bool=>(match ty with| .bool=>true| _=>false)
  |some (.struct fs)=>XV P (aS P n) fs.toList 0 ty&&Nat.beq (P.cellsOf T) ty.size&&fs.all (·.name != "_")
  |some (.array m e)=>XT (aS P n e) (P.cellsOf e) m ty&&Nat.beq (P.cellsOf T) ty.size
  | _=>false
def Ly:(t:Ty)->t.den->List Lit
 | .int k,n=> [.int k n]
 | .bool,b=> [.bool b]
 | .pair a b,x=>Ly a x.1++Ly b x.2
 | _,_=> []
def Fs:Ty->Bool
 | .int _=>true
 | .bool=>true
 | .unit=>true
 | .pair a b=>Fs a&&Fs b
 | _=>false
def Wa:(t:Ty)->t.den->t.den->Bool
 | .int _,a,b=>decide ((show Int from a)=b)
 | .bool,a,b=>(show Bool from a)==b
 | .pair a b,x,y=>Wa a x.1 y.1&&Wa b x.2 y.2
 | _,_,_=>true
theorem PS:∀ {t:Ty} {x y:t.den},(Ly t x).length=(Ly t y).length
 | .int _,_,_=>rfl
 | .bool,_,_=>rfl
 | .pair a b,x,y=>by simp only[Ly,List.length_append];rw[PS (t:=a) (x:=x.1) (y:=y.1),PS (t:=b) (x:=x.2) (y:=y.2)]
 | .str,_,_=>rfl
 | .unit,_,_=>rfl
 | .sl _,_,_=>rfl
 | .ptr _,_,_=>rfl
 | .mp _ _ _ _,_,_=>rfl
theorem PR:∀ {t:Ty} {x y:t.den},Fs t=true->(Ly t x=Ly t y↔x=y)
 | .int _,x,y,_=>by simp[Ly]
 | .bool,x,y,_=>by simp[Ly]
 | .unit,x,y,_=>by simp[Ly]
 | .pair a b,x,y,h=>by
  simp only[Fs,Bool.and_eq_true]at h;simp only[Ly];constructor
  . intro e;have:=List.append_inj e PS;exact Prod.ext ((PR h.1).1 this.1) ((PR h.2).1 this.2)
  . rintro rfl;rfl
 | .str,_,_,h=>by cases h
 | .sl _,_,_,h=>by cases h
 | .ptr _,_,_,h=>by cases h
 | .mp _ _ _ _,_,_,h=>by cases h
theorem Tf:∀ {t:Ty} {x y:t.den},Fs t=true->(Wa t x y=true↔x=y)
 | .int _,x,y,_=>by simp[Wa]
 | .bool,x,y,_=>by simp[Wa]
 | .unit,x,y,_=>by simp[Wa]
 | .pair a b,x,y,h=>by
  simp only[Fs,Bool.and_eq_true]at h;simp only[Wa,Bool.and_eq_true,Tf h.1,Tf h.2];exact⟨fun⟨a,b⟩=>Prod.ext a b,fun e=>by rw[e];exact⟨rfl,rfl⟩⟩
 | .str,_,_,h=>by cases h
 | .sl _,_,_,h=>by cases h
 | .ptr _,_,_,h=>by cases h
 | .mp _ _ _ _,_,_,h=>by cases h
theorem Pf:∀ {t:Ty} {w w':World} {Z Z':Nat->Prop} {cs cs':List Value} {x:t.den},Fs t=true->C6 t w Z cs x->C6 t w' Z' cs' x->cs=cs'
 | .int _,_,_,_,_,_,_,_,_,h,h'=>h.1.trans h'.1.symm
 | .bool,_,_,_,_,_,_,_,_,h,h'=>(show _= _ from h).trans (show _= _ from h').symm
 | .unit,_,_,_,_,_,_,_,_,h,h'=>(show _= _ from h).trans (show _= _ from h').symm
 | .pair a b,_,_,_,_,_,_,_,hp,⟨c1,c2,e,h1,h2⟩,⟨c1',c2',e',h1',h2'⟩=>by
  simp only[Fs,Bool.and_eq_true]at hp;rw[e,e',Pf hp.1 h1 h1',Pf hp.2 h2 h2']
 | .str,_,_,_,_,_,_,_,h,_,_=>by cases h
 | .sl _,_,_,_,_,_,_,_,h,_,_=>by cases h
 | .ptr _,_,_,_,_,_,_,_,h,_,_=>by cases h
 | .mp _ _ _ _,_,_,_,_,_,_,_,h,_,_=>by cases h
section
variable {P:Program} {w:World} {Z:Nat->Prop}
theorem UB {n:Nat} {r:TypeId->Ty->Bool} {cs:List Value} (hr:∀ {T:TypeId} {ty:Ty} {cs:List Value} {x:ty.den},r T ty=true->C6 ty w Z cs x->P.keyLits n T cs=some (Ly ty x)):
 ∀ {fs:List Field} {off:Nat} {ty:Ty} {x:ty.den},XV P r fs off ty=true->C6 ty w Z (cs.drop off) x->∃ls,fs.mapM (fun f=>P.keyLits n f.type ((cs.drop f.offset).take (P.cellsOf f.type)))=some ls/\ls.flatten=Ly ty x
 | [],off,ty,x,h,hx=>by
  cases ty<;>simp[XV]at h;exact⟨[],rfl,rfl⟩
 | [f],off,ty,x,h,hx=>by
  have h':(Nat.beq f.offset off&&r f.type ty&&Nat.beq (P.cellsOf f.type) ty.size)=true:=by cases ty<;>exact h
  simp only[Bool.and_eq_true]at h';have e1:=Nat.eq_of_beq_eq_true h'.1.1;have e2:=Nat.eq_of_beq_eq_true h'.2;have hl:=C6.length hx;refine⟨[Ly ty x], ?_,by simp⟩;rw[List.mapM_cons,e1,e2,List.take_of_length_le (by omega),hr h'.1.2 hx];rfl
 |f::g::fs,off,ty,x,h,hx=>by
  cases ty<;>simp only[XV]at h<;>try cases h
  rename_i a b;simp only[Bool.and_eq_true]at h;obtain⟨⟨⟨h1,h2⟩,h3⟩,h4⟩:=h;obtain⟨c1,c2,e,r1,r2⟩:=hx;have l1:=C6.length r1;have e1:=Nat.eq_of_beq_eq_true h1;have e3:=Nat.eq_of_beq_eq_true h3;obtain⟨ls,hls,hfl⟩:=UB (cs:=cs) (off:=off+a.size) (x:=x.2) hr h4 (by rw[<-List.drop_drop,e,List.drop_left' l1];exact r2);refine⟨Ly a x.1::ls, ?_,by simp[Ly,hfl]⟩;rw[List.mapM_cons,e1,e3,e,List.take_left' l1,hr h2 r1,hls];rfl
theorem UA {n e sz:Nat} {r:Ty->Bool} (hr:∀ {ty:Ty} {cs:List Value} {x:ty.den},r ty=true->C6 ty w Z cs x->P.keyLits n e cs=some (Ly ty x)):
 ∀ {m i:Nat} {ty:Ty} {cs:List Value} {x:ty.den},XT r sz m ty=true->C6 ty w Z (cs.drop (i*sz)) x->∃ls,(List.range' i m).mapM (fun i=>P.keyLits n e ((cs.drop (i*sz)).take sz))=some ls/\ls.flatten=Ly ty x
 |0,i,ty,cs,x,h,hx=>by
  cases ty<;>simp[XT]at h;exact⟨[],rfl,rfl⟩
 |1,i,ty,cs,x,h,hx=>by
  have h':(r ty&&Nat.beq ty.size sz)=true:=by cases ty<;>exact h
  simp only[Bool.and_eq_true]at h';have e2:=Nat.eq_of_beq_eq_true h'.2;have hl:=C6.length hx;refine⟨[Ly ty x], ?_,by simp⟩;rw[List.range'_one,List.mapM_cons,List.take_of_length_le (by omega),hr h'.1 hx];rfl
 |m+2,i,ty,cs,x,h,hx=>by
  cases ty<;>simp only[XT]at h<;>try cases h
  rename_i a b;simp only[Bool.and_eq_true]at h;obtain⟨⟨h1,h2⟩,h3⟩:=h;obtain⟨c1,c2,e,r1,r2⟩:=hx;have l1:=C6.length r1;have e2:=Nat.eq_of_beq_eq_true h2;obtain⟨ls,hls,hfl⟩:=UA (cs:=cs) (i:=i+1) (x:=x.2) hr h3 (by rw[Nat.succ_mul, <-List.drop_drop,e,List.drop_left' (by omega)];exact r2);refine⟨Ly a x.1::ls, ?_,by simp[Ly,hfl]⟩;rw[List.range'_succ,List.mapM_cons,e,List.take_left' (by omega),hr h1 r1,hls];rfl
theorem NL:∀ {n:Nat} {T:TypeId} {ty:Ty} {cs:List Value} {x:ty.den},aS P n T ty=true->C6 ty w Z cs x->P.keyLits n T cs=some (Ly ty x)
 |0,_,_,_,_,h,_=>by cases h
 |n+1,T,ty,cs,x,h,hx=>by
  unfold aS at h;unfold Program.keyLits;split at h
  . rename_i k hu;cases ty<;>simp only at h<;>try cases h
    have:=of_decide_eq_true h;subst this;obtain⟨e,hi⟩:=hx;simp only[hu,e];rw[if_pos ⟨trivial,by simp only[Lit.wf,Bool.and_eq_true,decide_eq_true_eq];exact hi⟩];rfl
  . rename_i hu;cases ty<;>simp only at h<;>try cases h
    simp only[hu,show cs= _ from hx];rfl
  . rename_i fs hu;simp only[Bool.and_eq_true]at h;have hl:=C6.length hx;obtain⟨ls,h1,h2⟩:=UB (n:=n) (cs:=cs) (off:=0) (fun hh hx=>NL hh hx) h.1.1 (by simpa using hx);simp only[hu];rw[if_pos ⟨by rw[hl,Nat.eq_of_beq_eq_true h.1.2],h.2⟩,h1];simp[h2]
  . rename_i m e hu;simp only[Bool.and_eq_true]at h;have hl:=C6.length hx;obtain⟨ls,h1,h2⟩:=UA (n:=n) (e:=e) (sz:=P.cellsOf e) (i:=0) (cs:=cs) (fun hh hx=>NL hh hx) h.1 (by simpa using hx);simp only[hu];rw[if_pos (by rw[hl,Nat.eq_of_beq_eq_true h.2]),List.range_eq_range',h1];simp[h2]
  . cases h
def AS (P:Program) (T:TypeId) (a:Bool) (ty:Ty):Bool:=aS P 20 T ty&&P.keyTypeAt 20 T&&Fs ty&& !(P.eqGuardType P.depth T)&&(match P.underlying T with|some (.struct _)=>a|some (.array _ _)=>a| _=> !a)
theorem DI {T:TypeId} {a:Bool} {ty:Ty} {v:Value} {x:ty.den} (h:AS P T a ty=true) (hv:S4 (C6 ty w Z) a v x):v.formed P T=true/\P.keyLits 20 T v.cells.toList=some (Ly ty x):=by
 simp only[AS,Bool.and_eq_true]at h;obtain⟨⟨⟨⟨h1,h2⟩,h3⟩,_⟩,h4⟩:=h;cases a with
 |true=>
  obtain⟨cs,e,hr⟩:=hv;subst e;have h5:=NL h1 hr;have hl:=C6.length hr;refine⟨?_,h5⟩;unfold aS at h1;split at h1
  . rename_i hu;simp[hu]at h4
  . rename_i hu;simp[hu]at h4
  . rename_i hu;simp only[Bool.and_eq_true]at h1;simp only[Value.formed,hu];have:=Nat.eq_of_beq_eq_true h1.1.2;simp[this,hl]
  . rename_i hu;simp only[Bool.and_eq_true]at h1;simp only[Value.formed,hu];have:=Nat.eq_of_beq_eq_true h1.2;simp[this,hl]
  . cases h1
 |false=>
  have hr:C6 ty w Z [v] x:=hv;have h5:=NL h1 hr;unfold aS at h1;split at h1
  . rename_i k hu;cases ty<;>simp only at h1<;>try cases h1
    have e:=hr.1;simp only[List.cons.injEq,and_true]at e;subst e;exact⟨by simp[Value.formed,hu],h5⟩
  . rename_i hu;cases ty<;>simp only at h1<;>try cases h1
    have e: [v]= [.bool x]:=hr;simp only[List.cons.injEq,and_true]at e;subst e;exact⟨by simp[Value.formed,hu],h5⟩
  . rename_i hu;simp[hu]at h4
  . rename_i hu;simp[hu]at h4
  . cases h1
theorem Tn {T:TypeId} {a:Bool} {ty:Ty} (h:AS P T a ty=true):Fs ty=true:=by
 simp only[AS,Bool.and_eq_true]at h;exact h.1.1.2
theorem UM {T:TypeId} {a:Bool} {ty:Ty} {v v':Value} {x y:ty.den} (h:AS P T a ty=true) (hv:S4 (C6 ty w Z) a v x) (hv':S4 (C6 ty w Z) a v' y) (w':World):(Op.equalIn 10000 T v v').run P w'= .ok (Wa ty x y) w':=by
 obtain⟨f1,l1⟩:=DI h hv;obtain⟨f2,l2⟩:=DI h hv';have hp:=Tn h;simp only[AS,Bool.and_eq_true]at h;obtain⟨r,hr,hiff⟩:=run_equalIn_deep (P:=P) 9980 20 T h.1.1.1.2 w' 20 20 v v' _ _ f1 f2 l1 l2;rw[hr];have:r=Wa ty x y:=by
  rw[PR hp, <-Tf hp]at hiff;cases r<;>cases he:Wa ty x y<;>simp_all
 rw[this]
theorem Le {T:TypeId} {a:Bool} {ty:Ty} {v:Value} {x:ty.den} (h:AS P T a ty=true) (hv:S4 (C6 ty w Z) a v x) (w':World) (em:Bool):(Instr.checkKey em 10000 T v).run P w'= .ok () w':=by
 obtain⟨f1,l1⟩:=DI h hv;simp only[AS,Bool.and_eq_true]at h;exact run_checkKey_deep (P:=P) em 9980 20 T h.1.1.1.2 w' 20 v _ f1 l1
def N2 {α:Type} (t:Ty) (k:t.den):List (t.den×α)->Nat->Option Nat
 | [],_=>none
 |x::l,i=>bif Wa t k x.1 then some i else N2 t k l (i+1)
def V9 {α:Type} (t:Ty) (k:t.den):List (t.den×α)->Option α
 | []=>none
 |x::l=>bif Wa t k x.1 then some x.2 else V9 t k l
def Wy {α:Type} (t:Ty) (k:t.den) (v:α):List (t.den×α)->List (t.den×α)
 | []=> [(k,v)]
 |x::l=>bif Wa t k x.1 then(k,v)::l else x::Wy t k v l
theorem Rj {T:TypeId} {ka:Bool} {kt:Ty} {ν:Type} {Rv:Value->ν->Prop} {v:Value} {k:kt.den} (h:AS P T ka kt=true) (hv:S4 (C6 kt w Z) ka v k) (w':World):
 ∀ {l:List (kt.den×ν)} {es:List MapEntry},O8 (S4 (C6 kt w Z) ka) Rv es l->(Instr.findKey T v es).run P w'= .ok ((N2 kt k l 0).bind fun j=>(es[j]?).map fun e=>(j,e.val)) w':=by
 have main:∀ {l:List (kt.den×ν)} {es:List MapEntry} (i:Nat),O8 (S4 (C6 kt w Z) ka) Rv es l->(Instr.findAsking T v es i).run P w'= .ok ((N2 kt k l i).bind fun j=>(es[j-i]?).map fun e=>(j,e.val)) w':=by
  intro l
  induction l with
  |nil=>intro es i he;rw[show es= []from he];rfl
  |cons x l ih=>
   intro es i he;obtain⟨e,es',rfl,h1,h2,h3⟩:=he;have hq:=UM h hv h1 w';unfold Instr.findAsking N2;simp only[Sem.run_bind,Op.equal,Op.maxDepth,hq,Result.andThen_ok];cases Wa kt k x.1 with
   |true=>simp
   |false=>
    simp only[Bool.false_eq_true,if_false,cond_false];rw[ih (i+1) h3];cases hm:N2 kt k l (i+1)with
    |none=>rfl
    |some j=>
     have hj:i+1<=j:=by
      have:∀(l:List (kt.den×ν)) (i j:Nat),N2 kt k l i=some j->i<=j:=by
       intro l
       induction l with
       |nil=>intro i j hh;cases hh
       |cons y l ih=>
        intro i j hh;unfold N2 at hh;cases hb:Wa kt k y.1 with
        |true=>simp[hb]at hh;omega
        |false=>simp[hb]at hh;have:=ih _ _ hh;omega
      exact this _ _ _ hm
     simp only[Option.bind_some];rw[show j-i=(j-(i+1))+1 from by omega];simp
 intro l es he;have hask:=main 0 he;by_cases hwide:(match P.underlying T with|some (.array _ _) |some (.struct _)=>true| _=>false)=true
 . rw[run_findKey_eq w' hwide];exact hask
 . have hfl:=h;simp only[AS,Bool.and_eq_true]at hfl;obtain⟨⟨⟨⟨g1,_⟩,_⟩,_⟩,g4⟩:=hfl;have now:∀(d:TypeDesc),P.underlying T=some d->(∀(v v':Value) (x y:kt.den),S4 (C6 kt w Z) ka v x->S4 (C6 kt w Z) ka v' y->Instr.sameNow d v v'=some (Wa kt x y))->∀ {l:List (kt.den×ν)} {es:List MapEntry} (i:Nat),O8 (S4 (C6 kt w Z) ka) Rv es l->Instr.findNow d v es i=some ((N2 kt k l i).bind fun j=>(es[j-i]?).map fun e=>(j,e.val)):=by
    intro d hd hsame l
    induction l with
    |nil=>intro es i he;rw[show es= []from he];rfl
    |cons x l ih=>
     intro es i he;obtain⟨e,es',rfl,h1,h2,h3⟩:=he;unfold Instr.findNow N2;rw[hsame _ _ _ _ hv h1];cases hb:Wa kt k x.1 with
     |true=>simp
     |false=>
      simp only[cond_false];rw[ih (i+1) h3];cases hm:N2 kt k l (i+1)with
      |none=>rfl
      |some j=>
       have hj:i+1<=j:=by
        have:∀(l:List (kt.den×ν)) (i j:Nat),N2 kt k l i=some j->i<=j:=by
         intro l
         induction l with
         |nil=>intro i j hh;cases hh
         |cons y l ih=>
          intro i j hh;unfold N2 at hh;cases hb:Wa kt k y.1 with
          |true=>simp[hb]at hh;omega
          |false=>simp[hb]at hh;have:=ih _ _ hh;omega
        exact this _ _ _ hm
       simp only[Option.bind_some];rw[show j-i=(j-(i+1))+1 from by omega];simp
   unfold aS at g1;split at g1
   . rename_i q hu;simp only[hu,Bool.not_eq_true']at g4;subst g4;cases kt<;>simp only at g1<;>try cases g1
     have:=of_decide_eq_true g1;subst this;have:=now _ hu (fun v v' x y h1 h2=>by
      have e1:=h1.1;have e2:=h2.1;simp only[List.cons.injEq,and_true]at e1 e2;rw[e1,e2];simp[Instr.sameNow,Wa,BEq.beq]) 0 he
     simp[Instr.findKey,run_underlying hu,this]
   . rename_i hu;simp only[hu,Bool.not_eq_true']at g4;subst g4;cases kt<;>simp only at g1<;>try cases g1
     have:=now _ hu (fun v v' x y h1 h2=>by
      have e1: [v]= [.bool x]:=h1;have e2: [v']= [.bool y]:=h2;simp only[List.cons.injEq,and_true]at e1 e2;rw[e1,e2];simp[Instr.sameNow,Wa]) 0 he
     simp[Instr.findKey,run_underlying hu,this]
   . rename_i hu;simp[hu]at hwide
   . rename_i hu;simp[hu]at hwide
   . cases g1
end
theorem Nr (k:IntKind) (n:Int):FX k (k.wrap n):=by
 unfold FX;cases k<;>simp only[IntKind.wrap,IntKind.min,IntKind.max,IntKind.signed,IntKind.bits]<;>simp<;>(try split)<;>omega
theorem bG (k:IntKind):FX k 0:=by unfold FX;cases k<;>decide
theorem oZ (k:IntKind):k.min<=0/\0<=k.max:=bG k
theorem A0p {k:IntKind} {a b:Int} (ha:FX k a):FX k (a.tmod b):=by
 have h0:=oZ k;unfold FX at*;rcases Int.le_total 0 a with h|h
 . have h1:=Int.tmod_nonneg b h;have h2:a.tmod b<=a:=by
    rw[Int.tmod_eq_emod_of_nonneg h];by_cases hb:b=0
    . subst hb;simp
    . have e1:=Int.mul_ediv_add_emod a b;rcases Int.le_total 0 b with hb'|hb'
      . have:=Int.mul_nonneg hb' (Int.ediv_nonneg h hb');omega
      . have:=Int.mul_nonneg_of_nonpos_of_nonpos hb' (Int.ediv_nonpos_of_nonneg_of_nonpos h hb');omega
   omega
 . have h1:0<=(-a).tmod b:=Int.tmod_nonneg b (by omega);have h2:(-a).tmod b<= -a:=by
    rw[Int.tmod_eq_emod_of_nonneg (by omega)];by_cases hb:b=0
    . subst hb;simp
    . have e1:=Int.mul_ediv_add_emod (-a) b;rcases Int.le_total 0 b with hb'|hb'
      . have:=Int.mul_nonneg hb' (Int.ediv_nonneg (show 0<= -a by omega) hb');omega
      . have:=Int.mul_nonneg_of_nonpos_of_nonpos hb' (Int.ediv_nonpos_of_nonneg_of_nonpos (show 0<= -a by omega) hb');omega
   rw[Int.neg_tmod]at h1 h2;omega
theorem nQ {k:IntKind} {a:Int} (n:Nat) (ha:FX k a):FX k (a.fdiv (2^n)):=by
 have h0:=oZ k;have hp:(0:Int)<2^n:=Int.pow_pos (by decide);have h1:(1:Int)<=2^n:=hp;unfold FX at*;rw[Int.fdiv_eq_ediv_of_nonneg _ (by omega)];constructor
 . rw[Int.le_ediv_iff_mul_le hp];have:k.min*2^n<=k.min*1:=Int.mul_le_mul_of_nonpos_left h0.1 h1;omega
 . have:a/2^n<k.max+1:=by
    rw[Int.ediv_lt_iff_lt_mul hp];have:(k.max+1)*1<=(k.max+1)*2^n:=Int.mul_le_mul_of_nonneg_left h1 (by omega);omega
   omega
structure TI where
 ty:Ty
 agg:Bool
 elem:TypeId:=0
 fields:List (Nat×Nat×Bool):= []
 arr:Nat:=0
 bytes:Nat:=0
 eq:Bool:=false
 key:TypeId:=0
 rows:Bool:=false
 nest:List Nat:= []
def zc (t:Ty) (vs:List Value):Option (List Value):=
 match t with
 | .int k=>(match vs with| .int k' n::r=>bif decide (k=k')&&decide (n=0)then some r else none| _=>none)
 | .bool=>(match vs with| .bool b::r=>bif b then none else some r| _=>none)
 | .str=>(match vs with| .string s::r=>bif s.data.isEmpty then some r else none| _=>none)
 | .unit=>some vs
 | .pair a b=>(zc a vs).bind (zc b)
 | .sl _=>(match vs with| .slice none 0 0::r=>some r| _=>none)
 | .ptr _=>(match vs with| .pointer none::r=>some r| _=>none)
 | .mp _ _ _ _=>(match vs with| .map none::r=>some r| _=>none)
def Dw:Ty->List Value
 | .int k=> [.int k 0]
 | .bool=> [.bool false]
 | .str=> [.string ⟨#[]⟩]
 | .unit=> []
 | .pair a b=>Dw a++Dw b
 | .sl _=> [.slice none 0 0]
 | .ptr _=> [.pointer none]
 | .mp _ _ _ _=> [.map none]
theorem ZH:∀ {t:Ty} {vs r:List Value},zc t vs=some r->vs=Dw t++r
 | .int k,vs,r,h=>by
  simp only[zc]at h;split at h
  . rename_i k' n r';cases hk:decide (k=k')<;>simp[hk]at h;cases hn:decide (n=0)<;>simp at hn hk<;>simp[hn]at h;subst hn hk h;rfl
  . cases h
 | .bool,vs,r,h=>by
  simp only[zc]at h;split at h
  . rename_i b r';cases b<;>simp at h;subst h;rfl
  . cases h
 | .str,vs,r,h=>by
  simp only[zc]at h;split at h
  . rename_i s r';cases hs:s.data.isEmpty<;>simp[hs]at h;subst h;have:s=⟨#[]⟩:=by cases s;simp at hs;simp[hs]
    rw[this];rfl
  . cases h
 | .unit,vs,r,h=>by simp[zc]at h;subst h;rfl
 | .pair a b,vs,r,h=>by
  simp only[zc]at h;cases h1:zc a vs with
  |none=>simp[h1]at h
  |some r1=>
   simp[h1]at h;rw[ZH h1,ZH h];simp[Dw]
 | .sl t,vs,r,h=>by
  simp only[zc]at h;split at h
  . cases h;rfl
  . cases h
 | .ptr t,vs,r,h=>by
  simp only[zc]at h;split at h
  . cases h;rfl
  . cases h
 | .mp _ _ _ _,vs,r,h=>by
  simp only[zc]at h;split at h
  . cases h;rfl
  . cases h
def isB (P:Program) (T:TypeId):Bool:=match P.underlying T with|some .bool=>true| _=>false
def eP (P:Program) (T:TypeId) (f sz:Nat) (agg:Bool):Bool:=
 match P.underlying T with
 |some (.struct fs)=>(match fs[f]? with|some x=>bif agg then SZ P x.type sz else(S7 P x.type&&Nat.beq sz 1) |none=>false)
 | _=>false
def Wq (P:Program) (T:TypeId):Nat->List (Nat×Nat×Bool)->Bool
 | _,[]=>true
 |f,(off,sz,agg)::r=>JD P T f off&&eP P T f sz agg&&Wq P T (f+1) r
def Qv (P:Program) (T:TypeId) (t:Ty):Bool:=match Dc P T with|some z=>(match zc t z.cells.toList with|some []=>true| _=>false) |none=>false
def Zf (P:Program) (T:TypeId) (va:Bool):Bool:=match Dc P T with|some (.agg _)=>va|some (.tuple _)=>false|some _=> !va|none=>false
def Ui (P:Program) (T:TypeId) (ti:TI):Bool:=
 Na P T ti.ty.size&&(bif ti.agg then SZ P T ti.ty.size else(S7 P T&&Nat.beq ti.ty.size 1))&&Qv P T ti.ty&&
 (match ti.ty with
  | .bool=>isB P T
  | .str=>(match P.underlying T with|some .string=>true| _=>false)
  | .sl t=>Aq P T ti.elem t.size&&Qv P ti.elem t&&(match P.info? ti.elem with|some i=>Nat.beq i.bytes ti.bytes|none=>false)
  | .int k=>(match P.underlying T with|some (.int k')=>decide (k=k') | _=>false)
  | .mp ka kt va vt=>(match P.underlying T with|some (.map k e)=>Nat.beq k ti.key&&Nat.beq e ti.elem| _=>false)&&AS P ti.key ka kt&&Qv P ti.elem vt&&Zf P ti.elem va
  | _=>true)&&
 (bif ti.fields.isEmpty then true else(Wq P T 0 ti.fields&&(match Zv P T with|some pl=>decide (pl=ti.fields.map fun x=>(x.1,x.2.1)) |none=>false)))&&
 (bif Nat.beq ti.arr 0 then true else(match P.underlying T with|some (.array n e)=>Nat.beq n ti.arr&&Nat.beq e ti.elem| _=>false))&&
 (bif ti.eq then AS P T ti.agg ti.ty else true)
def Qg:Value->C
 | .int k n=>bif decide (k.min<=n)&&decide (n<=k.max)then .val (.int k) n else .raw (.int k n)
 | .bool b=> .val .bool b
 | .string s=> .val .str s
 |v=>bif v.oneCell' then .raw v else .dead
def XG:Value->SV
 | .agg cs=>⟨true,cs.toList.map Qg⟩
 |v=>⟨false,[Qg v]⟩
theorem Zk {w:World} {Z:Nat->Prop} {B:Nat->Value} {n:Nat} (v:Value):RC w Z B (Qg v) v/\Cd n (Qg v):=by
 cases v with
 |int k m=>
  simp only[Qg];cases h:decide (k.min<=m)&&decide (m<=k.max)with
  |true=>simp at h;simp only[cond_true];exact⟨⟨rfl,h⟩,trivial⟩
  |false=>simp only[cond_false];exact⟨⟨rfl,rfl⟩,trivial⟩
 | _=>exact⟨by first|rfl|exact⟨rfl,rfl⟩ |trivial,by first|trivial|rfl⟩
theorem Ci {w:World} {Z:Nat->Prop} {B:Nat->Value} {n:Nat} :∀vs:List Value,Cf w Z B (vs.map Qg) vs/\∀c∈vs.map Qg,Cd n c
 | []=>⟨rfl,by simp⟩
 |v::vs=>⟨⟨v,vs,rfl,(Zk (n:=n) v).1,(Ci (n:=n) vs).1⟩,fun c hc=>by
  simp only[List.map_cons,List.mem_cons]at hc;rcases hc with rfl|hc
  . exact(Zk (w:=w) (Z:=Z) (B:=B) v).2
  . exact(Ci (w:=w) (Z:=Z) (B:=B) vs).2 c hc⟩
theorem eK {w:World} {Z:Nat->Prop} {B:Nat->Value} {n:Nat} (v:Value):RS w Z B (XG v) v/\Mm n (XG v):=by
 have base:∀v,RS w Z B ⟨false,[Qg v]⟩ v/\Mm n ⟨false,[Qg v]⟩:=fun v=>⟨⟨v,[],rfl,(Zk (n:=n) v).1,rfl⟩,fun c hc=>by simp at hc;rw[hc];exact(Zk (w:=w) (Z:=Z) (B:=B) v).2⟩
 cases v with
 |agg cs=>exact⟨⟨cs.toList,by simp,(Ci (n:=n) cs.toList).1⟩,(Ci (w:=w) (Z:=Z) (B:=B) cs.toList).2⟩
 | _=>exact base _
abbrev Hq:=List (Tmp×Bool)
def bE (t:Tmp) (b:Bool):Hq->Bool
 | []=>false
 | (t',b')::r=>(Nat.beq t' t&&(b==b')) ||bE t b r
def St.ev (st:St) (ctx:Hq):Operand->Option SV
 | .tmp t=>match st.S t with
  | .one v=>some v
  | .cnd t' b v=>bif bE t' b ctx then some v else none
  | _=>none
 | .const v=>some (XG v)
 | .func f=>some ⟨false,[.fn f []]⟩
 | .global _=>none
def gctx (st:St):Nat->Tmp->Bool->Hq
 |0,t,b=> [(t,b)]
 |n+1,t,b=>(t,b)::match st.S t with
  | .cnd t' b' _=>gctx st n t' b'
  | _=> []
def FN:SV->Option Bool
 | ⟨false,[.val .bool e]⟩=>some e
 | _=>none
def gval (st:St) (t:Tmp):Option Bool:=match st.S t with
 | .one v=>FN v
 | .cnd _ _ v=>FN v
 | _=>none
def ctxP (st:St):Hq->Prop
 | []=>True
 | (t,b)::r=>match gval st t with
  |some e=>match r with
   | []=>e=b
   |r=>e=b/\ctxP st r
  |none=>ctxP st r
theorem JA {st:St} {t:Tmp} {b e:Bool} {r:Hq} (hg:gval st t=some e):ctxP st ((t,b)::r)↔e=b/\ctxP st r:=by
 simp only[ctxP,hg];cases r with
 |nil=>simp[ctxP]
 |cons _ _=>rfl
def P6 (E:G3) (ctx:Hq):Prop:=∀t b,(t,b)∈ctx->E t= .bool b
theorem UK {t:Tmp} {b:Bool} :∀ {ctx:Hq},bE t b ctx=true->(t,b)∈ctx
 | (t',b')::r,h=>by
  simp only[bE,Bool.or_eq_true,Bool.and_eq_true]at h;rcases h with⟨h1,h2⟩ |h
  . have:=Nat.eq_of_beq_eq_true h1;simp at h2;subst this h2;simp
  . simp[UK h]
theorem CJ (b:Bool):undef≠ .bool b:=by simp[undef]
section
variable {za:Zn} {w0 w:World} {Z:Nat->Prop} {B:Nat->Value} {st:St} {E:G3}
theorem C0.ev (h:C0 za w0 st E w Z B) {ctx:Hq} (hc:P6 E ctx) {x:Operand} {v:SV} (hv:st.ev ctx x=some v):RS w Z B v (Gw.ev E x)/\Mm st.nx v:=by
 cases x with
 |tmp t=>
  have hs:=h.slots t;have hr:=h.refs t;simp only[St.ev]at hv;cases hd:st.S t with
  |one u=>rw[hd]at hs hr hv;cases hv;exact⟨hs,hr⟩
  |tup _=>rw[hd]at hv;cases hv
  |dead=>rw[hd]at hv;cases hv
  |cnd t' b u=>
   rw[hd]at hs hr hv;cases hi:bE t' b ctx with
   |false=>simp[hi]at hv
   |true=>
    simp[hi]at hv;subst hv;rcases hs with⟨_,hs⟩ | ⟨hs,_⟩
    . exact⟨hs,hr⟩
    . exact absurd (hc t' b (UK hi)) hs
 |const u=>cases hv;exact eK u
 |func f=>cases hv;exact⟨⟨_,[],rfl,by show _= _;rfl,rfl⟩,fun c hc=>by simp at hc;subst hc;exact fun k hk=>by cases hk⟩
 |global g=>cases hv
theorem C0.gctx (h:C0 za w0 st E w Z B):∀ {n:Nat} {t:Tmp} {b:Bool},E t= .bool b->P6 E (gctx st n t b)
 |0,t,b,he=>fun t' b' hm=>by simp[Vc.gctx]at hm;rw[hm.1,hm.2];exact he
 |n+1,t,b,he=>fun t' b' hm=>by
  unfold Vc.gctx at hm;rcases List.mem_cons.1 hm with hm|hm
  . cases hm;exact he
  . have hs:=h.slots t;cases hd:st.S t with
    |cnd t1 b1 u=>
     rw[hd]at hs hm;rcases hs with⟨h1,_⟩ | ⟨_,h1⟩
     . exact h.gctx h1 t' b' hm
     . rw[he]at h1;exact absurd h1.symm (CJ b)
    |one _=>rw[hd]at hm;cases hm
    |tup _=>rw[hd]at hm;cases hm
    |dead=>rw[hd]at hm;cases hm
theorem Lq {v:SV} {e:Bool} {u:Value} (h:RS w Z B v u) (hb:FN v=some e):u= .bool e:=by
 unfold FN at hb;split at hb
 . cases hb;obtain⟨_,_,e1,h1,_⟩:=h;cases e1;simpa[RC,C6]using h1
 . cases hb
theorem C0.gval (h:C0 za w0 st E w Z B) {t:Tmp} {b e:Bool} (he:E t= .bool b) (hg:gval st t=some e):e=b:=by
 have hs:=h.slots t;unfold Vc.gval at hg;cases hd:st.S t with
 |one u=>rw[hd]at hs hg;have:=Lq hs hg;rw[he]at this;cases this;rfl
 |tup _=>rw[hd]at hg;cases hg
 |dead=>rw[hd]at hg;cases hg
 |cnd t' b' u=>
  rw[hd]at hs hg;rcases hs with⟨_,hs⟩ | ⟨_,hs⟩
  . have:=Lq hs hg;rw[he]at this;cases this;rfl
  . rw[he]at hs;exact absurd hs.symm (CJ b)
theorem C0.ctxP (h:C0 za w0 st E w Z B):∀ {ctx:Hq},P6 E ctx->ctxP st ctx
 | [],_=>trivial
 | (t,b)::r,hc=>by
  have ih:=h.ctxP (ctx:=r) fun t b hm=>hc t b (List.mem_cons_of_mem _ hm)
  cases hg:Vc.gval st t with
  |none=>simp only[Vc.ctxP,hg];exact ih
  |some e=>exact(JA hg).2 ⟨h.gval (hc t b (by simp)) hg,ih⟩
end
def explode:(t:Ty)->t.den->List C
 | .pair a b,x=>explode a x.1++explode b x.2
 | .unit,_=> []
 | .int k,x=> [.val (.int k) x]
 | .bool,x=> [.val .bool x]
 | .str,x=> [.val .str x]
 | .sl t,x=> [.val (.sl t) x]
 | .ptr t,x=> [.pf t x 0]
 | .mp ka kt va vt,x=> [.val (.mp ka kt va vt) x]
def MD (t:Ty):C->Option t.den
 | .val t' x=>if h:t'=t then some (h▸x)else none
 | .raw (.slice none 0 0)=>match t with
  | .sl _=>some []
  | _=>none
 | .raw (.map none)=>match t with
  | .mp _ _ _ _=>some []
  | _=>none
 | .pf t' x 0=>if h:Ty.ptr t'=t then some (h▸(show(Ty.ptr t').den from x))else none
 | _=>none
def Mj:(t:Ty)->List C->Option (t.den×List C)
 | .pair a b,cs=>(Mj a cs).bind fun x=>(Mj b x.2).map fun y=>((x.1,y.1),y.2)
 | .unit,cs=>some ((),cs)
 | .int k,c::r=>(MD (.int k) c).map fun x=>(x,r)
 | .bool,c::r=>(MD .bool c).map fun x=>(x,r)
 | .str,c::r=>(MD .str c).map fun x=>(x,r)
 | .sl t,c::r=>(MD (.sl t) c).map fun x=>(x,r)
 | .ptr t,c::r=>(MD (.ptr t) c).map fun x=>(x,r)
 | .mp ka kt va vt,c::r=>(MD (.mp ka kt va vt) c).map fun x=>(x,r)
 | _,_=>none
def Gq (agg:Bool) (t:Ty) (s:SV):Option t.den:=
 bif s.agg==agg then(match Mj t s.cs with|some (x,[])=>some x| _=>none)else none
section
variable {w:World} {Z:Nat->Prop} {B:Nat->Value} {n:Nat}
theorem Cf.append:∀ {cs cs':List C} {vs vs':List Value},Cf w Z B cs vs->Cf w Z B cs' vs'->Cf w Z B (cs++cs') (vs++vs')
 | [],_,_,_,h,h'=>by rw[show _= _ from h];exact h'
 | _:: _,_,_,vs',⟨v,vs1,e,h1,h2⟩,h'=>⟨v,vs1++vs',by rw[e];rfl,h1,Cf.append h2 h'⟩
theorem O2:∀ {t:Ty} {cs:List Value} {x:t.den},C6 t w Z cs x->Cf w Z B (explode t x) cs
 | .int k,_,_,h=>⟨_,[],h.1,⟨rfl,h.2⟩,rfl⟩
 | .bool,_,_,h=>⟨_,[],h,rfl,rfl⟩
 | .str,_,_,h=>⟨_,[],h,rfl,rfl⟩
 | .unit,_,_,h=>h
 | .pair a b,_,_,⟨c1,c2,e,h1,h2⟩=>by rw[e];exact(O2 h1).append (O2 h2)
 | .sl t,_,_,h=>by
  obtain⟨a,cap,e,r⟩:=h;exact⟨_,[],e,⟨a,cap,rfl,r⟩,rfl⟩
 | .ptr t,_,_,h=>by
  obtain⟨b,o,ec,e,r⟩:=h;exact⟨_,[],e,⟨b,o,ec,rfl,r⟩,rfl⟩
 | .mp ka kt va vt,_,_,h=>by
  rcases h with⟨e,h⟩ | ⟨b,es,cl,e,h⟩
  . exact⟨_,[],e, .inl ⟨rfl,h⟩,rfl⟩
  . exact⟨_,[],e, .inr ⟨b,es,cl,rfl,h⟩,rfl⟩
theorem D8:∀ {t:Ty} {x:t.den},∀c∈explode t x,Cd n c
 | .int k,_,c,h=>by simp[explode]at h;subst h;trivial
 | .bool,_,c,h=>by simp[explode]at h;subst h;trivial
 | .str,_,c,h=>by simp[explode]at h;subst h;trivial
 | .unit,_,c,h=>by simp[explode]at h
 | .pair a b,x,c,h=>by
  simp only[explode,List.mem_append]at h;rcases h with h|h
  . exact D8 c h
  . exact D8 c h
 | .sl t,_,c,h=>by simp[explode]at h;subst h;trivial
 | .ptr t,_,c,h=>by simp[explode]at h;subst h;trivial
 | .mp _ _ _ _,_,c,h=>by simp[explode]at h;subst h;trivial
theorem NJ {t:Ty} {c:C} {x:t.den} {v:Value} (h:RC w Z B c v) (ha:MD t c=some x):C6 t w Z [v] x:=by
 unfold MD at ha;split at ha
 . rename_i t' x';split at ha
   . rename_i e;subst e;cases ha;exact h
   . cases ha
 . split at ha
   . cases ha;rw[show v= _ from h.1];exact⟨none,0,rfl,Nat.le_refl _,Nat.zero_le _,fun _=>rfl, .inl rfl⟩
   . cases ha
 . split at ha
   . cases ha;rw[show v= _ from h.1];exact .inl ⟨rfl,rfl⟩
   . cases ha
 . rename_i t' x';split at ha
   . rename_i e;subst e;cases ha;obtain⟨b,o,ec,e,hb,hc,hr⟩:=h;exact⟨b,o,ec,by rw[e];rfl,hb,hc,hr⟩
   . cases ha
 . cases ha
theorem A2n:∀ {t:Ty} {cs r:List C} {vs:List Value} {x:t.den},Cf w Z B cs vs->Mj t cs=some (x,r)->∃v1 v2,vs=v1++v2/\C6 t w Z v1 x/\Cf w Z B r v2:=by
 have one:∀(t:Ty) {cs r:List C} {vs:List Value} {x:t.den} (c:C),Cf w Z B (c::cs) vs->(MD t c).map (fun x=>(x,cs))=some (x,r)->∃v1 v2,vs=v1++v2/\C6 t w Z v1 x/\Cf w Z B r v2:=by
  intro t cs r vs x c h hp;obtain⟨v,vs',e,h1,h2⟩:=h;cases ha:MD t c with
  |none=>simp[ha]at hp
  |some y=>
   simp[ha]at hp;obtain⟨rfl,rfl⟩:=hp;exact⟨[v],vs',e,NJ h1 ha,h2⟩
 intro t
 induction t with
 |pair a b iha ihb=>
  intro cs r vs x h hp;simp only[Mj]at hp;cases h1:Mj a cs with
  |none=>simp[h1]at hp
  |some y=>
   simp only[h1,Option.bind_some]at hp;cases h2:Mj b y.2 with
   |none=>simp[h2]at hp
   |some z=>
    simp[h2]at hp;obtain⟨rfl,rfl⟩:=hp;obtain⟨v1,v2,e,r1,r2⟩:=iha h (by rw[h1]);obtain⟨v3,v4,e',r3,r4⟩:=ihb r2 (by rw[h2]);exact⟨v1++v3,v4,by rw[e,e'];simp,⟨v1,v3,rfl,r1,r3⟩,r4⟩
 |unit=>intro cs r vs x h hp;simp[Mj]at hp;subst hp;exact⟨[],vs,rfl,rfl,h⟩
 |int k=>intro cs r vs x h hp;cases cs with
  |nil=>simp[Mj]at hp
  |cons c cs=>exact one _ c h hp
 |bool=>intro cs r vs x h hp;cases cs with
  |nil=>simp[Mj]at hp
  |cons c cs=>exact one _ c h hp
 |str=>intro cs r vs x h hp;cases cs with
  |nil=>simp[Mj]at hp
  |cons c cs=>exact one _ c h hp
 |sl t _=>intro cs r vs x h hp;cases cs with
  |nil=>simp[Mj]at hp
  |cons c cs=>exact one _ c h hp
 |ptr t _=>intro cs r vs x h hp;cases cs with
  |nil=>simp[Mj]at hp
  |cons c cs=>exact one _ c h hp
 |mp ka kt va vt _ _=>intro cs r vs x h hp;cases cs with
  |nil=>simp[Mj]at hp
  |cons c cs=>exact one _ c h hp
theorem Fq {t:Ty} {cs:List C} {vs:List Value} {x:t.den} (h:Cf w Z B cs vs) (hp:Mj t cs=some (x,[])):C6 t w Z vs x:=by
 obtain⟨v1,v2,e,h1,h2⟩:=A2n h hp;rw[show v2= []from h2,List.append_nil]at e;rw[e];exact h1
theorem Ax {a:Bool} {t:Ty} {s:SV} {v:Value} {x:t.den} (h:RS w Z B s v) (hp:Gq a t s=some x):X3 a t w Z v x:=by
 obtain⟨sa,cs⟩:=s;unfold Gq at hp;cases he:(sa==a)with
 |false=>simp[he]at hp
 |true=>
  simp only[he,cond_true]at hp;have:sa=a:=by simpa using he
  subst this;split at hp
  . rename_i y hy;cases hp;cases sa with
    |true=>obtain⟨vs,e,h⟩:=h;exact⟨vs,e,Fq h hy⟩
    |false=>exact Fq (vs:= [v]) h hy
  . cases hp
theorem X3.explode {a:Bool} {t:Ty} {v:Value} {x:t.den} (h:X3 a t w Z v x):RS w Z B ⟨a,explode t x⟩ v:=by
 cases a with
 |true=>obtain⟨cs,e,h⟩:=h;exact⟨cs,e,O2 h⟩
 |false=>exact O2 (cs:= [v]) h
theorem Cf.len:∀ {cs:List C} {vs:List Value},Cf w Z B cs vs->cs.length=vs.length
 | [],_,h=>by rw[show _= _ from h];rfl
 | _:: _,_,⟨v,vs',e,_,h2⟩=>by rw[e,List.length_cons,List.length_cons,Cf.len h2]
theorem Cf.drop:∀ {cs:List C} {vs:List Value} (i:Nat),Cf w Z B cs vs->Cf w Z B (cs.drop i) (vs.drop i)
 |cs,vs,0,h=>h
 | [],_,i+1,h=>by rw[show _= _ from h];simp;rfl
 | _:: _,_,i+1,⟨v,vs',e,_,h2⟩=>by rw[e];simp only[List.drop_succ_cons];exact Cf.drop i h2
theorem Cf.take:∀ {cs:List C} {vs:List Value} (i:Nat),Cf w Z B cs vs->Cf w Z B (cs.take i) (vs.take i)
 |cs,vs,0,h=>by simp;rfl
 | [],_,i+1,h=>by rw[show _= _ from h];simp;rfl
 | _:: _,_,i+1,⟨v,vs',e,h1,h2⟩=>by rw[e];simp only[List.take_succ_cons];exact⟨v,_,rfl,h1,Cf.take i h2⟩
end
def eY (op:BinOp) (k:IntKind) (a b:Int):Option (Option Prop×C):=
 match op with
 | .add=>some (none, .val (.int k) (k.wrap (a+b)))
 | .sub=>some (none, .val (.int k) (k.wrap (a-b)))
 | .mul=>some (none, .val (.int k) (k.wrap (a*b)))
 | .quo=>some (some (b≠0), .val (.int k) (k.wrap (a.tdiv b)))
 | .rem=>some (some (b≠0), .val (.int k) (a.tmod b))
 | .and=>some (none, .val (.int k) (k.wrap (BitVec.ofInt k.bits a&&&BitVec.ofInt k.bits b).toNat))
 | .or=>some (none, .val (.int k) (k.wrap (BitVec.ofInt k.bits a|||BitVec.ofInt k.bits b).toNat))
 | .xor=>some (none, .val (.int k) (k.wrap (BitVec.ofInt k.bits a^^^BitVec.ofInt k.bits b).toNat))
 | .eql=>some (none, .val .bool (decide (a=b)))
 | .neq=>some (none, .val .bool (decide (a≠b)))
 | .lss=>some (none, .val .bool (decide (a<b)))
 | .leq=>some (none, .val .bool (decide (a<=b)))
 | .gtr=>some (none, .val .bool (decide (b<a)))
 | .geq=>some (none, .val .bool (decide (b<=a)))
 | _=>none
def A6a (op:BinOp) (a b:ByteArray):Option (Option Prop×C):=match op with
 | .eql=>some (none, .val .bool (decide (a=b)))
 | .neq=>some (none, .val .bool (decide (a≠b)))
 | .add=>some (some (a.data.toList.length+b.data.toList.length<=9223372036854775807), .val .str (a++b))
 | _=>none
def A4g (op:BinOp):C->C->Option (Option Prop×C)
 | .val (.int k) a, .val (.int k') b=>
  match op with
  | .shl=>some (some (0<=b), .val (.int k) (k.wrap (a*2^(min b.toNat k.bits))))
  | .shr=>some (some (0<=b), .val (.int k) (a.fdiv (2^(min b.toNat k.bits))))
  |op=>bif decide (k=k')then eY op k a b else none
 | .val .bool a, .val .bool b=>
  match op with
  | .eql=>some (none, .val .bool (a==b))
  | .neq=>some (none, .val .bool (a !=b))
  | _=>none
 | .val .str a, .val .str b=>A6a op a b
 | _,_=>none
section
variable {za:Zn} {w0 w:World} {Z:Nat->Prop} {B:Nat->Value} {P:Program} {E:G3}
theorem A8f {ty:TypeId} {T T':TypeId} {x y:Operand} {a b:Bool} (hx:Gw.ev E x= .bool a) (hy:Gw.ev E y= .bool b) (hT:P.underlying T=some .bool):Gw.C8 P E ty (.binOp .eql T x y T') w (.bool (a==b)) w:=fun _ _ _ _=>by
 have h1:=run_equalIn_bool' (P:=P) w 9999 T a b hT;have hg:(eqGuard .eql T x y (.bool a) (.bool b)).run P w= .ok () w:=rfl;have h2:(binOp .eql T (.bool a) (.bool b)).run P w= .ok (.bool (a==b)) w:=by
  show((Op.equal T (.bool a) (.bool b))>>=fun r=>pure (Value.bool r)).run P w= _;unfold Op.equal Op.maxDepth;rw[Sem.run_bind,h1];rfl
 simp only[execOp,hx,hy];simp[hg,h2]
theorem oI {T:TypeId} (h:isB P T=true):P.underlying T=some .bool:=by
 unfold isB at h;split at h
 . assumption
 . cases h
theorem kR {op:BinOp} {k:IntKind} {a b:Int} {φ:Option Prop} {c:C} (h:eY op k a b=some (φ,c)) (hφ:CC φ) (ha:FX k a):∃v,(∀(w':World) (T:TypeId),(binOp op T (.int k a) (.int k b)).run P w'= .ok v w')/\RC w Z B c v/\∀n,Cd n c:=by
 cases op<;>simp only[eY,Option.some.injEq,Prod.mk.injEq,reduceCtorEq]at h<;>(try exact h.elim)<;>obtain⟨rfl,rfl⟩:=h
 case rem=>exact⟨_,fun w' T=>by simp[binOp,Op.intDiv,show b≠0 from hφ,go_sem],⟨rfl,A0p ha⟩,fun _=>trivial⟩
 case quo=>exact⟨_,fun w' T=>by simp[binOp,Op.intDiv,show b≠0 from hφ,go_sem],⟨rfl,Nr _ _⟩,fun _=>trivial⟩
 case add|sub|mul=>exact⟨_,fun w' T=>by simp[binOp,Op.intArith,go_sem],⟨rfl,Nr _ _⟩,fun _=>trivial⟩
 case and|or|xor=>exact⟨_,fun w' T=>by simp[binOp,Op.intBits,go_sem],⟨rfl,Nr _ _⟩,fun _=>trivial⟩
 all_goals exact⟨.bool _,fun w' T=>by simp[binOp,Op.intCmp,go_sem];try rfl,rfl,fun _=>trivial⟩
theorem gT {op:BinOp} {ty:TypeId} {T T':TypeId} {x y:Operand} {a b:ByteArray} {v:Value} (hx:Gw.ev E x= .string a) (hy:Gw.ev E y= .string b) (hv:(Op.stringOp op a b).run P w= .ok v w):Gw.C8 P E ty (.binOp op T x y T') w v w:=fun _ _ _ _=>by
 have hg:(eqGuard op T x y (.string a) (.string b)).run P w= .ok () w:=by cases op<;>rfl
 have h2:(binOp op T (.string a) (.string b)).run P w= .ok v w:=by cases op<;>exact hv
 simp only[execOp,hx,hy];simp[go_sem,hg,h2]
theorem jM (a b:ByteArray):(a.toList==b.toList)=decide (a=b):=by
 rw[ByteArray.toList_eq,ByteArray.toList_eq];by_cases h:a=b
 . subst h;simp
 . rw[decide_eq_false h];exact beq_eq_false_iff_ne.2 fun e=>h (ByteArray.ext (Array.toList_inj.1 e))
theorem A2z {op:BinOp} {a b:ByteArray} {x y:Operand} {c:C} {φ:Option Prop} {T T' ty:TypeId} (h:A6a op a b=some (φ,c)) (hφ:CC φ) (hx:Gw.ev E x= .string a) (hy:Gw.ev E y= .string b):∃v,(∀w',Gw.C8 P E ty (.binOp op T x y T') w' v w')/\RC w Z B c v/\∀n,Cd n c:=by
 unfold A6a at h;split at h
 . cases h;exact⟨_,fun w'=>gT hx hy (v:= .bool (a.toList==b.toList)) rfl,by rw[jM];rfl,fun _=>trivial⟩
 . cases h;exact⟨_,fun w'=>gT hx hy (v:= .bool (!(a.toList==b.toList))) rfl,by rw[jM,decide_not];rfl,fun _=>trivial⟩
 . cases h;have hs:¬((a.size+b.size:Nat):Int)>IntKind.i64.max:=by
    have h1:a.data.toList.length+b.data.toList.length<=9223372036854775807:=hφ;have h2:IntKind.i64.max=9223372036854775807:=by decide
    have h3:a.size=a.data.toList.length:=by rw[Array.length_toList];rfl
    have h4:b.size=b.data.toList.length:=by rw[Array.length_toList];rfl
    omega
   exact⟨.string (a++b),fun w'=>gT hx hy (by unfold Op.stringOp;simp only[hs,if_false];rfl),rfl,fun _=>trivial⟩
 . cases h
theorem A1j {op:BinOp} {x y:Operand} {cx cy c:C} {φ:Option Prop} {T T' ty:TypeId} (h:A4g op cx cy=some (φ,c)) (hφ:CC φ) (hx:RC w Z B cx (Gw.ev E x)) (hy:RC w Z B cy (Gw.ev E y)) (hT:isB P T=true\/∀e,cx≠ .val .bool e):
 ∃v,(∀w',Gw.C8 P E ty (.binOp op T x y T') w' v w')/\RC w Z B c v/\∀n,Cd n c:=by
 unfold A4g at h;split at h
 . rename_i k a k' b;obtain⟨hx,ha⟩:=hx;obtain⟨hy,hb⟩:=hy;simp only[List.cons.injEq,and_true]at hx hy;split at h
   . cases h;have hb0:¬b<0:=Int.not_lt.2 hφ;have hv:∀w',Gw.C8 P E ty (.binOp .shl T x y T') w' (.int k (k.wrap (a*2^(min b.toNat k.bits)))) w':=fun w'=>A0w hx hy (by simp[binOp,Op.shift,hb0,go_sem])
     exact⟨_,hv,⟨rfl,Nr _ _⟩,fun _=>trivial⟩
   . cases h;have hb0:¬b<0:=Int.not_lt.2 hφ;have hv:∀w',Gw.C8 P E ty (.binOp .shr T x y T') w' (.int k (a.fdiv (2^(min b.toNat k.bits)))) w':=fun w'=>A0w hx hy (by simp[binOp,Op.shift,hb0,go_sem])
     exact⟨_,hv,⟨rfl,nQ _ ha⟩,fun _=>trivial⟩
   . cases hk:decide (k=k')with
     |false=>simp[hk]at h
     |true=>
      simp only[hk,cond_true]at h;have:=of_decide_eq_true hk;subst this;obtain⟨v,h1,h2⟩:=kR (P:=P) (w:=w) (Z:=Z) (B:=B) h hφ ha;exact⟨v,fun w'=>A0w hx hy (h1 w' T),h2⟩
 . rename_i a b;have hx:Gw.ev E x= .bool a:=by simpa[RC,C6]using hx
   have hy:Gw.ev E y= .bool b:=by simpa[RC,C6]using hy
   have hu:P.underlying T=some .bool:=by
    rcases hT with hT|hT
    . exact oI hT
    . exact absurd rfl (hT a)
   split at h
   . cases h;exact⟨_,fun w'=>A8f hx hy hu,rfl,fun _=>trivial⟩
   . cases h;exact⟨_,fun w'=>A8h hx hy hu,rfl,fun _=>trivial⟩
   . cases h
 . exact A2z h hφ (by simpa[RC,C6]using hx) (by simpa[RC,C6]using hy)
 . cases h
end
structure Cx where
 P:Program
 tys:List (Nat×TI)
def Ah {α:Type} (s:Nat):List (Nat×α)->Option α
 | []=>none
 | (t,x)::l=>bif Nat.beq t s then some x else Ah s l
def Cx.ti (cx:Cx) (T:TypeId):Option TI:=Ah T cx.tys
def G9 (P:Program):List (Nat×TI)->Bool
 | []=>true
 | (T,ti)::l=>Ui P T ti&&G9 P l
theorem B4 {P:Program} :∀ {l:List (Nat×TI)},G9 P l=true->∀ {T:TypeId} {ti:TI},Ah T l=some ti->Ui P T ti=true
 | (T',ti')::l,h,T,ti,hf=>by
  simp only[G9,Bool.and_eq_true]at h;simp only[Ah]at hf;cases hb:Nat.beq T' T with
  |true=>simp[hb]at hf;have:=Nat.eq_of_beq_eq_true hb;subst hf this;exact h.1
  |false=>simp[hb]at hf;exact B4 h.2 hf
def c1:SV->Option C
 | ⟨false,[c]⟩=>some c
 | _=>none
def faC (off:Nat):C->Option C
 | .box k o=>some (.box k (o+off))
 | .elp k sz i o=>some (.elp k sz i (o+off))
 | .pf t x o=>some (.pf t x (o+off))
 | _=>none
def cut (off n:Nat) (cs:List C):Option (List C):=(fun s=>bif Nat.beq s.length n then some s else none) ((cs.drop off).take n)
def CB (q:Nat):List (Nat×Nat)->Option Nat
 | []=>none
 | (i,p)::r=>bif Nat.beq p q then some i else CB q r
def A2q (st:St) (k:Nat):Option ((t:Ty)×List t.den):=match st.L k with
 | .row t _ l=>some ⟨t,l⟩
 | .al j=>match st.L j with
  | .rows t _ _ ls al none=>(CB k al).map fun i=>⟨t,ls.getD i []⟩
  | _=>none
 | _=>none
def hdC (st:St) (k:Nat):Option ((t:Ty)×List t.den):=match st.L k with
 | .rows t _ _ ls _ _=>some ⟨.sl t,ls⟩
 | .nest t _ _ ls _ _=>bif Nat.beq t.size 1 then some ⟨t,ls⟩else none
 | _=>A2q st k
def iO (st:St) (n:Nat):C->Option (List C)
 | .box k off=>match st.L k with
  | .box _ cs=>cut off n cs
  | .sbox q t x=>bif Nat.beq q k then cut off n (explode t x)else none
  | _=>none
 | .pf t x off=>cut off n (explode t x)
 | .elp k sz i off=>match A2q st k with
  |some ⟨t,l⟩=>bif Nat.beq sz t.size then cut off n (explode t (l.getD i t.dflt))else none
  |none=>none
 | _=>none
def gx {α:Type} (d:α) (l:List α) (i:Int):α:=l.getD i.toNat d
def A4x (st:St) (i:Int):C->Option (Option Prop×C)
 | .val (.sl t) l=>some (some (0<=i/\i<(l.length:Int)), .pf t (gx t.dflt l i) 0)
 | .row k=>match hdC st k with
  |some ⟨t,l⟩=>some (some (0<=i/\i<(l.length:Int)), .elp k t.size i.toNat 0)
  |none=>none
 | .win k sz lo hi=>some (some (0<=i/\i<hi-lo), .elp k sz (lo+i).toNat 0)
 | _=>none
def A1z (st:St):C->Option Int
 | .val (.sl _) l=>some (l.length:Int)
 | .row k=>match hdC st k with
  |some ⟨_,l⟩=>some (l.length:Int)
  |none=>none
 | .mp k=>match st.L k with
  | .map _ _ _ _ es=>some (es.length:Int)
  | _=>none
 | .raw (.slice none 0 0)=>some 0
 | .win _ _ lo hi=>some (hi-lo)
 | .val .str s=>some (s.data.toList.length:Int)
 | _=>none
def JH:SV->Option Int
 | ⟨false,[.val (.int _) n]⟩=>some n
 | _=>none
def gC (st:St) (lo hi:Option Int):C->Option (Option Prop×C)
 | .val (.sl t) l=>some (some (0<=lo.getD 0/\lo.getD 0<=hi.getD (l.length:Int)/\hi.getD (l.length:Int)<=(l.length:Int)), .val (.sl t) ((l.take (hi.getD (l.length:Int)).toNat).drop (lo.getD 0).toNat))
 | .row k=>match st.L k with
  | .row t _ l=>some (some (0<=lo.getD 0/\lo.getD 0<=hi.getD (l.length:Int)/\hi.getD (l.length:Int)<=(l.length:Int)), .win k t.size (lo.getD 0) (hi.getD (l.length:Int)))
  | _=>none
 | _=>none
def fH:Op->Bool
 | .load _ _=>true
 | .lookup _ _ _ _=>true
 | _=>false
section
variable {za:Zn} {w0 w:World} {Z:Nat->Prop} {B:Nat->Value} {st:St} {E:G3} {P:Program}
def Vz (P:Program) (st:St) (E:G3) (w:World) (Z:Nat->Prop) (B:Nat->Value) (ty:TypeId) (op:Op) (d:DV):Prop:=
 ∃v,(∀w',(fH op=true->R2 w w')->Gw.C8 P E ty op w' v w')/\(∀E',RD w Z B E' d v)/\GV st.nx d
theorem Ew {ty:TypeId} {op:Op} {c:C} {v:Value} (hy:∀w',(fH op=true->R2 w w')->Gw.C8 P E ty op w' v w') (hc:RC w Z B c v) (hr:Cd st.nx c):Vz P st E w Z B ty op (.one ⟨false,[c]⟩):=
 ⟨v,hy,fun _=>⟨v,[],rfl,hc,rfl⟩,fun c' hc'=>by simp at hc';subst hc';exact hr⟩
theorem aF {s:SV} {c:C} {v:Value} (h:RS w Z B s v) (hr:Mm st.nx s) (hc:c1 s=some c):RC w Z B c v/\Cd st.nx c:=by
 unfold c1 at hc;split at hc
 . cases hc;obtain⟨_,_,e,h1,_⟩:=h;cases e;exact⟨h1,hr _ (by simp)⟩
 . cases hc
theorem iH {s:SV} {n:Int} {v:Value} (h:RS w Z B s v) (hc:JH s=some n):∃k,v= .int k n/\FX k n:=by
 unfold JH at hc;split at hc
 . cases hc;obtain⟨_,_,e,h1,_⟩:=h;cases e;obtain⟨h1,h2⟩:=h1;simp only[List.cons.injEq,and_true]at h1;exact⟨_,h1,h2⟩
 . cases hc
theorem A6x {T ty:TypeId} {x:Operand} {c c':C} {f off:Nat} (hf:JD P T f off=true) (hx:RC w Z B c (Gw.ev E x)) (hr:Cd st.nx c) (h:faC off c=some c'):Vz P st E w Z B ty (.fieldAddr T x f) (.one ⟨false,[c']⟩):=by
 unfold faC at h;split at h<;>cases h
 . obtain⟨b,e,hv⟩:=hx;exact Ew (fun w' _=>Zd hv hf) ⟨b,e,rfl⟩ hr
 . obtain⟨b,m,cap,e,hi,hv⟩:=hx;exact Ew (fun w' _=>Zd hv hf) ⟨b,m,cap,e,hi,by rw[Nat.add_assoc]⟩ hr
 . obtain⟨b,o,ec,e,hz,hc,hx⟩:=hx;exact Ew (fun w' _=>Zd e hf) ⟨b,o,ec,by rw[Nat.add_assoc],hz,hc,hx⟩ hr
theorem Td {cs cs':List C} {vs:List Value} {off n:Nat} (h:Cf w Z B cs vs) (hc:cut off n cs=some cs'):Cf w Z B cs' ((vs.drop off).take n)/\((vs.drop off).take n).length=n/\∀c∈cs',c∈cs:=by
 unfold cut at hc;have h1:=(h.drop off).take n;cases hb:Nat.beq ((cs.drop off).take n).length n with
 |false=>simp only[hb,cond_false]at hc;cases hc
 |true=>
  simp only[hb,cond_true,Option.some.injEq]at hc;subst hc;exact⟨h1,by rw[<-h1.len];exact Nat.eq_of_beq_eq_true hb,fun c hc=>List.mem_of_mem_drop (List.mem_of_mem_take hc)⟩
theorem iP {T ty:TypeId} {x:Operand} {b o:Nat} {vs:List Value} {agg:Bool} (hv:Gw.ev E x= .pointer (some ⟨b,o,none⟩)) (hc:K0 w ⟨b,o,none⟩ vs)
 (ht:(agg=true/\SZ P T vs.length=true)\/(agg=false/\S7 P T=true/\vs.length=1)):∃v,(∀w',w'.heap[b]? =w.heap[b]?->Gw.C8 P E ty (.load T x) w' v w')/\((agg=true/\v= .agg vs.toArray)\/(agg=false/\vs= [v])):=by
 have hc':∀w':World,w'.heap[b]? =w.heap[b]?->K0 w' ⟨b,o,none⟩ vs:=fun w' hx j v hj=>by
  have:=hc j v hj;rw[L4]at this⊢;rw[<-this];exact World.cell?_of_block hx
 rcases ht with⟨rfl,ht⟩ | ⟨rfl,ht,hl⟩
 . exact⟨.agg vs.toArray,fun w' hx=>gS hv ht rfl (hc' w' hx), .inl ⟨rfl,rfl⟩⟩
 . match vs,hl with
   | [v],_=>
    refine⟨v,fun w' hx=>SP hv ht ?_, .inr ⟨rfl,rfl⟩⟩;have:=hc' w' hx 0 v rfl;rwa[L4]at this
theorem GA {T ty:TypeId} {x:Operand} {b o:Nat} {cs:List C} {vs:List Value} {agg:Bool} (hv:Gw.ev E x= .pointer (some ⟨b,o,none⟩)) (hb:b<w.heap.size) (hc:K0 w ⟨b,o,none⟩ vs) (hr:Cf w Z B cs vs) (hn:∀c∈cs,Cd st.nx c)
 (ht:(agg=true/\SZ P T vs.length=true)\/(agg=false/\S7 P T=true/\vs.length=1)):Vz P st E w Z B ty (.load T x) (.one ⟨agg,cs⟩):=by
 obtain⟨v,h1,h2⟩:=iP (ty:=ty) hv hc ht;refine⟨v,fun w' hx=>h1 w' ((hx rfl).block b hb), ?_,hn⟩;rcases h2 with⟨rfl,rfl⟩ | ⟨rfl,rfl⟩
 . exact fun _=>⟨vs,rfl,hr⟩
 . exact fun _=>hr
theorem Lh {q i:Nat} :∀ {al:List (Nat×Nat)},CB q al=some i->(i,q)∈al
 | [],h=>by cases h
 | (j,p)::r,h=>by
  simp only[CB]at h;cases hb:Nat.beq p q with
  |true=>simp only[hb,cond_true,Option.some.injEq]at h;have:=Nat.eq_of_beq_eq_true hb;subst this;subst h;simp
  |false=>simp only[hb,cond_false]at h;exact List.mem_cons_of_mem _ (Lh h)
theorem YY {U:Nat->Prop} {t:Ty} {k e e' i q:Nat} {ls:List (List t.den)} {al:List (Nat×Nat)} (h:RL U w Z B k (.rows t e e' ls al none)) (hq:CB q al=some i):
 ∃xs ys,w.ownsRow 0 e 1 (B k) ls.length xs/\AtV xs i (B q)/\w.ownsRow 0 e' t.size (B q) (ls.getD i []).length ys/\G4 (C6 t w Z) ys (ls.getD i []):=by
 obtain⟨xs,h1,⟨h2,h3,h4⟩,h5,h6⟩:=h;rcases h2 _ (Lh hq)with hx| ⟨hle,hn⟩
 case inr=>
  have h0:=h1.1;rw[List.getD_eq_getElem?_getD,List.getElem?_eq_none (by simp only at hle;omega)];refine⟨xs,[],h1, .inr ⟨hle,hn⟩, ?_,rfl⟩;simp only at hn;rw[hn];exact World.ownsRow_nil _ _ _ _
 have hil:i<ls.length:=by have:=(List.getElem?_eq_some_iff.1 hx).1;have h0:=h1.1;omega
 have hls:ls[i]? =some (ls.getD i []):=by rw[List.getD_eq_getElem?_getD,List.getElem?_eq_getElem hil];rfl
 obtain⟨ys,g1,g2⟩:=h3 i _ _ rfl hls hx;exact⟨xs,ys,h1, .inl hx,g1,g2⟩
theorem YX (h:C0 za w0 st E w Z B) {k:Nat} {t:Ty} {l:List t.den} (hr:A2q st k=some ⟨t,l⟩):∃e xs,w.ownsRow 0 e t.size (B k) l.length xs/\G4 (C6 t w Z) xs l:=by
 unfold A2q at hr;split at hr
 . rename_i t' e l' hk;cases hr;have hL:=h.locs k;rw[hk]at hL;obtain⟨xs,hown,heach,_⟩:=hL;exact⟨e,xs,hown,heach⟩
 . rename_i j hk;split at hr
   . rename_i t' e e' ls al hj;simp only[Option.map_eq_some_iff]at hr;obtain⟨i,hi,hr⟩:=hr;cases hr;have hL:=h.locs j;rw[hj]at hL;obtain⟨_,ys,_,_,g1,g2⟩:=YY hL hi;exact⟨e',ys,g1,g2⟩
   . cases hr
 . cases hr
theorem nZ (h:C0 za w0 st E w Z B) {k:Nat} {t:Ty} {l:List t.den} (hr:hdC st k=some ⟨t,l⟩):∃e xs,w.ownsRow 0 e t.size (B k) l.length xs:=by
 unfold hdC at hr;split at hr
 . rename_i t' e e' ls al ho hk;cases hr;have hL:=h.locs k;rw[hk]at hL;obtain⟨xs,hown,_⟩:=hL;exact⟨e,xs,hown⟩
 . rename_i t' e e' ls bo dd hk;cases hb:Nat.beq t'.size 1 with
   |false=>simp only[hb,cond_false]at hr;cases hr
   |true=>
    simp only[hb,cond_true]at hr;cases hr;have hL:=h.locs k;rw[hk]at hL;obtain⟨xs,hN,_⟩:=hL;exact⟨e,xs,by rw[Nat.eq_of_beq_eq_true hb];exact hN.own⟩
 . obtain⟨e,xs,hown,_⟩:=YX h hr;exact⟨e,xs,hown⟩
theorem A2c (h:C0 za w0 st E w Z B) {T ty:TypeId} {x:Operand} {c:C} {cs:List C} {n:Nat} {agg:Bool} (hx:RC w Z B c (Gw.ev E x)) (hl:iO st n c=some cs)
 (ht:(agg=true/\SZ P T n=true)\/(agg=false/\S7 P T=true/\n=1)):Vz P st E w Z B ty (.load T x) (.one ⟨agg,cs⟩):=by
 unfold iO at hl;split at hl
 . rename_i k off;split at hl
   . rename_i ty' cs0 hk;have hL:=h.locs k;have hR:=h.refl k;rw[hk]at hL hR;obtain⟨b,vs,e,_,_,hblk,hcs⟩:=hL;obtain⟨b',e',hv⟩:=hx;rw[e]at e';cases e';obtain⟨h1,h2,h3⟩:=Td hcs hl;have:=M8 hblk.cellsAt off n;rw[Nat.zero_add]at this;exact GA hv hblk.lt this h1 (fun c hc=>hR c (h3 c hc)) (by rw[h2];exact ht)
   . rename_i q t y hk;cases hqk:Nat.beq q k with
     |false=>simp only[hqk,cond_false]at hl;cases hl
     |true=>
      simp only[hqk,cond_true]at hl;have:=Nat.eq_of_beq_eq_true hqk;subst this;have hL:=h.locs q;rw[hk]at hL;obtain⟨_,⟨b,o,ec,e1,hz,hc,hrep⟩,_⟩:=hL;simp only[List.cons.injEq,and_true]at e1;obtain⟨b',e',hv⟩:=hx;rw[e1]at e';cases e';obtain⟨h1,h2,h3⟩:=Td (O2 (B:=B) hrep) hl;have hcs:=M8 hc off n;rw[Nat.zero_add]at hcs;exact GA hv (h.zlt _ hz) hcs h1 (fun c hc=>D8 c (h3 c hc)) (by rw[h2];exact ht)
   . cases hl
 . rename_i t y off;obtain⟨b,o,ec,hv,hz,hc,hrep⟩:=hx;obtain⟨h1,h2,h3⟩:=Td (O2 (B:=B) hrep) hl;exact GA hv (h.zlt b hz) (M8 hc off n) h1 (fun c hc=>D8 c (h3 c hc)) (by rw[h2];exact ht)
 . rename_i k sz i off;split at hl
   . rename_i t l hk;cases hsz:Nat.beq sz t.size with
     |false=>simp[hsz]at hl
     |true=>
      simp only[hsz,cond_true]at hl;have hs:=Nat.eq_of_beq_eq_true hsz;subst hs;obtain⟨e,xs,hown,heach⟩:=YX h hk;obtain⟨b,m,cap,hB,hi,hv⟩:=hx;rw[hB]at hown;have hm:m=l.length:=by
       rcases hown.2 with⟨hh,_⟩ | ⟨_,_,_,hh,_⟩<;>cases hh
       rfl
      subst hm;have hget:=G4.get (fun _ _ h=>C6.length h) heach (List.getElem?_eq_getElem hi);have hgd:l.getD i t.dflt=l[i]:=by rw[List.getD_eq_getElem?_getD,List.getElem?_eq_getElem hi];rfl
      rw[hgd]at hl;obtain⟨h1,h2,h3⟩:=Td (O2 (B:=B) hget) hl;have hblt:=(World.ownsRow.lt hown b rfl).2;have hcells:K0 w ⟨b,0,none⟩ xs:=fun j v hj=>by
       rcases hown.2 with⟨hh,_⟩ | ⟨g,cap',cur,hh,_,hg,_,_,_,htk⟩
       . cases hh
       . cases hh;rw[L4,Nat.zero_add];simp only[World.cell?,hg];rw[<-htk,List.getElem?_take]at hj;split at hj
         . simpa using hj
         . cases hj
      have hsub:=M8 (M8 hcells (i*t.size) t.size) off n;rw[Nat.zero_add]at hsub;exact GA hv hblt hsub h1 (fun c hc=>D8 c (h3 c hc)) (by rw[h2];exact ht)
   . cases hl
 . cases hl
theorem S5 {α:Type} {d:α} {l:List α} {i:Int} (h0:0<=i) (h1:i<(l.length:Int)):l[i.toNat]? =some (gx d l i):=by
 have hlt:i.toNat<l.length:=by omega
 rw[gx,List.getD_eq_getElem?_getD,List.getElem?_eq_getElem hlt];rfl
theorem oD (h:C0 za w0 st E w Z B) {T ty e:TypeId} {x ix:Operand} {c c':C} {i:Int} {φ:Option Prop} {kd:IntKind} (hx:RC w Z B c (Gw.ev E x)) (hi':Gw.ev E ix= .int kd i) (hc:A4x st i c=some (φ,c')) (hφ:CC φ)
 (hT:∀s,(∃t y,c'= .pf t y 0/\s=t.size)\/(∃k j,c'= .elp k s j 0)->Aq P T e s=true) (hr:Cd st.nx c):Vz P st E w Z B ty (.indexAddr T x ix) (.one ⟨false,[c']⟩):=by
 unfold A4x at hc;split at hc
 . rename_i t l;cases hc;obtain⟨h0,h1⟩:=hφ;have hsl:=hT t.size (.inl ⟨t,_,rfl,rfl⟩);obtain⟨a,cap,he,hcap,hmx,hnn,hh⟩:=hx;simp only[List.cons.injEq,and_true]at he;have hg:=S5 (d:=t.dflt) h0 h1;rcases hh with hh| ⟨b,o,ec,ha,hz,hcells,heach⟩
   . subst hh;simp at h1;omega
   . subst ha;have hget:=G4.get (fun _ _ h=>C6.length h) heach hg;refine Ew (v:= .pointer (some ⟨b,o+i.toNat*t.size+0,none⟩)) (fun w' _=> ?_) ⟨b,o+i.toNat*t.size,_,rfl,hz,M8 hcells _ t.size,hget⟩ trivial;have:=jU (P:=P) (w:=w') (ty:=ty) (sz:=t.size) he hi' hsl h0 h1;rwa[L4]at this
 . rename_i k;split at hc
   . rename_i t l hk;cases hc;obtain⟨h0,h1⟩:=hφ;have hsl:=hT t.size (.inr ⟨_,_,rfl⟩);obtain⟨e',xs,hown⟩:=nZ h hk;rcases hown.2 with⟨_,hn⟩ | ⟨g,cap,cur,hB,_⟩
     . rw[hn]at h1;omega
     . have hxv:Gw.ev E x= .slice (some ⟨g,0,none⟩) l.length cap:=(show Gw.ev E x=B k from hx).trans hB;refine Ew (v:= .pointer (some ⟨g,i.toNat*t.size+0,none⟩)) (fun w' _=> ?_) ⟨g,l.length,cap,hB,by omega,rfl⟩ hr;have:=jU (P:=P) (w:=w') (ty:=ty) (sz:=t.size) hxv hi' hsl h0 h1;rwa[L4,Nat.zero_add]at this
   . cases hc
 . rename_i k sz lo hi;cases hc;obtain⟨h0,h1⟩:=hφ;have hsl:=hT sz (.inr ⟨_,_,rfl⟩);obtain⟨a,n,cap,hB,ga,gn,g0,g1,g2,g3,g4,hv⟩:=hx;have hne:¬cap=lo.toNat:=by omega
   rw[if_neg hne]at hv;obtain⟨g,rfl⟩:∃g,a=some ⟨g,0,none⟩:=by
    cases a with
    |none=>have:=gn rfl;omega
    |some x=>obtain⟨g,rfl⟩:=ga x rfl;exact⟨g,rfl⟩
   have hxv:Gw.ev E x= .slice (some ⟨g,lo.toNat*sz,none⟩) (hi.toNat-lo.toNat) (cap-lo.toNat):=by
    rw[hv,Option.map_some,L4,Nat.zero_add]
   refine Ew (v:= .pointer (some ⟨g,(lo+i).toNat*sz+0,none⟩)) (fun w' _=> ?_) ⟨g,n,cap,hB,by omega,rfl⟩ hr;have:=jU (P:=P) (w:=w') (ty:=ty) (sz:=sz) hxv hi' hsl h0 (by omega);rw[L4]at this;rw[show(lo+i).toNat*sz+0=lo.toNat*sz+i.toNat*sz by rw[<-Nat.add_mul,show(lo+i).toNat=lo.toNat+i.toNat by omega,Nat.add_zero]];exact this
 . cases hc
theorem A5f (h:C0 za w0 st E w Z B) {T ty e:TypeId} {s:Nat} {x:Operand} {c:C} {n:Int} (hx:RC w Z B c (Gw.ev E x)) (hn:A1z st c=some n) (ht:Aq P T e s=true) (hnm:∀k,c≠ .mp k) (hns:∀s,c≠ .val .str s):
 Vz P st E w Z B ty (.call ⟨.builtin .len, #[x], #[T]⟩) (.one ⟨false,[.val (.int .i64) n]⟩):=by
 have mk:∀(a:Option Addr) (m cap:Nat),Gw.ev E x= .slice a m cap->m<=maxLen->Vz P st E w Z B ty (.call ⟨.builtin .len, #[x], #[T]⟩) (.one ⟨false,[.val (.int .i64) (m:Int)]⟩):=fun a m cap hv hm=>
  Ew (fun w' _=>A3y hv ht) ⟨rfl,by
   unfold FX;have h1:IntKind.i64.min= -9223372036854775808:=by decide
   have h2:IntKind.i64.max=9223372036854775807:=by decide
   simp only[maxLen]at hm;omega⟩ trivial
 unfold A1z at hn;split at hn
 . cases hn;obtain⟨a,cap,he,hcap,hmx,_⟩:=hx;simp only[List.cons.injEq,and_true]at he;exact mk a _ cap he (Nat.le_trans hcap hmx)
 . rename_i k;split at hn
   . rename_i t l hk;cases hn;obtain⟨e',xs,hown⟩:=nZ h hk;have hx:Gw.ev E x=B k:=hx;rcases hown.2 with⟨hv,hn⟩ | ⟨g,cap,cur,hB,_,_,h3,h4,_⟩
     . rw[hn];exact mk none 0 0 (hx.trans hv) (Nat.zero_le _)
     . exact mk _ _ cap (hx.trans hB) (Nat.le_trans h3 h4)
   . cases hn
 . exact absurd rfl (hnm _)
 . cases hn;exact mk none 0 0 (show _= _ from hx.1) (Nat.zero_le _)
 . rename_i k sz lo hi;cases hn;obtain⟨a,n,cap,hB,ga,gn,g0,g1,g2,g3,g4,hv⟩:=hx;have:=mk _ _ _ hv (by omega);rwa[show((hi.toNat-lo.toNat:Nat):Int)=hi-lo by omega]at this
 . exact absurd rfl (hns _)
 . cases hn
end
section
variable {za:Zn} {w0 w:World} {Z:Nat->Prop} {B:Nat->Value} {st:St} {E:G3} {P:Program}
theorem jV {T e ty:TypeId} {x:Operand} {lo hi:Option Operand} {a:Option Addr} {len cap size l h:Nat} (hx:Gw.ev E x= .slice a len cap) (ht:Aq P T e size=true)
 (hlo:match lo with|none=>l=0|some o=>∃k,Gw.ev E o= .int k (l:Int)) (hhi:match hi with|none=>h=len|some o=>∃k,Gw.ev E o= .int k (h:Int)) (hlh:l<=h) (hhc:h<=cap) (w:World):
 Gw.C8 P E ty (.slice T x lo hi none) w (.slice (if cap=l then a else a.map (·.add (l*size))) (h-l) (cap-l)) w:=fun _ _ _ _=>by
 obtain⟨hu,hz⟩:=Iu ht;have h3:=Gw.Co (P:=P) (w:=w) hz;have b1:(l:Int)<=(h:Int):=by omega
 have b2:(h:Int)<=(cap:Int):=by omega
 have hb:(Instr.sliceBounds true len cap (lo.map (Gw.ev E)) (hi.map (Gw.ev E)) none).run P w= .ok (l,h,cap) w:=by
  unfold Instr.sliceBounds;cases hi with
  |none=>
   simp only at hhi;subst hhi;cases lo with
   |none=>simp only at hlo;subst hlo;simp[go_sem]
   |some o=>obtain⟨k,ho⟩:=hlo;simp[Instr.sliceBound,asIntOf,ho,b1,hlh,go_sem]
  |some o'=>
   obtain⟨k',ho'⟩:=hhi;cases lo with
   |none=>simp only at hlo;subst hlo;simp[Instr.sliceBound,asIntOf,ho',b2,hhc,go_sem]
   |some o=>obtain⟨k,ho⟩:=hlo;simp[Instr.sliceBound,asIntOf,ho,ho',b1,b2,hlh,hhc,go_sem]
 simp only[execOp,hx];unfold Instr.sliceAt Instr.slice;simp only[Sem.run_bind,run_underlying hu,Result.andThen_ok,Option.map_none,hb,h3,Sem.run_pure]
def mT (E:G3):Option Operand->Option Int->Prop
 |none,i=>i=none
 |some o,i=>∃k j,i=some j/\Gw.ev E o= .int k j
theorem jB {t:Ty} {a:Option Addr} {n cap:Nat} {l:List t.den} {L H:Int} (h:C6 (.sl t) w Z [.slice a n cap] l) (h0:0<=L) (h1:L<=H) (h2:H<=(n:Int)):
 C6 (.sl t) w Z [.slice (if cap=L.toNat then a else a.map (·.add (L.toNat*t.size))) (H.toNat-L.toNat) (cap-L.toNat)] ((l.take H.toNat).drop L.toNat):=by
 obtain⟨a',cap',he,hcap,hmx,hnn,hh⟩:=h;simp only[List.cons.injEq,and_true,Value.slice.injEq]at he;obtain⟨rfl,rfl,rfl⟩:=he;have hl2:((l.take H.toNat).drop L.toNat).length=H.toNat-L.toNat:=by simp;omega
 refine⟨_,_,by rw[hl2],by rw[hl2];omega,by omega,fun hz=> ?_, ?_⟩
 . split at hz
   . omega
   . have:=hnn (by simpa using hz);omega
 by_cases hemp:H.toNat=L.toNat
 . left;exact List.eq_nil_of_length_eq_zero (by rw[hl2];omega)
 . right;rcases hh with hh| ⟨b,o,ec,ha,hz,hcells,heach⟩
   . subst hh;simp at h2;omega
   . subst ha;have e1:=G4.drop (fun _ _ h=>C6.length h) L.toNat (G4.take (fun _ _ h=>C6.length h) H.toNat heach);refine⟨b,o+L.toNat*t.size,(ec.take (H.toNat*t.size)).drop (L.toNat*t.size), ?_,hz, ?_,e1⟩
     . rw[if_neg (by omega),Option.map_some,L4]
     . have hx1:=M8 hcells 0 (H.toNat*t.size);rw[List.drop_zero,Nat.add_zero]at hx1;have hx2:=M8 hx1 (L.toNat*t.size) ((ec.take (H.toNat*t.size)).drop (L.toNat*t.size)).length;rwa[List.take_length]at hx2
theorem dD (h:C0 za w0 st E w Z B) {T ty e:TypeId} {x:Operand} {lo hi:Option Operand} {loI hiI:Option Int} {c c':C} {φ:Option Prop} (hx:RC w Z B c (Gw.ev E x)) (hc:gC st loI hiI c=some (φ,c')) (hr:Cd st.nx c) (hφ:CC φ)
 (hlo:mT E lo loI) (hhi:mT E hi hiI)
 (ht:∀s,(∃t y,c'= .val (.sl t) y/\s=t.size)\/(∃k lo hi,c'= .win k s lo hi)->Aq P T e s=true):Vz P st E w Z B ty (.slice T x lo hi none) (.one ⟨false,[c']⟩):=by
 unfold gC at hc;split at hc
 . rename_i t l;cases hc;have hsl:=ht t.size (.inl ⟨t,_,rfl,rfl⟩);obtain⟨h0,h1,h2⟩:=hφ;obtain⟨a,cap,he,hcap,hmx,hnn,hh⟩:=hx;simp only[List.cons.injEq,and_true]at he;generalize hL:loI.getD 0=L at*;generalize hH:hiI.getD (l.length:Int)=H at*;have hl2:((l.take H.toNat).drop L.toNat).length=H.toNat-L.toNat:=by simp;omega
   refine Ew (fun w' _=>jV (l:=L.toNat) (h:=H.toNat) he hsl ?_ ?_ (by omega) (by omega) w') ?_ trivial
   . cases lo with
     |none=>rw[show loI=none from hlo]at hL;simp at hL;simp only;omega
     |some o=>obtain⟨k,i,e1,e2⟩:=hlo;subst e1;simp at hL;subst hL;exact⟨k,by rw[e2];congr 1;omega⟩
   . cases hi with
     |none=>rw[show hiI=none from hhi]at hH;simp at hH;simp only;omega
     |some o=>obtain⟨k,i,e1,e2⟩:=hhi;subst e1;simp at hH;subst hH;exact⟨k,by rw[e2];congr 1;omega⟩
   . refine⟨_,_,by rw[hl2],by rw[hl2];omega,by omega,fun hz=> ?_, ?_⟩
     . split at hz
       . omega
       . have:=hnn (by simpa using hz);omega
     by_cases hemp:H.toNat=L.toNat
     . left;exact List.eq_nil_of_length_eq_zero (by rw[hl2];omega)
     . right;rcases hh with hh| ⟨b,o,ec,ha,hz,hcells,heach⟩
       . subst hh;simp at h2;omega
       . subst ha;have e1:=G4.drop (fun _ _ h=>C6.length h) L.toNat (G4.take (fun _ _ h=>C6.length h) H.toNat heach);refine⟨b,o+L.toNat*t.size,(ec.take (H.toNat*t.size)).drop (L.toNat*t.size), ?_,hz, ?_,e1⟩
         . rw[if_neg (by omega),Option.map_some,L4]
         . have hx1:=M8 hcells 0 (H.toNat*t.size);rw[List.drop_zero,Nat.add_zero]at hx1;have hx2:=M8 hx1 (L.toNat*t.size) ((ec.take (H.toNat*t.size)).drop (L.toNat*t.size)).length;rwa[List.take_length]at hx2
 . rename_i k;split at hc
   . rename_i t e' l hk;cases hc;have hsl:=ht t.size (.inr ⟨_,_,_,rfl⟩);obtain⟨h0,h1,h2⟩:=hφ;have hL:=h.locs k;rw[hk]at hL;obtain⟨xs,hown,_,_⟩:=hL;have hBx:Gw.ev E x=B k:=hx;generalize hLo:loI.getD 0=L at*;generalize hHi:hiI.getD (l.length:Int)=H at*;obtain⟨a,cap,hB,ga,gn,gc,gm⟩:∃a cap,B k= .slice a l.length cap/\(∀x,a=some x->∃g,x=⟨g,0,none⟩)/\(a=none->cap=0)/\l.length<=cap/\cap<=maxLen:=by
      rcases hown.2 with⟨hv,hn⟩ | ⟨g,cap,cur,hv,_,_,hnc,hcm,_⟩
      . exact⟨none,0,by rw[hv,hn],fun x hx=>(by cases hx),fun _=>rfl,by omega,Nat.zero_le _⟩
      . exact⟨some ⟨g,0,none⟩,cap,hv,fun x hx=>⟨g,by cases hx;rfl⟩,fun hx=>(by cases hx),hnc,hcm⟩
     refine Ew (fun w' _=>jV (l:=L.toNat) (h:=H.toNat) (hBx.trans hB) hsl ?_ ?_ (by omega) (by omega) w') ⟨a,l.length,cap,hB,ga,gn,h0,h1,h2,gc,gm,rfl⟩ hr
     . cases lo with
       |none=>rw[show loI=none from hlo]at hLo;simp at hLo;simp only;omega
       |some o=>obtain⟨k,i,e1,e2⟩:=hlo;subst e1;simp at hLo;subst hLo;exact⟨k,by rw[e2];congr 1;omega⟩
     . cases hi with
       |none=>rw[show hiI=none from hhi]at hHi;simp at hHi;simp only;omega
       |some o=>obtain⟨k,i,e1,e2⟩:=hhi;subst e1;simp at hHi;subst hHi;exact⟨k,by rw[e2];congr 1;omega⟩
   . cases hc
 . cases hc
def A1x (P:Program) (T:TypeId) (k:IntKind):Bool:=match P.underlying T with|some (.int k')=>decide (k=k') | _=>false
theorem UL {T:TypeId} {k:IntKind} (h:A1x P T k=true):P.underlying T=some (.int k):=by
 unfold A1x at h;split at h
 . rename_i k' hk;have:=of_decide_eq_true h;subst this;exact hk
 . cases h
theorem A1l {T T' ty:TypeId} {x:Operand} {k k':IntKind} {a:Int} (hx:RC w Z B (.val (.int k) a) (Gw.ev E x)) (h1:∃d,P.underlying T=some d) (h2:A1x P T' k'=true):Vz P st E w Z B ty (.convert T T' x) (.one ⟨false,[.val (.int k') (k'.wrap a)]⟩):=by
 obtain⟨hx,_⟩:=hx;simp only[List.cons.injEq,and_true]at hx;obtain⟨d,hd⟩:=h1;have hu:=UL h2;refine Ew (v:= .int k' (k'.wrap a)) (fun w' _=> ?_) ⟨rfl,Nr _ _⟩ trivial;intro _ _ _ _;simp[execOp,convert,hx,run_underlying hd,run_underlying hu,Conv.intToInt,go_sem]
def unC (op:UnOp):C->Option C
 | .val .bool b=>match op with
  | .not=>some (.val .bool (!b))
  | _=>none
 | .val (.int k) a=>match op with
  | .neg=>some (.val (.int k) (k.wrap (-a)))
  | .xor=>some (.val (.int k) (k.wrap (BitVec.ofInt k.bits (if k.signed then -1 else k.max)^^^BitVec.ofInt k.bits a).toNat))
  | _=>none
 | _=>none
theorem A8a {op:UnOp} {T ty:TypeId} {x:Operand} {c c':C} (hx:RC w Z B c (Gw.ev E x)) (h:unC op c=some c'):Vz P st E w Z B ty (.unOp op T x) (.one ⟨false,[c']⟩):=by
 unfold unC at h;split at h
 . split at h
   . cases h;rename_i b _;have hx:Gw.ev E x= .bool b:=by simpa[RC,C6]using hx
     exact Ew (fun w' _=>A8j hx) rfl trivial
   . cases h
 . obtain⟨hx,_⟩:=hx;simp only[List.cons.injEq,and_true]at hx;split at h
   . cases h;exact Ew (fun w' _=>A8i hx) ⟨rfl,Nr _ _⟩ trivial
   . cases h;refine Ew (v:= .int _ _) (fun w' _ _ _ _ _=>by simp[execOp,hx,Op.unary,Op.intBits,go_sem]) ⟨rfl,Nr _ _⟩ trivial
   . cases h
 . cases h
def Wr (place:Nat->Option (Nat×Nat)):List C->List (Nat×List C)->Option (List C)
 |cs,[]=>some cs
 |cs,(i,ps)::r=>match place i with
  |none=>none
  |some (off,sz)=>bif Nat.beq ps.length sz&&Nat.ble (off+sz) cs.length then Wr place (cs.take off++ps++cs.drop (off+sz)) r else none
def Eu:C->Bool
 | .dead=>false
 | _=>true
theorem C6.one1 {t:Ty} {v:Value} {x:t.den} (h:C6 t w Z [v] x):v.oneCell'=true:=C6.oneCell h v (by simp)
theorem RC.one (h:C0 za w0 st E w Z B) {c:C} {v:Value} (hd:Eu c=true) (hr:RC w Z B c v):v.oneCell'=true:=by
 cases c with
 |val t x=>exact C6.one1 hr
 |row k=>rw[show v= _ from hr];exact h.bone k
 |box k off=>obtain⟨b,_,e⟩:=hr;rw[e];rfl
 |elp k sz i off=>obtain⟨b,_,_,_,_,e⟩:=hr;rw[e];rfl
 |win k sz lo hi=>obtain⟨_,_,_,_,_,_,_,_,_,_,_,e⟩:=hr;rw[e];rfl
 |pf t x off=>obtain⟨b,_,_,e,_⟩:=hr;rw[e];rfl
 |mp k=>rw[show v= _ from hr];exact h.bone k
 |fn f caps=>rw[show v= _ from hr];rfl
 |fv _ _ _ _ _ _=>obtain⟨_,_,e,_⟩:=hr;rw[e];rfl
 |raw v0=>rw[hr.1];exact hr.2
 |dead=>cases hd
end
end Go.Vc
