/- Part. -/
import Derived.Test.YtdlnpbmmdnmkaaaGreatKMC
set_option linter.all false
namespace Go.Vc
open Go Go.RowKit Go.Gw
theorem C4.trans {a b c:St} (h:C4 a b) (k:C4 b c):C4 a c:=by
 refine⟨Nat.le_trans h.ct k.ct,fun s h0 h1=> ?_,fun q h0 h1=> ?_, ?_⟩
 . have e:=k.s s h0 (Nat.le_trans h1 h.ct);rw[e]at h0 h1⊢;exact h.s s h0 h1
 . have e:=k.l q h0 (Nat.le_trans h1 h.ct);rw[e]at h0 h1⊢;exact h.l q h0 h1
 . exact h.f.trans h.ct k.f
theorem C4.setS (st:St) (d:Nat) (x:DV):C4 st (st.setS d x):=by
 refine⟨Nat.le_succ _,fun s h0 h1=> ?_,fun _ _ _=>rfl,U8.refl _ _⟩;rw[St.eS_setS]at h0 h1⊢;split at h1
 . simp only at h1;omega
 . rename_i hs;rw[if_neg hs];cases hc:Vr d (st.S s)with
   |true=>simp only[hc,cond_true]at h1;omega
   |false=>rfl
theorem C4.setL (st:St) (k:Nat) (x:LC):C4 st (st.setL k x):=by
 refine⟨Nat.le_succ _,fun _ _ _=>rfl,fun q h0 h1=> ?_,U8.refl _ _⟩;rw[St.eL_setL]at h0 h1⊢;split at h1
 . simp only at h1;omega
 . rename_i hs;rw[if_neg hs]
theorem C4.newL (st:St) (x:LC):C4 st (st.newL x):=by
 refine⟨Nat.le_succ _,fun _ _ _=>rfl,fun q h0 h1=> ?_,U8.refl _ _⟩;rw[St.eL_newL]at h0 h1⊢;split at h1
 . simp only at h1;omega
 . rename_i hs;rw[if_neg hs]
theorem L5.mapV (n:Nat) (p:DV->Bool) (f:DV->DV):∀l,L5 n l (Vc.mapV p f (n+1) l)
 | []=>trivial
 | (s,x)::l=>by
  refine⟨rfl,fun h=> ?_,L5.mapV n p f l⟩;cases hp:p x.2 with
  |true=>simp only[hp,cond_true]at h;omega
  |false=>rfl
theorem U8.mapV (n:Nat) (p:DV->Bool) (f:DV->DV):∀l,U8 n l (l.map (Vc.mapV p f (n+1)))
 | []=>trivial
 |x::l=>⟨L5.mapV n p f x,U8.mapV n p f l⟩
theorem C4.freeze (st:St) (k:Nat) (c:C):C4 st (st.freeze k c):=by
 refine⟨Nat.le_succ _,fun s h0 h1=> ?_,fun q h0 h1=> ?_,U8.mapV _ _ _ _⟩
 . rw[St.eS_freeze]at h0 h1⊢;cases hc:Qt k (st.S s)with
   |true=>simp only[hc,cond_true]at h1;omega
   |false=>rfl
 . rw[St.eL_freeze]at h0 h1⊢;cases hc:PZ k (if q=k then(st.ct+1,LC.none)else st.eL q).2 with
   |true=>simp only[hc,cond_true]at h1;omega
   |false=>
    simp only[hc,cond_false]at h1⊢;split at h1
    . simp only at h1;omega
    . rename_i hq;rw[if_neg hq]
theorem C4.settle (st:St) (cs:List C):C4 st (settle st cs):=by
 induction cs generalizing st with
 |nil=>exact C4.refl _
 |cons c cs ih=>
  cases c with
  |row k=>
   simp only[Vc.settle];cases hk:st.L k with
   |row t e l=>
    cases Nat.ble st.nm k with
    |true=>exact(C4.freeze st k _).trans (ih _)
    |false=>exact ih st
   |rows t e e' ls al ho=>
    cases ho with
    |some _=>exact ih st
    |none=>
     cases Nat.ble st.nm k with
     |true=>exact(C4.freeze st k _).trans (ih _)
     |false=>exact ih st
   | _=>exact ih st
  |win k _ _ _=>
   simp only[Vc.settle];cases hk:st.L k with
   |row t e l=>
    cases Nat.ble st.nm k with
    |true=>exact(C4.freeze st k _).trans (ih _)
    |false=>exact ih st
   | _=>exact ih st
  |mp k=>
   simp only[Vc.settle];cases hk:st.L k with
   |map _ _ _ _ _=>
    cases Nat.ble st.nm k with
    |true=>exact(C4.freeze st k _).trans (ih _)
    |false=>exact ih st
   | _=>exact ih st
  | _=>exact ih st
theorem C4.settleO (st:St) (x:Operand):C4 st (settleO st x):=by
 unfold Vc.settleO;split
 . exact C4.settle _ _
 . exact C4.refl _
theorem C4.settleP (st:St) (ps:List (Nat×Operand)):C4 st (settleP st ps):=by
 induction ps generalizing st with
 |nil=>exact C4.refl _
 |cons x ps ih=>exact(C4.settleO st x.2).trans (ih _)
theorem C4.thawS (st:St) (s:SV):C4 st (thawS st s):=by
 unfold Vc.thawS;split
 . unfold thaw;split
   . cases Nat.ble st.nm _ with
     |true=>exact(C4.setL st _ _).trans (C4.setL _ _ _)
     |false=>exact C4.refl st
   . exact C4.refl st
 . exact C4.refl st
theorem C4.stillB (cx:Cx) (st:St) (k:Nat):C4 st (stillB cx st k):=by
 unfold Vc.stillB;split
 . rename_i T cs _;cases Nat.ble st.nm k with
   |false=>exact C4.refl _
   |true=>
    simp only[cond_true];split
    . split
      . split
        . exact((C4.settle st cs).trans (C4.setL _ _ _)).trans (C4.setL _ _ _)
        . exact C4.refl _
      . exact C4.refl _
    . exact C4.refl _
 . exact C4.refl _
theorem C4.stillL (cx:Cx):∀(ks:List Nat) (st:St),C4 st (ks.foldl (Vc.stillB cx) st)
 | [],st=>C4.refl st
 |k::ks,st=>(C4.stillB cx st k).trans (C4.stillL cx ks _)
theorem C4.stillF (cx:Cx):∀(st:St) (as:List AM) (ss:List SV),C4 st (stillF cx st as ss)
 |st,[],_=>C4.refl st
 |st,_:: _,[]=>C4.refl st
 |st,a::as,s::ss=>by
  simp only[Vc.stillF];split
  . exact(C4.stillL cx _ st).trans (C4.stillF cx _ as ss)
  . exact C4.stillF cx st as ss
theorem C4.settleA:∀(as:List AM) (ss:List SV) (st:St),C4 st (settleA st as ss)
 | [],_,st=>C4.refl st
 | .val _ _::as,s::ss,st=>(C4.settle st s.cs).trans (C4.settleA as ss _)
 | .row _ _::as,s::ss,st=>(C4.thawS st s).trans (C4.settleA as ss _)
 | .rows _ _ _::as,_::ss,st=>C4.settleA as ss st
 | .rows _ _ _:: _,[],st=>C4.refl st
 | .box _ _::as,_::ss,st=>C4.settleA as ss st
 | .fn _ _ _::as,_::ss,st=>C4.settleA as ss st
 | .val _ _:: _,[],st=>C4.refl st
 | .row _ _:: _,[],st=>C4.refl st
 | .box _ _:: _,[],st=>C4.refl st
 | .fn _ _ _:: _,[],st=>C4.refl st
theorem C4.dropM:∀(ks:List Nat) (st:St),C4 st (dropM st ks)
 | [],st=>C4.refl st
 |k::ks,st=>(C4.setL st k _).trans (C4.dropM ks _)
theorem C4.addM:∀(as:List AM) (o:Ke as) (ks:List Nat) (st:St),C4 st (addM as o ks st)
 | [],_,ks,st=>by cases ks<;>exact C4.refl st
 | .row t e::as,o,[],st=>C4.refl st
 | .box t e::as,o,[],st=>C4.refl st
 | .row t e::as,o,k::ks,st=>(C4.setL st k _).trans (C4.addM as o.2 ks _)
 | .box t e::as,o,k::ks,st=>(C4.setL st k _).trans (C4.addM as o.2 ks _)
 | .val _ _::as,o,ks,st=>C4.addM as o ks st
 | .fn _ _ _::as,o,ks,st=>C4.addM as o ks st
 | .rows _ _ _::as,o,[],st=>C4.refl st
 | .rows _ _ _::as,o,k::ks,st=>(C4.setL st k _).trans (C4.addM as o.2 ks _)
theorem C4.place:∀(rs:List RT) (r:Ba rs) (st:St),C4 st (F3 rs r st).2
 | [],_,st=>C4.refl st
 | .val _ _::rs,r,st=>C4.place rs r.2 st
 | .own t e::rs,r,st=>(C4.newL st (.row t e r.1)).trans (C4.place rs r.2 _)
 | .obox T t::rs,r,st=>(C4.newL st (.box T (explode t r.1))).trans (C4.place rs r.2 _)
 | .rows t e e'::rs,r,st=>(C4.newL st (.rows t e e' r.1 [] none)).trans (C4.place rs r.2 _)
theorem C4.boxS (st:St) (d:Tmp) (T:TypeId) (cs:List C):C4 st (boxS st d T cs):=(C4.newL _ _).trans (C4.setS _ _ _)
theorem C4.rowS (st:St) (d:Tmp) (t:Ty) (e:TypeId) (l:List t.den):C4 st (rowS st d t e l):=(C4.newL _ _).trans (C4.setS _ _ _)
theorem C4.dropR (st:St) (c:C):C4 st (dropR st c):=by
 cases c with
 |row k=>exact C4.setL _ _ _
 | _=>exact C4.refl _
section
variable {cx:Cx} {sp:I7} {all:List Oper} {k k':St->Prop} {st:St}
theorem C4.detO (st:St) (x:Operand):C4 st (detO st x):=by
 have hbif:∀(b:Bool) (s1:St),C4 st s1->C4 st (bif b then s1 else st):=by
  intro b s1 h;cases b
  . exact C4.refl _
  . exact h
 unfold Vc.detO;split
 . unfold oP;split
   . split
     . split
       . split
         . exact hbif _ _ ((C4.setL _ _ _).trans (C4.setL _ _ _))
         . exact C4.refl _
       . exact C4.refl _
     . exact C4.refl _
   . exact C4.refl _
 . exact C4.refl _
theorem QJ {d:Tmp} {T:TypeId} {x:Operand} {st':St} (h:QI cx st d T x=some st'):C4 st st':=by
 simp only[QI,Option.bind_eq_bind,bind_some]at h;obtain⟨ti,_,c,_,h⟩:=h;split at h
 . split at h
   . obtain⟨_,h⟩:=D9 h;cases h;exact((C4.newL _ _).trans (C4.setL _ _ _)).trans (C4.setS _ _ _)
   . cases h
 . cases h
theorem fV {d:Tmp} {T:TypeId} {x y:Operand} {st':St} (h:WH cx st d T x y=some st'):C4 st st':=by
 simp only[WH,Option.bind_eq_bind,bind_some]at h;obtain⟨ti,_,t,_,a,_,b,_,ys,_,h⟩:=h;cases a with
 |row k=>
  simp only at h;split at h
  . split at h
    . obtain⟨_,h⟩:=D9 h;cases h;exact(C4.setL _ _ _).trans (C4.setS _ _ _)
    . cases h
  . cases h
 | _=>simp at h
theorem kE {d:Tmp} {op:Op} {φ:Option Prop} {st':St} (h:kD cx st d op=some (φ,st')):C4 st st':=by
 unfold kD at h;split at h
 . simp only[Option.bind_eq_bind,bind_some]at h;obtain⟨s,_,h⟩:=h;obtain⟨_,h⟩:=D9 h;cases h;exact C4.boxS _ _ _ _
 . simp only[Option.bind_eq_bind,bind_some]at h;obtain⟨s,_,h⟩:=h;cases h;exact C4.boxS _ _ _ _
 . simp only[Option.bind_eq_bind,bind_some]at h;obtain⟨ti,_,t,_,ps,_,xs,_,h⟩:=h;obtain⟨_,h⟩:=D9 h;cases h;exact(C4.settleP _ _).trans (C4.rowS _ _ _ _ _)
 . simp only[Option.bind_eq_bind,bind_some]at h;obtain⟨ti,_,t,_,l,_,c,_,h⟩:=h;cases hr:ti.rows with
   |true=>
    simp only[hr,cond_true,Option.map_eq_some_iff]at h;obtain⟨st2,hm,h⟩:=h;cases h;unfold JU at hm;split at hm
    . simp only[Option.map_eq_some_iff]at hm;obtain⟨_,_,hm⟩:=hm;subst hm;exact(C4.newL _ _).trans (C4.setS _ _ _)
    . cases hm
   |false=>
    simp only[hr,cond_false]at h;obtain⟨_,h⟩:=D9 h;cases h;exact C4.rowS _ _ _ _ _
 . split at h
   . obtain⟨_,h⟩:=D9 h;simp only[A1u,Option.bind_eq_bind,bind_some]at h;obtain⟨ti,_,t,_,a,_,b,_,l,_,ys,_,h⟩:=h;obtain⟨_,h⟩:=D9 h;cases h;exact(C4.detO _ _).trans ((C4.dropR _ _).trans (C4.rowS _ _ _ _ _))
   . cases h
 . simp only[Option.bind_eq_bind,bind_some]at h;obtain⟨ti,_,h⟩:=h;split at h
   . cases h;exact(C4.newL _ _).trans (C4.setS _ _ _)
   . simp only[Option.map_eq_some_iff]at h;obtain⟨_,_,h⟩:=h;cases h;exact(C4.newL _ _).trans (C4.setS _ _ _)
   . cases h
 . split at h
   . simp only[Option.bind_eq_bind,bind_some]at h;obtain⟨ti,_,h⟩:=h;split at h
     . simp only[bind_some]at h;obtain⟨_,_,_,_,h⟩:=h;cases h;exact C4.setS _ _ _
     . cases h
   . cases h
 . simp only[Option.map_eq_some_iff]at h;obtain⟨st2,hl,h⟩:=h;cases h;exact QJ hl
 . simp only[Option.bind_eq_bind,bind_some]at h;obtain⟨ti,_,h⟩:=h;split at h
   . simp only[bind_some]at h;obtain⟨_,_,_,_,h⟩:=h;cases h;exact(C4.settleO _ _).trans ((C4.newL _ _).trans (C4.setS _ _ _))
   . cases h
 . simp only[Option.bind_eq_bind,bind_some]at h;obtain⟨_,_,h⟩:=h;split at h
   . split at h
     . obtain⟨_,h⟩:=D9 h;cases h;exact C4.setS _ _ _
     . cases h
   . cases h
 . split at h
   . simp only[Option.map_eq_some_iff]at h;obtain⟨st2,hl,h⟩:=h;cases h;exact fV hl
   . cases h
 . cases h
theorem aQ {T:TypeId} {x:Operand} {st':St} (h:IL cx st T x=some st'):C4 st st':=by
 simp only[IL,Option.bind_eq_bind,bind_some]at h;obtain⟨ti,_,t,_,c,_,h⟩:=h;split at h
 . split at h
   . split at h
     . obtain⟨_,h⟩:=D9 h;cases h;exact C4.setL _ _ _
     . cases h
   . cases h
 . cases h
theorem JW {T:TypeId} {m x y:Operand} {st':St} (h:CU cx st T m x y=some st'):C4 st st':=by
 simp only[CU,Option.bind_eq_bind,bind_some]at h;obtain⟨ti,_,c,_,sk,_,sy,_,h⟩:=h;split at h
 . simp only[bind_some]at h;obtain⟨_,_,_,_,_,_,h⟩:=h;cases h;exact(C4.settleO _ _).trans (C4.setL _ _ _)
 . cases h
theorem cP {ti:TI} {s:SV} {k sz i off:Nat} {st':St} (h:UZ ti st s k sz i off=some st'):C4 st st':=by
 unfold UZ at h;split at h
 . obtain⟨_,h⟩:=D9 h;split at h
   . cases h;exact C4.setL _ _ _
   . cases h
 . split at h
   . split at h
     . obtain⟨_,h⟩:=D9 h;split at h
       . cases h;exact C4.setL _ _ _
       . cases h
     . cases h
   . cases h
 . cases h
theorem cQ {T:TypeId} {p v:Operand} {φ:Option Prop} {st':St} (h:LP cx st T p v=some (φ,st')):C4 st st':=by
 simp only[LP,Option.bind_eq_bind,bind_some]at h;obtain⟨ti,_,c,_,h⟩:=h;split at h
 . simp only[bind_some]at h;obtain⟨s,_,h⟩:=h;split at h
   . obtain⟨_,h⟩:=D9 h;cases h;exact C4.setL _ _ _
   . cases h
 . split at h
   . split at h
     . obtain⟨_,h⟩:=D9 h;unfold Vc.attach at h;split at h
       . split at h
         . obtain⟨_,h⟩:=D9 h;cases h;exact(((C4.setL _ _ _).trans (C4.setL _ _ _)).trans (C4.setL _ _ _)).trans (C4.setL _ _ _)
         . cases h
       . cases h
     . cases h
   . simp only[bind_some,Option.map_eq_some_iff]at h;obtain⟨s,_,st2,h2,h⟩:=h;cases h;exact(C4.settleO _ _).trans (cP h2)
 . cases h
theorem R6 {sh:Bool} {mu:List Nat} :∀ {as:List AM} {ss:List SV} {k k':A5 as->Prop},J5 cx sp st mu sh as ss k->(∀x,k x->k' x)->J5 cx sp st mu sh as ss k'
 | [],[],_,_,h,hk=>hk _ h
 | [],_:: _,_,_,h,_=>h.elim
 |a::r,[],_,_,h,_=>by cases a<;>exact h.elim
 | .val a t::r,s::ss,_,_,h,hk=>by
  simp only[J5]at h⊢;split at h
  . exact R6 h fun y=>hk _
  . exact h.elim
 | .row t e0::r,s::ss,_,_,h,hk=>by
  simp only[J5]at h⊢;split at h
  . split at h
    . obtain⟨hb,h⟩:=B7 h;simp only[hb,cond_true];exact R6 h fun y=>hk _
    . exact h.elim
  . exact h.elim
 | .box t e0::r,s::ss,_,_,h,hk=>by
  simp only[J5]at h⊢;split at h
  . split at h
    . obtain⟨hb,h⟩:=B7 h;simp only[hb,cond_true];exact R6 h fun y=>hk _
    . exact h.elim
  . exact h.elim
 | .rows t e0 e1::r,s::ss,_,_,h,hk=>by
  simp only[J5]at h⊢;split at h
  . split at h
    . obtain⟨hb,h⟩:=B7 h;simp only[hb,cond_true];exact R6 h fun y=>hk _
    . exact h.elim
  . exact h.elim
 | .fn as' ra' r'::r,s::ss,_,_,h,hk=>by
  simp only[J5]at h⊢;split at h
  . split at h
    . obtain⟨hb,h⟩:=B7 h;simp only[hb,cond_true];obtain⟨ok,φ,hp,h⟩:=h;exact⟨ok,φ,hp,R6 h fun y=>hk _⟩
    . exact h.elim
  . split at h
    . rename_i hh;rw[dif_pos hh];exact⟨h.1,h.2.1,R6 h.2.2 fun y=>hk _⟩
    . exact h.elim
  . exact h.elim
theorem EX {d:Tmp} {s:A9} {ss:List SV} (h:Wz cx sp st d s ss k) (hk:∀st',C4 st st'->k st'->k' st'):Wz cx sp st d s ss k':=by
 unfold Wz at h⊢;split at h
 . obtain⟨hb,h⟩:=B7 h;simp only[hb,cond_true];cases hm:L2 s.args<;>simp only[hm,cond_false,cond_true]at h⊢
   . exact R6 h fun x hx=>⟨hx.1,fun r hr hp=>hk _ ((C4.place _ _ _).trans (C4.setS _ _ _)) (hx.2 r hr hp)⟩
   . exact R6 h fun x hx=>⟨hx.1,fun r o hr ho hp hq=>hk _ ((C4.dropM _ _).trans ((C4.place _ _ _).trans ((C4.addM _ _ _ _).trans (C4.setS _ _ _)))) (hx.2 r o hr ho hp hq)⟩
 . exact h
theorem SY {d:Tmp} {f:Operand} {args:List Operand} (h:Tl cx sp st d f args k) (hk:∀st',C4 st st'->k st'->k' st'):Tl cx sp st d f args k':=by
 unfold Tl at h⊢;split at h
 . split at h
   . split at h
     . exact⟨h.1,h.2.1,fun hw=>hk _ (C4.setS _ _ _) (h.2.2 hw)⟩
     . exact h
   . exact h
 . split at h
   . split at h
     . obtain⟨hen,h⟩:=B7 h;simp only[hen,cond_true];rename_i s _ _;cases hin:s.inl with
       |some run=>
        simp only[hin]at h⊢;exact run.step h fun st' ss' ev hh=>hk _ (ev.trans (C4.setS _ _ _)) hh
       |none=>
       simp only[hin]at h⊢;cases hsh:s.shared<;>simp only[hsh,cond_false,cond_true]at h⊢
       . exact EX h hk
       . split at h
         . obtain⟨hgg,h⟩:=B7 h;simp only[hgg,cond_true];exact EX h fun st' ev=>hk st' (((C4.stillF _ _ _ _).trans (C4.settleA _ _ _)).trans ev)
         . exact h
     . exact h
   . exact h
theorem NR {ctx:Ev} {t:Tmp} {b:Bool} {d:Tmp} {f:Operand} {args:List Operand} (h:Ku cx sp st ctx t b d f args k) (hk:∀st',C4 st st'->k st'->k' st'):Ku cx sp st ctx t b d f args k':=by
 unfold Ku at h⊢;split at h
 . split at h
   . split at h
     . exact⟨h.1,h.2.1,fun hw=>hk _ (C4.setS _ _ _) (h.2.2 hw)⟩
     . exact h
   . exact h
 split at h
 . split at h
   . split at h
     . split at h
       . obtain⟨hen,h⟩:=B7 h;simp only[hen,cond_true];exact hk _ (C4.setS _ _ _) h
       . exact h
     obtain⟨hen,h⟩:=B7 h;simp only[hen,cond_true];rename_i s _ _ _ _;cases hm:L2 s.args<;>simp only[hm,cond_false,cond_true]at h⊢
     case true=>
      obtain⟨hfi,h⟩:=B7 h;simp only[hfi,cond_true];unfold SX at h⊢;split at h
      . obtain⟨hb,h⟩:=B7 h;simp only[hb,cond_true];refine R6 h fun x hx=>⟨fun hc=>⟨(hx.1 hc).1,fun r o hr ho hp hq=> ?_⟩,fun hc=> ?_⟩
        . have:=(hx.1 hc).2 r o hr ho hp hq;split at this
          . exact hk _ ((C4.dropM _ _).trans ((C4.place _ _ _).trans ((C4.addM _ _ _ _).trans (C4.setS _ _ _)))) this
          . exact this
        . have:=hx.2 hc;split at this
          . exact hk _ (C4.setS _ _ _) this
          . exact this
      . exact h
     refine R6 h fun x h=>⟨h.1,fun r hr=> ?_⟩
     have:=h.2 r hr;split at this
     . exact hk _ (C4.setS _ _ _) this
     . exact this
   . exact h
 . exact h
theorem bN {d:Tmp} {T:TypeId} {m x:Operand} {st':St} (h:JV cx st d T m x=some st'):C4 st st':=by
 simp only[JV,Option.bind_eq_bind,bind_some]at h;obtain⟨ti,_,c,_,sk,_,h⟩:=h;split at h
 . simp only[bind_some]at h;obtain⟨_,_,_,_,h⟩:=h;obtain⟨_,h⟩:=D9 h;cases h;exact((C4.newL _ _).trans (C4.setL _ _ _)).trans (C4.setS _ _ _)
 . cases h
theorem aV {m s y:Operand} {st':St} (h:IZ st m s y=some st'):C4 st st':=by
 simp only[IZ,Option.bind_eq_bind,bind_some]at h;obtain⟨c,_,cs,_,sy,_,h⟩:=h;split at h
 . rename_i k q _ _;split at h
   . rename_i ka kt va vt es j q' hk;cases hqq:Nat.beq q q' with
     |false=>simp[hqq]at h
     |true=>
      cases hv:Ed va vt sy with
      |none=>simp[hqq,hv]at h
      |some v=>simp[hqq,hv]at h;subst h;exact(C4.settleO _ _).trans (C4.setL _ _ _)
   . cases h
 . cases h
theorem K9 {α:Type} {c:Bool} {a:Option α} {x:α} (h:(bif c then a else none)=some x):a=some x:=by
 cases c with
 |true=>exact h
 |false=>cases h
theorem C4.giveS (st:St) (k:Nat):C4 st (giveS st k):=by
 unfold Vc.giveS;split
 . split
   . cases Nat.ble st.nm k&&Nat.ble st.nm _ && !(Nat.beq _ k)with
     |true=>exact(C4.setL _ _ _).trans (C4.setL _ _ _)
     |false=>exact C4.refl _
   . exact C4.setL _ _ _
 . exact C4.refl _
theorem iP {φ:Option Prop} {st':St} {d:Tmp} {p i:Nat} (hs:RZ st d p i=some (φ,st')):C4 st st':=by
 unfold RZ at hs;split at hs
 . have hs:=K9 hs;cases hs;exact(((C4.setL _ _ _).trans (C4.newL _ _)).trans (C4.setL _ _ _)).trans (C4.setS _ _ _)
 . cases hs
theorem gZ {φ:Option Prop} {st':St} {p r i:Nat} (hs:LB st p r i=some (φ,st')):C4 st st':=by
 unfold LB at hs;split at hs
 . split at hs
   . have hs:=K9 hs;split at hs
     . cases hs;exact((C4.setL _ _ _).trans (C4.setL _ _ _)).trans (C4.setL _ _ _)
     . cases hs;exact((C4.setL _ _ _).trans (C4.setL _ _ _)).trans (C4.setL _ _ _)
     . cases hs
   . cases hs
 . cases hs
theorem YF {φ:Option Prop} {st':St} {op:Op} {dst:Option Tmp} (hs:Jc cx st dst op=some (φ,st')):C4 st st':=by
 unfold Jc at hs;split at hs
 . simp only[Option.bind_eq_bind,bind_some]at hs;obtain⟨d,_,ti,_,hs⟩:=hs;have hs:=K9 hs;simp only[bind_some]at hs;obtain⟨t,_,t2,_,l,_,c,_,hs⟩:=hs;have hs:=K9 hs;cases hs;exact(C4.newL _ _).trans (C4.setS _ _ _)
 . simp only[Option.bind_eq_bind,bind_some]at hs;obtain⟨d,_,ti,_,c,_,hs⟩:=hs;split at hs
   . have hs:=K9 hs;exact(C4.giveS _ _).trans (iP hs)
   . cases hs
 . split at hs
   . simp only[Option.bind_eq_bind,bind_some]at hs;obtain⟨ti,_,c,_,r,_,hs⟩:=hs;split at hs
     . have hs:=K9 hs;exact gZ hs
     . cases hs
   . cases hs
 . simp only[Option.bind_eq_bind,bind_some]at hs;obtain⟨d,_,ti,_,c,_,hs⟩:=hs;split at hs
   . simp only[bind_some]at hs;obtain⟨es,_,hs⟩:=hs;have hs:=K9 hs;cases hs;exact((C4.setL _ _ _).trans (C4.newL _ _)).trans (C4.setS _ _ _)
   . cases hs
 . simp only[Option.bind_eq_bind,bind_some]at hs;obtain⟨d,_,c,_,hs⟩:=hs;split at hs
   . split at hs
     . have hs:=K9 hs;cases hs;exact C4.setS _ _ _
     . cases hs
   . cases hs
 . split at hs
   . simp only[Option.bind_eq_bind,bind_some]at hs;obtain⟨ti,_,c,_,sk,_,hs⟩:=hs;split at hs
     . simp only[bind_some]at hs;obtain⟨es,_,key,_,hs⟩:=hs;cases hs;exact C4.setL _ _ _
     . cases hs
   . cases hs
 . split at hs
   . simp only[Option.bind_eq_bind,bind_some]at hs;obtain⟨ti,_,t,_,a,_,b,_,ys,_,hs⟩:=hs;split at hs
     . simp only[bind_some]at hs;obtain⟨l,_,hs⟩:=hs;have hs:=K9 hs;cases hs;exact((C4.setL _ _ _).trans (C4.newL _ _)).trans (C4.setS _ _ _)
     . cases hs
   . cases hs
 . cases hs
theorem gS {φ:Option Prop} {st':St} {q r i:Nat} (hs:JZ st q r i=some (φ,st')):C4 st st':=by
 unfold JZ at hs;split at hs
 . split at hs
   . split at hs
     . have hs:=K9 hs;cases hs;exact((C4.setL _ _ _).trans (C4.setL _ _ _)).trans (C4.setL _ _ _)
     . cases hs
   . cases hs
 . cases hs
theorem cI {φ:Option Prop} {st':St} {op:Op} {dst:Option Tmp} (hs:Rs cx st dst op=some (φ,st')):C4 st st':=by
 unfold Rs at hs;split at hs
 . split at hs
   . simp only[Option.bind_eq_bind,bind_some]at hs;obtain⟨ti,_,hs⟩:=hs;have hs:=K9 hs;simp only[bind_some]at hs;obtain⟨t,_,t2,_,c,_,hs⟩:=hs;split at hs
     . simp only[bind_some]at hs;obtain⟨l,_,hs⟩:=hs;have hs:=K9 hs;cases hs;exact((C4.setL _ _ _).trans (C4.newL _ _)).trans (C4.setS _ _ _)
     . cases hs
   . cases hs
 . split at hs
   . simp only[Option.bind_eq_bind,bind_some]at hs;obtain⟨ti,_,c,_,r,_,hs⟩:=hs;split at hs
     . exact gS (K9 hs)
     . cases hs
   . cases hs
 . split at hs
   . simp only[Option.bind_eq_bind,bind_some]at hs;obtain⟨ti,_,hs⟩:=hs;have hs:=K9 hs;simp only[bind_some]at hs;obtain⟨t,_,t2,_,a,_,b,_,ls,_,hs⟩:=hs;split at hs
     . simp only[bind_some]at hs;obtain⟨ys,_,hs⟩:=hs;have hs:=K9 hs;cases hs;exact(((C4.dropR _ _).trans (C4.setL _ _ _)).trans (C4.newL _ _)).trans (C4.setS _ _ _)
     . cases hs
   . cases hs
 . cases hs
theorem bR {φ:Option Prop} {st':St} {op:Op} {dst:Option Tmp} (hs:Xl cx st dst op=some (φ,st')):C4 st st':=by
 unfold Xl at hs;split at hs
 . rename_i y hy;cases hs;exact YF hy
 . exact cI hs
theorem QH {ctx:Ev} {s d:Tmp} {b:Bool} {T:TypeId} {x:Operand} {st':St} (hs:QG cx st ctx s b d T x=some st'):C4 st st':=by
 simp only[QG,Option.bind_eq_bind,bind_some]at hs;obtain⟨ti,_,c,_,hs⟩:=hs;split at hs
 . split at hs
   . have hs:=K9 hs;cases hs;exact((C4.newL _ _).trans (C4.setL _ _ _)).trans (C4.setS _ _ _)
   . cases hs
 . cases hs
theorem bS {d:Tmp} {p:Nat} (h:QT st d p k) (hk:∀st',C4 st st'->k st'->k' st'):QT st d p k':=by
 unfold QT at h⊢;split at h
 . obtain⟨hc,h⟩:=OY h;rw[hc];exact⟨fun hl=>hk _ (((C4.setL _ _ _).trans (C4.setL _ _ _)).trans (C4.setS _ _ _)) (h.1 hl),fun l1 y l2 hl=>hk _ ((C4.setL _ _ _).trans (C4.setS _ _ _)) (h.2 l1 y l2 hl)⟩
 . exact h
theorem UD {d:Tmp} {x:Operand} (h:Uc st d x k) (hk:∀st',C4 st st'->k st'->k' st'):Uc st d x k':=by
 unfold Uc at h⊢;split at h
 . split at h
   . exact bS h hk
   . exact⟨fun hl=>hk _ (C4.setS _ _ _) (h.1 hl),fun l1 y l2 hl=>hk _ ((C4.setL _ _ _).trans (C4.setS _ _ _)) (h.2 l1 y l2 hl)⟩
   . exact h
 . exact h
theorem Xz {o:Oper} (h:Vy cx sp all o k st) (hk:∀st',C4 st st'->k st'->k' st'):Vy cx sp all o k' st:=by
 obtain⟨dst,op,ty,pos,aft,gd⟩:=o;unfold Vy at h⊢;simp only at h⊢;split at h
 . split at h
   . split at h
     . exact E4.2 ⟨(E4.1 h).1,hk _ (C4.setS _ _ _) (E4.1 h).2⟩
     . exact h
   split at h
   . rename_i hst;exact E4.2 ⟨(E4.1 h).1,hk _ (bR hst) (E4.1 h).2⟩
   . rename_i hnn;clear hnn;split at h
     . split at h
       . split at h
         . rename_i hst;exact E4.2 ⟨(E4.1 h).1,hk _ (cQ hst) (E4.1 h).2⟩
         . exact h
       . exact h
     . split at h
       . split at h
         . rename_i hst;exact hk _ (JW hst) h
         . exact h
       . exact h
     . split at h
       . split at h
         . rename_i hst;exact hk _ (JW hst) h
         . exact h
       . exact h
     . split at h
       . exact SY h hk
       . exact h
     . split at h
       . rename_i x str heq yy d;cases str with
         |true=>exact h
         |false=>exact UD h hk
       . exact h
     . split at h
       . split at h
         . rename_i hst;exact hk _ (bN hst) h
         . exact h
       . exact h
     . split at h
       . split at h
         . rename_i hst;exact hk _ (aV hst) h
         . exact h
       . exact h
     . split at h
       . split at h
         . rename_i hst;exact hk _ (aQ hst) h
         . exact h
       . exact h
     . split at h
       . split at h
         . rename_i heff;exact E4.2 ⟨(E4.1 h).1,hk _ (kE heff) (E4.1 h).2⟩
         . exact h
       . exact h
 . split at h
   . obtain⟨hfull,h⟩:=B7 h;simp only[hfull,cond_true];split at h
     . obtain⟨htd,h⟩:=B7 h;simp only[htd,cond_true];split at h
       . obtain⟨hrb,h⟩:=B7 h;simp only[hrb,cond_true];exact E4.2 ⟨(E4.1 h).1,hk _ (C4.setS _ _ _) (E4.1 h).2⟩
       . exact h
       . split at h
         . exact NR h hk
         . split at h
           . rename_i hb1;refine hk _ ?_ h;simp only[SQ,Option.bind_eq_bind,bind_some]at hb1;obtain⟨_,_,_,_,_,_,_,_,hb1⟩:=hb1;obtain⟨_,hb1⟩:=D9 hb1;cases hb1;exact C4.setS _ _ _
           . exact h
         . split at h
           . rename_i hl;exact hk _ (QH hl) h
           . exact h
         . exact h
     . exact h
   . exact h
theorem FI:∀ {ops:List Oper} {k k':St->Prop} {st:St},LM cx sp all ops k st->(∀st',C4 st st'->k st'->k' st')->LM cx sp all ops k' st
 | [],_,_,st,h,hk=>hk st (C4.refl st) h
 | _:: _,_,_,_,h,hk=>Xz h fun st1 e1 h1=>FI h1 fun st2 e2 h2=>hk st2 (e1.trans e2) h2
end
inductive Og where
 |val (t:Ty)
 |own (t:Ty) (e:TypeId)
 |ownR (t:Ty) (e e':TypeId)
 |fix (k:Nat)
 |fixB (k:Nat)
def Og.pin:Og->Option Nat
 | .fix k=>some k
 | .fixB k=>some k
 | _=>none
@[reducible] def iY:List Og->Type->Type
 | [],T=>T
 | .val t::r,T=>t.den×iY r T
 | .own t _::r,T=>List t.den×iY r T
 | .ownR t _ _::r,T=>List (List t.den)×iY r T
 | .fix _::r,T=>iY r T
 | .fixB _::r,T=>iY r T
inductive LT where
 |row (t:Ty) (e:TypeId)
 |map (ka:Bool) (kt:Ty) (va:Bool) (vt:Ty)
 |rows (t:Ty) (e e':TypeId)
 |iter (ka:Bool) (kt:Ty) (va:Bool) (vt:Ty)
 |nest (t:Ty) (e e':TypeId)
 |itM (ka:Bool) (kt:Ty) (va:Bool) (vt:Ty) (q:Nat)
@[reducible] def LT.den:LT->Type
 | .row t _=>List t.den
 | .map _ kt _ vt=>List (kt.den×vt.den)
 | .rows t _ _=>List (List t.den)
 | .iter _ kt _ vt=>List (kt.den×vt.den)
 | .nest t _ _=>List t.den×List Nat
 | .itM _ kt _ vt _=>List (kt.den×vt.den)×List (kt.den×vt.den)
def LT.wf:(l:LT)->l.den->Prop
 | .row t _,x=>(Ty.sl t).wf x
 | .map ka kt va vt,x=>(Ty.mp ka kt va vt).wf x
 | .rows t _ _,x=>(Ty.sl (Ty.sl t)).wf x
 | .iter ka kt va vt,x=>(Ty.mp ka kt va vt).wf x
 | .nest _ _ _,x=>x.1.length<=9223372036854775807
 | .itM ka kt va vt _,x=>(Ty.mp ka kt va vt).wf x.2
def LT.lc:(l:LT)->l.den->LC
 | .row t e,x=> .row t e x
 | .map ka kt va vt,x=> .map ka kt va vt x
 | .rows t e e',x=> .rows t e e' x [] none
 | .iter ka kt va vt,x=> .iter ka kt va vt x none
 | .nest t e e',x=> .nest t e e' x.1 [] x.2
 | .itM ka kt va vt q,x=> .itM ka kt va vt x.1 x.2 none q
def plugL:List (Nat×LT)->St->St
 | [],st=>st
 | (k, .nest _ _ _)::r,st=>plugL r (giveS st k)
 | (k, .row _ _)::r,st=>plugL r (thaw st k)
 | _::r,st=>plugL r st
def LT.need:LT->Option Nat
 | .itM _ _ _ _ q=>some q
 | _=>none
def bP (st:St) (t:Ty) (e e':TypeId) (k:Nat):Option (List t.den×List Nat):=match st.L k with
 | .nest t' d d' ls [] dd=>if h:t'=t then(bif Nat.beq d e&&Nat.beq d' e' then some (h▸ls,dd)else none)else none
 | _=>none
def bJ (st:St) (k:Nat):(l:LT)->Option l.den
 | .row t e=>Oh st t e k
 | .map ka kt va vt=>mapM st ka kt va vt k
 | .rows t e e'=>rowsAt st t e e' k
 | .iter ka kt va vt=>match st.L k with
  | .iter ka' kt' va' vt' es _=>if h:Ty.mp ka' kt' va' vt'=Ty.mp ka kt va vt then some (h▸(show(Ty.mp ka' kt' va' vt').den from es):(Ty.mp ka kt va vt).den)else none
  | _=>none
 | .nest t e e'=>bP st t e e' k
 | .itM ka kt va vt q=>match st.L k with
  | .itM ka' kt' va' vt' es left _ q'=>bif Nat.beq q q'&&Nat.blt q k then(if h:Ty.mp ka' kt' va' vt'=Ty.mp ka kt va vt then some (h▸(show(Ty.mp ka' kt' va' vt').den×(Ty.mp ka' kt' va' vt').den from(es,left)):(Ty.mp ka kt va vt).den×(Ty.mp ka kt va vt).den)else none)else none
  | _=>none
@[reducible] def YS:List (Nat×LT)->Type
 | []=>Unit
 | (_,t)::r=>t.den×YS r
structure Wo where
 keepS:List Nat
 keepL:List Nat
 modS:List (Nat×Bool×List Og)
 boxL:List (Nat×TypeId×List Og)
 rowL:List (Nat×LT)
def A5k:List (Nat×Bool×List Og)->List Og->List Og
 | [],r=>r
 | (_,_,cs)::l,r=>cs++A5k l r
def A5j:List (Nat×TypeId×List Og)->List Og
 | []=> []
 | (_,_,cs)::l=>cs++A5j l
def Wo.shs (A:Wo):List Og:=A5k A.modS (A5j A.boxL)
@[reducible] def Wo.den (A:Wo):Type:=iY A.shs (YS A.rowL)
def shW:(shs:List Og)-> {T:Type} ->(T->Prop)->iY shs T->Prop
 | [],_,q,x=>q x
 | .val t::r,_,q,x=>t.wf x.1/\shW r q x.2
 | .own t _::r,_,q,x=>(Ty.sl t).wf x.1/\shW r q x.2
 | .ownR t _ _::r,_,q,x=>(Ty.sl (Ty.sl t)).wf x.1/\shW r q x.2
 | .fix _::r,_,q,x=>shW r q x
 | .fixB _::r,_,q,x=>shW r q x
def A3o:(l:List (Nat×LT))->YS l->Prop
 | [],_=>True
 | (_,t)::r,x=>t.wf x.1/\A3o r x.2
def Wo.wf (A:Wo) (p:A.den):Prop:=shW A.shs (A3o A.rowL) p
def TB (st:St):List (Nat×Bool×List Og)->List C->Option (List C)
 | [],r=>some r
 | (s,agg,shs)::l,r=>match st.S s with
  | .one ⟨a,cs⟩=>bif(a==agg)&&Nat.beq cs.length shs.length then(TB st l r).map (cs++ ·)else none
  | _=>none
def TA (st:St):List (Nat×TypeId×List Og)->Option (List C)
 | []=>some []
 | (k,T,shs)::l=>match st.L k with
  | .box T' cs=>bif Nat.beq T' T&&Nat.beq cs.length shs.length then(TA st l).map (cs++ ·)else none
  | _=>none
def Wo.cells (A:Wo) (st:St):Option (List C):=(TA st A.boxL).bind (TB st A.modS)
def settleSh:St->List Og->List C->St
 |st, .val _::r,c::cs=>settleSh (settle st [c]) r cs
 |st, .own _ _::r,c::cs=>settleSh (thawS st ⟨false,[c]⟩) r cs
 |st, .ownR _ _ _::r,_::cs=>settleSh st r cs
 |st, .fix _::r,_::cs=>settleSh st r cs
 |st, .fixB _::r,_::cs=>settleSh st r cs
 |st,_,_=>st
def A5d (k:Nat):C->Bool
 | .row j=>Nat.beq j k
 | _=>false
def A5b (k:Nat):C->Bool
 | .box j 0=>Nat.beq j k
 | _=>false
def T0 (st:St):(shs:List Og)-> {T:Type} ->T->List C->Option (iY shs T)
 | [],_,x,[]=>some x
 | .val t::r,_,x,c::cs=>(GM t c).bind fun y=>(T0 st r x cs).map fun z=>(y,z)
 | .own t e::r,_,x,c::cs=>(EC st t e c).bind fun y=>(T0 st r x cs).map fun z=>(y,z)
 | .ownR t e e'::r,_,x,c::cs=>(RO st t e e' c).bind fun y=>(T0 st r x cs).map fun z=>(y,z)
 | .fix k::r,_,x,c::cs=>bif A5d k c then T0 st r x cs else none
 | .fixB k::r,_,x,c::cs=>bif A5b k c then T0 st r x cs else none
 | _,_,_,_=>none
def kM (l:List (Nat×LT)) (bl:List (Nat×TypeId×List Og)):Og->Bool
 | .fixB k=>bl.any fun x=>Nat.beq x.1 k
 | .fix k=>l.any fun x=>Nat.beq x.1 k
 | _=>true
def iD (st:St):(l:List (Nat×LT))->Option (YS l)
 | []=>some ()
 | (k,t)::r=>(bJ st k t).bind fun y=>(iD st r).map fun z=>(y,z)
def K5:List Og->List C->List Nat
 | .own _ _::r, .row k::cs=>k::K5 r cs
 | .ownR _ _ _::r, .row k::cs=>k::K5 r cs
 | _::r,_::cs=>K5 r cs
 | _,_=> []
def XR {α:Type} (d:α) (l:List (Nat×α)):List Nat->List (Nat×α)
 | []=> []
 |s::r=>(s,find d s l)::XR d l r
def gath (A:Wo) (st:St):Option (St×A.den):=do
 let cs<-A.cells (plugL A.rowL st)
 let st1:=settleSh (plugL A.rowL st) A.shs cs
 let cs1<-A.cells st1
 let tl<-iD st1 A.rowL
 let p<-T0 st1 A.shs tl cs1
 bif Xm (A.keepL++(K5 A.shs cs1++((A.rowL.map fun x=>x.1)++(A.boxL.map fun x=>x.1))))&&A.shs.all (kM A.rowL A.boxL)then some (st1,p)else none
def A3f:(t:Ty)->t.den->C
 | .ptr t,x=> .pf t x 0
 |t,x=> .val t x
def placeSh:(shs:List Og)-> {T:Type} ->iY shs T->St->List C×St×T
 | [],_,x,st=>([],st,x)
 | .val t::r,_,x,st=>(fun p=>(A3f t x.1::p.1,p.2)) (placeSh r x.2 st)
 | .own t e::r,_,x,st=>(fun p=>(C.row st.nx::p.1,p.2)) (placeSh r x.2 (st.newL (.row t e x.1)))
 | .ownR t e e'::r,_,x,st=>(fun p=>(C.row st.nx::p.1,p.2)) (placeSh r x.2 (st.newL (.rows t e e' x.1 [] none)))
 | .fix k::r,_,x,st=>(fun p=>(C.row k::p.1,p.2)) (placeSh r x st)
 | .fixB k::r,_,x,st=>(fun p=>(C.box k 0::p.1,p.2)) (placeSh r x st)
def putRows:(l:List (Nat×LT))->YS l->St->St
 | [],_,st=>st
 | (k,t)::r,x,st=>putRows r x.2 (st.setL k (t.lc x.1))
def putS:List (Nat×Bool×List Og)->List C->St->List C×St
 | [],cs,st=>(cs,st)
 | (s,agg,shs)::r,cs,st=>putS r (cs.drop shs.length) (st.setS s (.one ⟨agg,cs.take shs.length⟩))
def putB:List (Nat×TypeId×List Og)->List C->St->St
 | [],_,st=>st
 | (k,T,shs)::r,cs,st=>putB r (cs.drop shs.length) (st.setL k (.box T (cs.take shs.length)))
def iQ:List (Nat×TypeId×List Og)->Nat->Nat
 | [],n=>n
 |y::r,n=>iQ r (bif Nat.blt y.1 n then n else y.1+1)
theorem Jk:∀(l:List (Nat×TypeId×List Og)) (n:Nat),n<=iQ l n
 | [],n=>Nat.le_refl n
 |y::r,n=>by
  refine Nat.le_trans ?_ (Jk r _);cases hb:Nat.blt y.1 n with
  |true=>exact Nat.le_refl n
  |false=>
   have:¬y.1<n:=fun h=>by rw[show Nat.blt y.1 n=true from by rw[Nat.blt_eq];exact h]at hb;cases hb
   show n<=y.1+1;omega
theorem LR:∀ {l:List (Nat×TypeId×List Og)} {n:Nat},∀y∈l,y.1<iQ l n
 |y::r,n,z,hz=>by
  rcases List.mem_cons.1 hz with rfl|hz
  . refine Nat.lt_of_lt_of_le ?_ (Jk r _);cases hb:Nat.blt z.1 n with
    |true=>rw[Nat.blt_eq]at hb;exact hb
    |false=>exact Nat.lt_succ_self _
  . exact LR (l:=r) z hz
def kept (A:Wo) (st:St):St:=⟨XR (0, .dead) st.sl A.keepS,XR (0, .none) st.lc A.keepL,iQ A.boxL st.nx,st.ct+1,st.nm,st.fr⟩
def reflect (A:Wo) (st0:St) (p:A.den):St:=
 (fun q=>(fun r=>putB A.boxL r.1 r.2) (putS A.modS q.1 (putRows A.rowL q.2.2 q.2.1))) (placeSh A.shs p (kept A st0))
def TM (n:Nat) (g:Nat):Bool:=Nat.ble 1 g&&Nat.ble g n
def lS (A:Wo) (st0 st:St):Bool:=(A.keepS.all fun s=>TM st0.ct (st.eS s).1)&&(A.keepL.all fun k=>TM st0.ct (st.eL k).1)&&(A.rowL.all fun x=>Nat.blt x.1 st0.nx)&&A3e st0.ct st.fr
def CC (A:Wo) (st0:St) (J:A.den->Prop) (st:St):Prop:=
 match gath A st with
 |some (st1,p)=>bif lS A st0 st1 then J p else False
 |none=>False
section
variable {za:Zn} {w0 w:World} {Z:Nat->Prop} {B:Nat->Value} {st st0:St} {E:F5}
theorem C4.plugL:∀(l:List (Nat×LT)) (st:St),C4 st (plugL l st)
 | [],st=>C4.refl st
 | (k, .nest _ _ _)::r,st=>(C4.giveS st k).trans (C4.plugL r _)
 | (k, .row _ _)::r,st=>(C4.thawS st ⟨false,[.row k]⟩).trans (C4.plugL r _)
 | (_, .map _ _ _ _)::r,st=>C4.plugL r st
 | (_, .rows _ _ _)::r,st=>C4.plugL r st
 | (_, .iter _ _ _ _)::r,st=>C4.plugL r st
 | (_, .itM _ _ _ _ _)::r,st=>C4.plugL r st
theorem B9.plugL (hb0:za.b0=0):∀ {l:List (Nat×LT)} {st:St} {Z:Nat->Prop},B9 za w0 st E w Z B->∃Z',B9 za w0 (plugL l st) E w Z' B
 | [],_,Z,h=>⟨Z,h⟩
 | (k, .nest _ _ _)::r,_,_,h=>B9.plugL hb0 (l:=r) (h.giveS hb0 k)
 | (k, .row _ _)::r,_,_,h=>by
  obtain⟨Z1,h1⟩:=h.thaw k;exact B9.plugL hb0 (l:=r) h1
 | (_, .map _ _ _ _)::r,_,_,h=>B9.plugL hb0 (l:=r) h
 | (_, .rows _ _ _)::r,_,_,h=>B9.plugL hb0 (l:=r) h
 | (_, .iter _ _ _ _)::r,_,_,h=>B9.plugL hb0 (l:=r) h
 | (_, .itM _ _ _ _ _)::r,_,_,h=>B9.plugL hb0 (l:=r) h
theorem C4.settleSh:∀(shs:List Og) (cs:List C) (st:St),C4 st (settleSh st shs cs)
 | .val _::r,c::cs,st=>(C4.settle st [c]).trans (C4.settleSh r cs _)
 | .own _ _::r,c::cs,st=>(C4.thawS st ⟨false,[c]⟩).trans (C4.settleSh r cs _)
 | .ownR _ _ _::r,_::cs,st=>C4.settleSh r cs st
 | .ownR _ _ _:: _,[],st=>C4.refl st
 | .fix _::r,_::cs,st=>C4.settleSh r cs st
 | .fixB _::r,_::cs,st=>C4.settleSh r cs st
 | .fixB _:: _,[],st=>C4.refl st
 | [],_,st=>C4.refl st
 | .val _:: _,[],st=>C4.refl st
 | .own _ _:: _,[],st=>C4.refl st
 | .fix _:: _,[],st=>C4.refl st
theorem B9.settleSh:∀ {shs:List Og} {cs:List C} {st:St} {Z:Nat->Prop},B9 za w0 st E w Z B->∃Z',B9 za w0 (settleSh st shs cs) E w Z' B
 | .val _::r,c::cs,st,Z,h=>by
  obtain⟨Z1,h1⟩:=h.settle [c];exact B9.settleSh (shs:=r) (cs:=cs) h1
 | .own _ _::r,c::cs,st,Z,h=>by
  obtain⟨Z1,h1⟩:=h.thawS ⟨false,[c]⟩;exact B9.settleSh (shs:=r) (cs:=cs) h1
 | .ownR _ _ _::r,_::cs,st,Z,h=>B9.settleSh (shs:=r) (cs:=cs) h
 | .ownR _ _ _:: _,[],st,Z,h=>⟨Z,h⟩
 | .fix _::r,_::cs,st,Z,h=>B9.settleSh (shs:=r) (cs:=cs) h
 | .fixB _::r,_::cs,st,Z,h=>B9.settleSh (shs:=r) (cs:=cs) h
 | .fixB _:: _,[],st,Z,h=>⟨Z,h⟩
 | [],_,st,Z,h=>⟨Z,h⟩
 | .val _:: _,[],st,Z,h=>⟨Z,h⟩
 | .own _ _:: _,[],st,Z,h=>⟨Z,h⟩
 | .fix _:: _,[],st,Z,h=>⟨Z,h⟩
theorem C4.putRows:∀(l:List (Nat×LT)) (x:YS l) (st:St),C4 st (putRows l x st)
 | [],_,st=>C4.refl st
 | (k,t)::r,x,st=>(C4.setL st k _).trans (C4.putRows r x.2 _)
theorem C4.placeSh:∀(shs:List Og) {T:Type} (x:iY shs T) (st:St),C4 st (placeSh shs x st).2.1
 | [],_,_,st=>C4.refl st
 | .val t::r,_,x,st=>C4.placeSh r x.2 st
 | .own t e::r,_,x,st=>(C4.newL st (.row t e x.1)).trans (C4.placeSh r x.2 _)
 | .ownR t e e'::r,_,x,st=>(C4.newL st (.rows t e e' x.1 [] none)).trans (C4.placeSh r x.2 _)
 | .fix _::r,_,x,st=>C4.placeSh r x st
 | .fixB _::r,_,x,st=>C4.placeSh r x st
theorem C4.putS:∀(l:List (Nat×Bool×List Og)) (cs:List C) (st:St),C4 st (putS l cs st).2
 | [],_,st=>C4.refl st
 | (s,agg,shs)::r,cs,st=>(C4.setS st s _).trans (C4.putS r _ _)
theorem C4.putB:∀(l:List (Nat×TypeId×List Og)) (cs:List C) (st:St),C4 st (putB l cs st)
 | [],_,st=>C4.refl st
 | (k,T,shs)::r,cs,st=>(C4.setL st k _).trans (C4.putB r _ _)
theorem C4.reflect (A:Wo) (st0:St) (p:A.den):C4 (kept A st0) (reflect A st0 p):=
 (C4.placeSh A.shs p _).trans ((C4.putRows _ _ _).trans ((C4.putS _ _ _).trans (C4.putB _ _ _)))
theorem Xb {α:Type} (d:α) (l:List (Nat×α)) (q:Nat):∀ks:List Nat,find d q (XR d l ks)=if q∈ks then find d q l else d
 | []=>rfl
 |s::r=>by
  simp only[XR,find,Xb d l q r];cases hb:Nat.beq s q with
  |true=>have:=Nat.eq_of_beq_eq_true hb;subst this;simp
  |false=>
   have:q≠s:=fun h=>by subst h;simp at hb
   simp[this]
theorem TV (A:Wo) (st:St) (s:Nat):(kept A st).eS s=if s∈A.keepS then st.eS s else(0, .dead):=Xb ..
theorem TU (A:Wo) (st:St) (k:Nat):(kept A st).eL k=if k∈A.keepL then st.eL k else(0, .none):=Xb ..
theorem YR {A:Wo} {p:A.den} {s:Nat} (h0:((reflect A st0 p).eS s).1≠0) (h1:((reflect A st0 p).eS s).1<=st0.ct):(reflect A st0 p).eS s=st0.eS s:=by
 have e:=(C4.reflect A st0 p).s s h0 (Nat.le_succ_of_le h1);rw[e]at h0⊢;rw[TV]at h0⊢;split
 . rfl
 . rename_i hn;rw[if_neg hn]at h0;exact absurd rfl h0
theorem UV {A:Wo} {p:A.den} {k:Nat} (h0:((reflect A st0 p).eL k).1≠0) (h1:((reflect A st0 p).eL k).1<=st0.ct):(reflect A st0 p).eL k=st0.eL k:=by
 have e:=(C4.reflect A st0 p).l k h0 (Nat.le_succ_of_le h1);rw[e]at h0⊢;rw[TU]at h0⊢;split
 . rfl
 . rename_i hn;rw[if_neg hn]at h0;exact absurd rfl h0
structure oF (n:Nat) (st:St):Prop where
 nms:st.nm=n/\n<=st.nx
 refs:∀s,AH st.nx (st.S s)
 refl:∀k,Pr st.nx (st.L k)
 fresh:∀k,st.nx<=k->st.L k= .none
 frf:VJ st.nx st.fr
theorem B9.pure (h:B9 za w0 st E w Z B):oF za.n st:=⟨h.nms,h.refs,h.refl,h.fresh,h.frf⟩
structure Eu (za:Zn) (w0:World) (st2:St) (E:F5) (w:World) (Z:Nat->Prop) (B:Nat->Value) (used:List Nat) (st:St) (BX:Nat->Value):Prop where
 rel:B9 za w0 st E w Z BX
 own:∀j b,A6 w (BX j) (st.L j) b->∃q,q∈used/\A6 w (B q) (st2.L q) b
theorem Eu.disj {st2:St} {used:List Nat} {BX:Nat->Value} (h2:B9 za w0 st2 E w Z B) (c:Eu za w0 st2 E w Z B used st BX) {q:Nat} (hq:q∉used):∀k b,A6 w (B q) (st2.L q) b->¬A6 w (BX k) (st.L k) b:=fun k b hb hb'=>by
 obtain⟨q',hu,hl'⟩:=c.own k b hb';exact h2.disj q q' b (fun hh=>hq (hh▸hu)) hb hl'
end
section
variable {za:Zn} {w0 w:World} {Z:Nat->Prop} {B:Nat->Value} {st st0 st2:St} {E:F5}
theorem B9.setSame (h:B9 za w0 st E w Z B) (s:Nat) {x:DV} (hx:RD w Z B E x (E s)) (hr:AH st.nx x):B9 za w0 (st.setS s x) E w Z B:=by
 have e:upd E s (E s)=E:=by
  funext t;by_cases ht:t=s
  . subst ht;exact B4 _ _ _
  . exact C6 _ _ _ _ ht
 have:=h.setS s (x:=x) (v:=E s) (by rw[e];exact hx) hr;rwa[e]at this
theorem A1y {A:Wo} (h2:B9 za w0 st2 E w Z B) (pk:oF za.n st0) (hS:∀s∈A.keepS,st2.eS s=st0.eS s) (hL:∀k∈A.keepL,st2.eL k=st0.eL k) (hF:st2.fr=st0.fr):Eu za w0 st2 E w Z B A.keepL (kept A st0) B:=by
 have eS:∀s,(kept A st0).S s=if s∈A.keepS then st2.S s else .dead:=fun s=>by
  show((kept A st0).eS s).2= _;rw[TV];split
  . rename_i hs;rw[<-hS s hs];rfl
  . rfl
 have eL:∀k,(kept A st0).L k=if k∈A.keepL then st2.L k else .none:=fun k=>by
  show((kept A st0).eL k).2= _;rw[TU];split
  . rename_i hs;rw[<-hL k hs];rfl
  . rfl
 have e0S:∀s,(kept A st0).S s=if s∈A.keepS then st0.S s else .dead:=fun s=>by
  show((kept A st0).eS s).2= _;rw[TV];split<;>rfl
 have e0L:∀k,(kept A st0).L k=if k∈A.keepL then st0.L k else .none:=fun s=>by
  show((kept A st0).eL s).2= _;rw[TU];split<;>rfl
 have lv:∀k b,A6 w (B k) ((kept A st0).L k) b->k∈A.keepL/\A6 w (B k) (st2.L k) b:=fun k b hk=>by
  rw[eL]at hk;split at hk
  . rename_i hm;exact⟨hm,hk⟩
  . exact hk.elim
 refine⟨⟨h2.ext,h2.zlt,fun s=> ?_,fun k=> ?_,fun k k' b hne l1 l2=>h2.disj k k' b hne (lv k b l1).2 (lv k' b l2).2,fun s=> ?_,fun k=> ?_,fun k hk=> ?_,h2.bone,h2.zin,⟨pk.nms.1,Nat.le_trans pk.nms.2 (Jk _ _)⟩,h2.bfix,⟨h2.mrk.1,fun k b hk hl=>h2.mrk.2 k b hk (lv k b hl).2⟩,(by have:=h2.frs;rw[hF]at this;exact this),pk.frf.le (Jk _ _)⟩,fun j b hj=>⟨j,(lv j b hj).1,(lv j b hj).2⟩⟩
 . rw[eS];split
   . exact h2.slots s
   . trivial
 . rw[eL];split
   . exact h2.locs k
   . trivial
 . rw[e0S];split
   . exact(pk.refs s).le (Jk _ _)
   . trivial
 . rw[e0L];split
   . exact(pk.refl k).le (Jk _ _)
   . trivial
 . rw[e0L];split
   . exact pk.fresh k (Nat.le_trans (Jk _ _) hk)
   . rfl
theorem ED (h2:B9 za w0 st2 E w Z B) {t:Ty} {e:TypeId} {c:C} {l:List t.den} {v:Value} (hc:RC w Z B c v) (hr:EC st2 t e c=some l):
 ∃xs,w.ownsRow w0.heap.size e t.size v l.length xs/\F2 (C7 t w Z) xs l/\(∀b,v.ownBlock=some b->¬Z b)/\((∃q,c= .row q/\live (st2.L q)/\v=B q)\/(root v=none/\∀q,c≠ .row q)):=by
 unfold EC at hr;split at hr
 . rename_i q;split at hr
   . rename_i t' e' l' hq;split at hr
     . rename_i heq;subst heq;obtain⟨he,hr⟩:=D9 hr;cases hr;simp only[Bool.and_eq_true]at he;have hqn:=Nat.le_of_ble_eq_true he.2;have hee:=Nat.eq_of_beq_eq_true he.1;subst hee;have hL:=h2.locs q;rw[hq]at hL;obtain⟨xs,h1,h3,h4⟩:=hL;have hv:v=B q:=hc;subst hv;have hup:∀b,(B q).ownBlock=some b->w0.heap.size<=b:=fun b hb=>by
        rcases(h4 b hb).1 with g|g
        . exact g.2
        . have:=h2.nms.1;omega
       exact⟨xs,UN h1 hup,h3,fun b hb=>(h4 b hb).2, .inl ⟨q,rfl,by rw[hq];trivial,rfl⟩⟩
     . cases hr
   . cases hr
 . obtain⟨hn,hr⟩:=D9 hr;cases hr;have hv:v= .slice none 0 0:=by rw[hc.1];exact Cs hn
   subst hv;exact⟨[],World.ownsRow_nil _ _ _ _,rfl,fun b hb=>(by cases hb), .inr ⟨rfl,fun q hq=>(by cases hq)⟩⟩
 . cases hr
theorem YU (h2:B9 za w0 st2 E w Z B) {t:Ty} {e e':TypeId} {c:C} {ls:List (List t.den)} {v:Value} (hc:RC w Z B c v) (hr:RO st2 t e e' c=some ls):
 X8 w Z t e e' v ls/\v.oneCell'=true/\(∀b,A6 w v (.rows t e e' ls [] none) b->¬Z b/\w0.heap.size<=b/\b<w.heap.size)/\((∃q,c= .row q/\v=B q/\∀b,A6 w v (.rows t e e' ls [] none) b->A6 w (B q) (st2.L q) b)\/((∀b,¬A6 w v (.rows t e e' ls [] none) b)/\∀q,c≠ .row q)):=by
 unfold RO at hr;split at hr
 . rename_i q;obtain⟨hq,hr⟩:=D9 hr;obtain⟨al,hk⟩:=T1 hr;obtain⟨g1,g2⟩:=h2.rowsAt hk (Nat.le_of_ble_eq_true hq);have hv:v=B q:=hc;subst hv;exact⟨g1,h2.bone q,fun b hb=>⟨(g2 b hb).1,(g2 b hb).2.1,(g2 b hb).2.2.1⟩, .inl ⟨q,rfl,rfl,fun b hb=>(g2 b hb).2.2.2⟩⟩
 . obtain⟨hn,hr⟩:=D9 hr;cases hr;have hv:v= .slice none 0 0:=by rw[hc.1];exact Cs hn
   exact⟨⟨[],by rw[hv];exact World.ownsRow_nil _ _ _ _,fun i l u hl=>(by simp at hl),fun i j u v b _ hu=>(by simp at hu),fun i u b hu=>(by simp at hu)⟩,by rw[hv];rfl,fun b hb=>absurd hb (KF hv), .inr ⟨fun b=>KF hv,fun q hq=>(by cases hq)⟩⟩
 . cases hr
theorem pW {t:Ty} {v:Value} {x:t.den} (h:C7 t w Z [v] x):RC w Z B (A3f t x) v:=by
 cases t with
 |ptr t=>
  obtain⟨b,o,ec,e,r⟩:=h;simp only[List.cons.injEq,and_true]at e;exact⟨b,o,ec,by rw[e];rfl,r⟩
 | _=>exact h
theorem mQ {n:Nat} {t:Ty} {x:t.den} :Z4 n (A3f t x):=by cases t<;>trivial
theorem Ll (hb0:za.b0=0) (h2:B9 za w0 st2 E w Z B):∀ {shs:List Og} {T:Type} {tl:T} {cs:List C} {vs:List Value} {p:iY shs T} {st:St} {BX:Nat->Value} {used:List Nat},Eu za w0 st2 E w Z B used st BX->X7 w Z B cs vs->T0 st2 shs tl cs=some p->(∀q∈K5 shs cs,q∉used)->(K5 shs cs).Nodup->(∀c∈shs,∀k,c.pin=some k->k<st.nx/\BX k=B k)->
 ∃BX',Eu za w0 st2 E w Z B (K5 shs cs++used) (placeSh shs p st).2.1 BX'/\X7 w Z BX' (placeSh shs p st).1 vs/\(∀c∈(placeSh shs p st).1,Z4 (placeSh shs p st).2.1.nx c)/\(∀k,k<st.nx->BX' k=BX k)/\st.nx<=(placeSh shs p st).2.1.nx/\(placeSh shs p st).2.2=tl
 | [],_,tl,[],vs,p,st,BX,used,c,hv,hp,_,_,_=>by
  simp only[T0,Option.some.injEq]at hp;exact⟨BX,c,hv,by simp[placeSh],fun _ _=>rfl,Nat.le_refl _,hp.symm⟩
 | [],_,_,_:: _,_,_,_,_,_,_,_,hp,_,_,_=>by cases hp
 | .val t::r,_,_,[],_,_,_,_,_,_,_,hp,_,_,_=>by cases hp
 | .own t e::r,_,_,[],_,_,_,_,_,_,_,hp,_,_,_=>by cases hp
 | .ownR t e e'::r,_,_,[],_,_,_,_,_,_,_,hp,_,_,_=>by cases hp
 | .fix k::r,_,_,[],_,_,_,_,_,_,_,hp,_,_,_=>by cases hp
 | .fixB k::r,_,_,[],_,_,_,_,_,_,_,hp,_,_,_=>by cases hp
 | .fix k::r,T,tl,c0::cs,vs,p,st,BX,used,c,⟨v,vs',e,hv1,hv2⟩,hp,hu,hn,hf=>by
  simp only[T0]at hp;obtain⟨hk,hp⟩:=D9 hp;have hid:K5 (.fix k::r) (c0::cs)=K5 r cs:=by cases c0<;>rfl
  rw[hid]at hu hn⊢;obtain⟨BX',g1,g2,g3,g4,g5,g6⟩:=Ll hb0 h2 c hv2 hp hu hn (fun j hj=>hf j (List.mem_cons_of_mem _ hj));subst e;have hkk:=hf _ List.mem_cons_self k rfl;cases c0 with
  |row j=>
   have:=Nat.eq_of_beq_eq_true hk;subst this;refine⟨BX',g1,⟨v,vs',rfl, ?_,g2⟩,fun q hq=> ?_,g4,g5,g6⟩
   . show v=BX' j;rw[g4 j hkk.1,hkk.2];exact hv1
   . rcases List.mem_cons.1 hq with rfl|hq
     . exact Nat.lt_of_lt_of_le hkk.1 g5
     . exact g3 q hq
  | _=>cases hk
 | .fixB k::r,T,tl,c0::cs,vs,p,st,BX,used,c,⟨v,vs',e,hv1,hv2⟩,hp,hu,hn,hf=>by
  simp only[T0]at hp;obtain⟨hk,hp⟩:=D9 hp;have hid:K5 (.fixB k::r) (c0::cs)=K5 r cs:=by cases c0<;>rfl
  rw[hid]at hu hn⊢;obtain⟨BX',g1,g2,g3,g4,g5,g6⟩:=Ll hb0 h2 c hv2 hp hu hn (fun j hj=>hf j (List.mem_cons_of_mem _ hj));subst e;have hkk:=hf _ List.mem_cons_self k rfl;cases c0 with
  |box j o=>
   cases o with
   |succ o=>cases hk
   |zero=>
   have:=Nat.eq_of_beq_eq_true hk;subst this;refine⟨BX',g1,⟨v,vs',rfl, ?_,g2⟩,fun q hq=> ?_,g4,g5,g6⟩
   . obtain⟨b,hb,hv⟩:=hv1;exact⟨b,by rw[g4 j hkk.1,hkk.2];exact hb,hv⟩
   . rcases List.mem_cons.1 hq with rfl|hq
     . exact Nat.lt_of_lt_of_le hkk.1 g5
     . exact g3 q hq
  | _=>cases hk
 | .val t::r,T,tl,c0::cs,vs,p,st,BX,used,c,⟨v,vs',e,hv1,hv2⟩,hp,hu,hn,hf=>by
  simp only[T0,bind_some,Option.map_eq_some_iff]at hp;obtain⟨y,hy,z,hz,rfl⟩:=hp;have hid:K5 (.val t::r) (c0::cs)=K5 r cs:=by cases c0<;>rfl
  rw[hid]at hu hn⊢;obtain⟨BX',g1,g2,g3,g4,g5,g6⟩:=Ll hb0 h2 c hv2 hz hu hn (fun j hj=>hf j (List.mem_cons_of_mem _ hj));subst e;refine⟨BX',g1,⟨v,vs',rfl,pW (HD hv1 hy),g2⟩,fun q hq=> ?_,g4,g5,g6⟩;rcases List.mem_cons.1 hq with rfl|hq
  . exact mQ
  . exact g3 q hq
 | .ownR t e0 e1::r,T,tl,c0::cs,vs,p,st,BX,used,c,⟨v,vs',e,hv1,hv2⟩,hp,hu,hn,hf=>by
  simp only[T0,bind_some,Option.map_eq_some_iff]at hp;obtain⟨l,hl,z,hz,rfl⟩:=hp;subst e;obtain⟨o1,hv1',o3,o4⟩:=YU h2 hv1 hl;have key:∃used',Eu za w0 st2 E w Z B used' (st.newL (.rows t e0 e1 l [] none)) (upd BX st.nx v)/\(∀q∈K5 r cs,q∉used')/\(K5 r cs).Nodup/\(∀q,q∈K5 (.ownR t e0 e1::r) (c0::cs)++used↔q∈K5 r cs++used'):=by
   have mk:∀used',(∀q∈used,q∈used')->(∀b,A6 w v (.rows t e0 e1 l [] none) b->∃q,q∈used'/\A6 w (B q) (st2.L q) b)->(∀k b,A6 w v (.rows t e0 e1 l [] none) b->¬A6 w (BX k) (st.L k) b)->Eu za w0 st2 E w Z B used' (st.newL (.rows t e0 e1 l [] none)) (upd BX st.nx v):=by
    intro used' hsub hq hd;refine⟨c.rel.new (v:=v) (lc:= .rows t e0 e1 l [] none) (X8.rl (by rw[B4];exact o1) fun b hb=>by rw[B4]at hb;exact⟨.inl ⟨c.rel.nms.2,(o3 b hb).2.1⟩,(o3 b hb).1,(o3 b hb).2.2⟩) hd (fun p hp=>by cases hp) hv1' (fun b _ _=>by rw[hb0];exact Nat.zero_le _),fun j b hj=> ?_⟩;rw[St.L_newL]at hj;by_cases hjn:j=st.nx
    . subst hjn;rw[B4,if_pos rfl]at hj;exact hq b hj
    . rw[if_neg hjn,C6 _ _ _ _ hjn]at hj;obtain⟨q,h1,h3⟩:=c.own j b hj;exact⟨q,hsub q h1,h3⟩
   rcases o4 with⟨q,rfl,hvq,hfq⟩ | ⟨hnr,hnq⟩
   . have hid:K5 (.ownR t e0 e1::r) (.row q::cs)=q::K5 r cs:=rfl;rw[hid]at hu hn⊢;have hn':=List.nodup_cons.1 hn;refine⟨q::used,mk _ (fun x hx=>List.mem_cons_of_mem _ hx) (fun b hb=>⟨q,by simp,hfq b hb⟩) (fun k b hb=> ?_),fun x hx=> ?_,hn'.2,fun x=>by grind⟩
     . exact c.disj h2 (hu q (by simp)) k b (hfq b hb)
     . intro hxu;rcases List.mem_cons.1 hxu with rfl|hxu
       . exact hn'.1 hx
       . exact hu x (List.mem_cons_of_mem _ hx) hxu
   . have hid:K5 (.ownR t e0 e1::r) (c0::cs)=K5 r cs:=by cases c0<;>first|rfl|exact absurd rfl (hnq _)
     rw[hid]at hu hn⊢;exact⟨used,mk _ (fun x hx=>hx) (fun b hb=>absurd hb (hnr b)) (fun k b hb=>absurd hb (hnr b)),hu,hn,fun x=>Iff.rfl⟩
  obtain⟨used',c',hu',hn',hiff⟩:=key;obtain⟨BX',g1,g2,g3,g4,g5,g6⟩:=Ll hb0 h2 c' hv2 hz hu' hn' (fun j hj k hk=>by
   obtain⟨a,b⟩:=hf j (List.mem_cons_of_mem _ hj) k hk;exact⟨Nat.lt_succ_of_lt a,(C6 _ _ _ _ (Nat.ne_of_lt a)).trans b⟩)
  have hBn:BX' st.nx=v:=by rw[g4 st.nx (Nat.lt_succ_self _),B4]
  refine⟨BX',⟨g1.rel,fun j b hj=> ?_⟩,⟨v,vs',rfl,hBn.symm,g2⟩,fun q hq=> ?_,fun k hk=> ?_,Nat.le_trans (Nat.le_succ _) g5,g6⟩
  . obtain⟨q,h1,h3⟩:=g1.own j b hj;exact⟨q,(hiff q).2 h1,h3⟩
  . rcases List.mem_cons.1 hq with rfl|hq
    . exact Nat.lt_of_lt_of_le (Nat.lt_succ_self _) g5
    . exact g3 q hq
  . rw[g4 k (Nat.lt_succ_of_lt hk),C6 _ _ _ _ (Nat.ne_of_lt hk)]
 | .own t e0::r,T,tl,c0::cs,vs,p,st,BX,used,c,⟨v,vs',e,hv1,hv2⟩,hp,hu,hn,hf=>by
  simp only[T0,bind_some,Option.map_eq_some_iff]at hp;obtain⟨l,hl,z,hz,rfl⟩:=hp;subst e;obtain⟨xs,o1,o2,o3,o4⟩:=ED h2 hv1 hl;have hv1':v.oneCell'=true:=by rcases o1.2 with⟨hv,_⟩ | ⟨_,_,_,hv,_⟩<;>rw[hv]<;>rfl
  have hro:=E2 o1;have key:∃used',Eu za w0 st2 E w Z B used' (st.newL (.row t e0 l)) (upd BX st.nx v)/\(∀q∈K5 r cs,q∉used')/\(K5 r cs).Nodup/\(∀q,q∈K5 (.own t e0::r) (c0::cs)++used↔q∈K5 r cs++used'):=by
   have mk:∀used',(∀q∈used,q∈used')->(∀b,root v=some b->∃q,q∈used'/\A6 w (B q) (st2.L q) b)->(∀k b,root v=some b->¬A6 w (BX k) (st.L k) b)->Eu za w0 st2 E w Z B used' (st.newL (.row t e0 l)) (upd BX st.nx v):=by
    intro used' hsub hq hd;refine⟨c.rel.new (v:=v) (lc:= .row t e0 l) ⟨xs,by rw[B4];exact Hj o1 (Nat.zero_le _),o2,fun b hb=>by rw[B4]at hb;exact⟨.inl ⟨c.rel.nms.2,(World.ownsRow.lt o1 b hb).1⟩,o3 b hb⟩⟩ hd trivial hv1' (fun b _ _=>by rw[hb0];exact Nat.zero_le _),fun j b hj=> ?_⟩;rw[St.L_newL]at hj;by_cases hjn:j=st.nx
    . subst hjn;rw[B4,if_pos rfl]at hj;exact hq b hj
    . rw[if_neg hjn,C6 _ _ _ _ hjn]at hj;obtain⟨q,h1,h3⟩:=c.own j b hj;exact⟨q,hsub q h1,h3⟩
   rcases o4 with⟨q,rfl,hlq,hvq⟩ | ⟨hnr,hnq⟩
   . have hid:K5 (.own t e0::r) (.row q::cs)=q::K5 r cs:=rfl;rw[hid]at hu hn⊢;have hn':=List.nodup_cons.1 hn;refine⟨q::used,mk _ (fun x hx=>List.mem_cons_of_mem _ hx) (fun b hb=>⟨q,by simp,A6.of hlq (by rw[<-hvq];exact hb)⟩) (fun k b hb=> ?_),fun x hx=> ?_,hn'.2,fun x=>by grind⟩
     . rw[hvq]at hb;exact c.disj h2 (hu q (by simp)) k b (A6.of hlq hb)
     . intro hxu;rcases List.mem_cons.1 hxu with rfl|hxu
       . exact hn'.1 hx
       . exact hu x (List.mem_cons_of_mem _ hx) hxu
   . have hid:K5 (.own t e0::r) (c0::cs)=K5 r cs:=by cases c0<;>first|rfl|exact absurd rfl (hnq _)
     rw[hid]at hu hn⊢;exact⟨used,mk _ (fun x hx=>hx) (fun b hb=>by rw[hnr]at hb;cases hb) (fun k b hb=>by rw[hnr]at hb;cases hb),hu,hn,fun x=>Iff.rfl⟩
  obtain⟨used',c',hu',hn',hiff⟩:=key;obtain⟨BX',g1,g2,g3,g4,g5,g6⟩:=Ll hb0 h2 c' hv2 hz hu' hn' (fun j hj k hk=>by
   obtain⟨a,b⟩:=hf j (List.mem_cons_of_mem _ hj) k hk;exact⟨Nat.lt_succ_of_lt a,(C6 _ _ _ _ (Nat.ne_of_lt a)).trans b⟩)
  have hBn:BX' st.nx=v:=by rw[g4 st.nx (Nat.lt_succ_self _),B4]
  refine⟨BX',⟨g1.rel,fun j b hj=> ?_⟩,⟨v,vs',rfl,hBn.symm,g2⟩,fun q hq=> ?_,fun k hk=> ?_,Nat.le_trans (Nat.le_succ _) g5,g6⟩
  . obtain⟨q,h1,h3⟩:=g1.own j b hj;exact⟨q,(hiff q).2 h1,h3⟩
  . rcases List.mem_cons.1 hq with rfl|hq
    . exact Nat.lt_of_lt_of_le (Nat.lt_succ_self _) g5
    . exact g3 q hq
  . rw[g4 k (Nat.lt_succ_of_lt hk),C6 _ _ _ _ (Nat.ne_of_lt hk)]
end
section
variable {za:Zn} {w0 w:World} {Z:Nat->Prop} {B:Nat->Value} {st st0 st2:St} {E:F5}
def HT (E:F5):List (Nat×Bool×List Og)->List Value->List Value->Prop
 | [],vs,vr=>vs=vr
 | (s,agg,shs)::l,vs,vr=>∃v1 v2,vs=v1++v2/\v1.length=shs.length/\(agg=true->E s= .agg v1.toArray)/\(agg=false->v1= [E s])/\HT E l v2 vr
def SD (za:Zn) (w0:World) (w:World) (Z:Nat->Prop) (B:Nat->Value) (st2:St):List (Nat×TypeId×List Og)->List Value->Prop
 | [],vs=>vs= []
 | (k,T,shs)::l,vs=>∃v1 v2,vs=v1++v2/\v1.length=shs.length/\live (st2.L k)/\(∃b,B k= .pointer (some ⟨b,0,none⟩)/\up za w0 k b/\¬Z b/\Yq w b v1.toArray T)/\SD za w0 w Z B st2 l v2
theorem PG (h2:B9 za w0 st2 E w Z B):∀ {l:List (Nat×Bool×List Og)} {r cs:List C} {vr:List Value},X7 w Z B r vr->TB st2 l r=some cs->∃vs,X7 w Z B cs vs/\HT E l vs vr
 | [],r,cs,vr,hr,h=>by cases h;exact⟨vr,hr,rfl⟩
 | (s,agg,shs)::l,r,cs,vr,hr,h=>by
  simp only[TB]at h;split at h
  . rename_i a cs1 hs;obtain⟨hb,h⟩:=D9 h;simp only[Option.map_eq_some_iff]at h;obtain⟨cs2,h3,rfl⟩:=h;simp only[Bool.and_eq_true,beq_iff_eq]at hb;obtain⟨ha,hb⟩:=hb;subst ha;have hlen:=Nat.eq_of_beq_eq_true hb;obtain⟨v2,h4,h5⟩:=PG h2 hr h3;have hv:=h2.slots s;rw[hs]at hv;cases a with
    |true=>
     obtain⟨v1,e,hv⟩:=hv;exact⟨v1++v2,hv.append h4,v1,v2,rfl,by rw[<-hlen,hv.len],fun _=>e,fun hh=>(by cases hh),h5⟩
    |false=>
     have hv:X7 w Z B cs1 [E s]:=hv;exact⟨[E s]++v2,hv.append h4,[E s],v2,rfl,by rw[<-hlen,hv.len],fun hh=>(by cases hh),fun _=>rfl,h5⟩
  . cases h
theorem PF (h2:B9 za w0 st2 E w Z B):∀ {l:List (Nat×TypeId×List Og)} {cs:List C},TA st2 l=some cs->∃vs,X7 w Z B cs vs/\SD za w0 w Z B st2 l vs
 | [],cs,h=>by cases h;exact⟨[],rfl,rfl⟩
 | (k,T,shs)::l,cs,h=>by
  simp only[TA]at h;split at h
  . rename_i T' cs1 hk;obtain⟨hb,h⟩:=D9 h;simp only[Option.map_eq_some_iff]at h;obtain⟨cs2,h3,rfl⟩:=h;simp only[Bool.and_eq_true]at hb;have hT:=Nat.eq_of_beq_eq_true hb.1;subst hT;have hlen:=Nat.eq_of_beq_eq_true hb.2;obtain⟨v2,h4,h5⟩:=PF h2 h3;have hL:=h2.locs k;rw[hk]at hL;obtain⟨b,vs,e,h6,h7,h8,h9⟩:=hL;exact⟨vs.toList++v2,h9.append h4,vs.toList,v2,rfl,by rw[<-hlen,h9.len],by rw[hk];trivial,⟨b,e,h6,h7,by simpa using h8⟩,h5⟩
  . cases h
theorem QR {k:Nat} {t:Ty} {e e':TypeId} {x:List t.den×List Nat} (hl:bP st2 t e e' k=some x):st2.L k= .nest t e e' x.1 [] x.2:=by
 unfold bP at hl;split at hl
 . rename_i t' d d' ls dd hk;split at hl
   . rename_i hh;subst hh;obtain⟨hb,hl⟩:=D9 hl;cases hl;simp only[Bool.and_eq_true]at hb;rw[hk,Nat.eq_of_beq_eq_true hb.1,Nat.eq_of_beq_eq_true hb.2]
   . cases hl
 . cases hl
theorem JN {k q:Nat} {ka va:Bool} {kt vt:Ty} {x:(LT.itM ka kt va vt q).den} (hl:bJ st2 k (.itM ka kt va vt q)=some x):∃cur,st2.L k= .itM ka kt va vt x.1 x.2 cur q/\q<k:=by
 simp only[bJ]at hl;split at hl
 . rename_i ka' kt' va' vt' es left cur q' hk;obtain⟨hb,hl⟩:=D9 hl;simp only[Bool.and_eq_true]at hb;split at hl
   . rename_i hh;cases hh;cases hl;have:=Nat.eq_of_beq_eq_true hb.1;subst this;exact⟨cur,hk,Nat.le_of_ble_eq_true hb.2⟩
   . cases hl
 . cases hl
theorem QD {k q:Nat} {t:LT} {x:t.den} (hl:bJ st2 k t=some x) (hq:t.need=some q):q<k:=by
 cases t with
 |itM ka kt va vt q'=>cases hq;exact(JN hl).choose_spec.2
 | _=>cases hq
theorem Zm (h2:B9 za w0 st2 E w Z B) {k:Nat} {t:LT} {x:t.den} (hl:bJ st2 k t=some x):live (st2.L k)/\RL (up za w0 k) w Z B k (t.lc x)/\t.wf x:=by
 cases t with
 |row t e=>
  have hk:=Fc hl;have hL:=h2.locs k;rw[hk]at hL;refine⟨by rw[hk];trivial,hL, ?_⟩;obtain⟨xs,o1,o2,_⟩:=hL;exact C7.wf (V7 (Z:=fun _=>True) o1 (o2.mono fun _ _=>C7.mono (fun _ _=>trivial) (fun _ _=>rfl)) (fun _ _=>trivial))
 |map ka kt va vt=>
  have hk:=Zp hl;have hL:=h2.locs k;rw[hk]at hL;refine⟨by rw[hk];trivial,hL, ?_⟩;obtain⟨b,ents,cl,e,_,_,hb,hm,he⟩:=hL;exact C7.wf (TZ (Z:=fun _=>True) hb hm (he.mono (fun _ _=>trivial) (fun _ _=>rfl)) trivial)
 |rows t e e'=>
  obtain⟨al,hk⟩:=T1 hl;have hL:=h2.locs k;have hR:=hL;rw[hk]at hR;have hR:=hR.rowsR;refine⟨by rw[hk];trivial,hR.rl fun b hb=> ?_,hR.wf⟩;have hb':A6 w (B k) (st2.L k) b:=by rw[hk];exact(P8 fun _ _=>rfl).1 hb
  obtain⟨a1,a2,a3⟩:=hL.root hb';exact⟨a1,a3,a2⟩
 |iter ka kt va vt=>
  simp only[bJ]at hl;cases hk:st2.L k with
  |iter ka' kt' va' vt' es cur=>
   rw[hk]at hl;simp only at hl;split at hl
   . rename_i hh;cases hh;cases hl;have hL:=h2.locs k;rw[hk]at hL;obtain⟨r,e,h1,h3,h4⟩:=hL;refine⟨trivial,⟨r,e,h1,h3,h4.imp (fun h=>⟨h.1,h.2.1,rfl⟩) fun⟨m,seen,ents,cl,i1,i2,i3,i4,i5,i6⟩=>⟨m,seen,ents,cl,i1,i2,i3,i4,i5,fun x hx=>by cases hx⟩⟩, ?_⟩;rcases h4 with⟨_,h,_⟩ | ⟨m,seen,ents,cl,i1,i2,i3,i4,i5,i6⟩
     . rw[h];intro x hx;cases hx
     . intro x hx;obtain⟨m,_,g1,g2⟩:=J2.mem i5 hx;exact⟨N7.wf' (fun _ _=>C7.wf) g1,N7.wf' (fun _ _=>C7.wf) g2⟩
   . cases hl
  | _=>rw[hk]at hl;cases hl
 |nest t e e'=>
  have hk:=QR hl;have hL:=h2.locs k;rw[hk]at hL;refine⟨by rw[hk];trivial,hL, ?_⟩;obtain⟨xs,hN,_⟩:=hL;rcases hN.own.2 with⟨_,hn⟩ | ⟨_,_,_,_,_,_,h3,h4,_⟩
  . show x.1.length<= _;omega
  . show x.1.length<= _;simp only[maxLen]at h4;omega
 |itM ka kt va vt q=>
  obtain⟨cur,hk,_⟩:=JN hl;have hL:=h2.locs k;rw[hk]at hL;obtain⟨r,m,seen,ents,cl,e1,e2,hi,h1,h3,h4,h5⟩:=hL;refine⟨by rw[hk];trivial,⟨r,m,seen,ents,cl,e1,e2,⟨hi.it,hi.mp,hi.ok,hi.all,hi.rest,fun x hx=>(by cases hx)⟩,h1,h3,h4,h5⟩,fun y hy=> ?_⟩;obtain⟨m,_,g1,g2⟩:=J2.mem hi.rest hy;exact⟨N7.wf' (fun _ _=>C7.wf) g1,N7.wf' (fun _ _=>C7.wf) g2⟩
theorem RL.setB {U:Nat->Prop} {B':Nat->Value} {k:Nat} {t:LT} {x:t.den} (h:RL U w Z B k (t.lc x)) (e:B' k=B k) (en:∀q,t.need=some q->B' q=B q):RL U w Z B' k (t.lc x):=by
 cases t with
 |nest t e0 e1=>
  obtain⟨xs,hN,h6⟩:=h;exact⟨xs,⟨by rw[e];exact hN.own,fun p hp=>(by cases hp),hN.elt,hN.dis,by rw[e];exact hN.top⟩,by rw[e];exact h6⟩
 |itM ka kt va vt q=>
  obtain⟨r,m,seen,ents,cl,e1,e2,hr⟩:=h;exact⟨r,m,seen,ents,cl,e.trans e1,(en q rfl).trans e2,hr⟩
 |row t e0=>obtain⟨xs,a,b,c⟩:=h;exact⟨xs,by rw[e];exact a,b,by rw[e];exact c⟩
 |map ka kt va vt=>obtain⟨b,ents,cl,a,r⟩:=h;exact⟨b,ents,cl,e.trans a,r⟩
 |iter ka kt va vt=>obtain⟨r,a,b⟩:=h;exact⟨r,e.trans a,b⟩
 |rows t e0 e1=>
  obtain⟨xs,h1,⟨h2,h3,h4⟩,h5,h6⟩:=h;exact⟨xs,by rw[e];exact h1,⟨fun p hp=>(by cases hp),h3,h4⟩,by rw[e];exact h5,by rw[e];exact h6⟩
theorem pN (h2:B9 za w0 st2 E w Z B) {k b:Nat} {t:LT} {x:t.den} (hl:bJ st2 k t=some x) (h:A6 w (B k) (t.lc x) b):A6 w (B k) (st2.L k) b:=by
 cases t with
 |row t e=>exact A6.of (Zm h2 hl).1 h
 |map ka kt va vt=>exact A6.of (Zm h2 hl).1 h
 |iter ka kt va vt=>exact A6.of (Zm h2 hl).1 h
 |rows t e e'=>
  obtain⟨al,hk⟩:=T1 hl;rw[hk];exact(P8 fun _ _=>rfl).1 h
 |nest t e e'=>rw[QR hl];exact h
 |itM ka kt va vt q=>obtain⟨cur,hk,_⟩:=JN hl;rw[hk];exact h
theorem LA (h2:B9 za w0 st2 E w Z B) {BX:Nat->Value} {n0:Nat} (hB:∀k,k<n0->BX k=B k):∀ {l:List (Nat×LT)} {x:YS l} {st:St} {used:List Nat},Eu za w0 st2 E w Z B used st BX->n0<=st.nx->iD st2 l=some x->(∀y∈l,y.1<n0)->(∀y∈l,y.1∉used)->(l.map fun y=>y.1).Nodup->
 Eu za w0 st2 E w Z B ((l.map fun y=>y.1)++used) (putRows l x st) BX/\(putRows l x st).nx=st.nx
 | [],_,st,used,c,_,_,_,_,_=>⟨c,rfl⟩
 | (k,t)::r,x,st,used,c,hn,hp,hlt,hu,hnd=>by
  simp only[iD,bind_some,Option.map_eq_some_iff]at hp;obtain⟨l,hl,z,hz,rfl⟩:=hp;have hkl:=hlt (k,t) (by simp);have hku:=hu (k,t) (by simp);simp only at hkl hku;obtain⟨hlive,hRL,_⟩:=Zm h2 hl;have hBk:BX k=B k:=hB k hkl;simp only[List.map_cons,List.nodup_cons]at hnd;have hft:∀b,A6 w (BX k) (t.lc l) b->A6 w (B k) (st2.L k) b:=fun b hb=>pN h2 hl (by rw[<-hBk];exact hb)
  have c1:Eu za w0 st2 E w Z B (k::used) (st.setL k (t.lc l)) BX:=by
   refine⟨c.rel.addL (by omega) (hRL.setB hBk fun q hq=>hB q (Nat.lt_trans (QD hl hq) hkl)) (fun j b _ hb hj=> ?_) (by cases t<;>first|trivial|exact fun p hp=>(by cases hp) |exact Nat.lt_of_lt_of_le (Nat.lt_trans (QD hl rfl) hkl) hn) (fun b hk hb=>h2.mrk.2 k b hk (hft b hb)),fun j b hj=> ?_⟩
   . exact c.disj h2 hku j b (hft b hb) hj
   . rw[St.L_setL]at hj;by_cases hjk:j=k
     . subst hjk;rw[if_pos rfl]at hj;exact⟨j,by simp,hft b hj⟩
     . rw[if_neg hjk]at hj;obtain⟨q,h1,h3⟩:=c.own j b hj;exact⟨q,List.mem_cons_of_mem _ h1,h3⟩
  obtain⟨c2,hnx⟩:=LA h2 hB c1 hn hz (fun y hy=>hlt y (List.mem_cons_of_mem _ hy)) (fun y hy=>by
   intro hh;rcases List.mem_cons.1 hh with hh|hh
   . exact hnd.1 (hh▸List.mem_map_of_mem hy)
   . exact hu y (List.mem_cons_of_mem _ hy) hh) hnd.2
  refine⟨⟨c2.rel,fun j b hj=> ?_⟩,hnx⟩;obtain⟨q,h1,h3⟩:=c2.own j b hj;refine⟨q, ?_,h3⟩;simp only[List.map_cons];grind
theorem eQ {BX:Nat->Value} :∀ {l:List (Nat×Bool×List Og)} {cs:List C} {vs vr:List Value} {st:St} {used:List Nat},Eu za w0 st2 E w Z B used st BX->X7 w Z BX cs vs->HT E l vs vr->(∀c∈cs,Z4 st.nx c)->
 Eu za w0 st2 E w Z B used (putS l cs st).2 BX/\X7 w Z BX (putS l cs st).1 vr/\(∀c∈(putS l cs st).1,Z4 st.nx c)/\(putS l cs st).2.nx=st.nx
 | [],cs,vs,vr,st,used,c,hr,hv,hf=>by rw[show vs=vr from hv]at hr;exact⟨c,hr,hf,rfl⟩
 | (s,agg,shs)::l,cs,vs,vr,st,used,c,hr,⟨v1,v2,e,hl,ha,hna,hv⟩,hf=>by
  subst e;have h1:=hr.take shs.length;have h2:=hr.drop shs.length;rw[<-hl,List.take_left]at h1;rw[<-hl,List.drop_left]at h2;rw[hl]at h1 h2;have hRS:RS w Z BX ⟨agg,cs.take shs.length⟩ (E s):=by
   cases agg with
   |true=>exact⟨v1,ha rfl,h1⟩
   |false=>rw[hna rfl]at h1;exact h1
  have c1:Eu za w0 st2 E w Z B used (st.setS s (.one ⟨agg,cs.take shs.length⟩)) BX:=⟨c.rel.setSame s hRS (fun x hx=>hf x (List.mem_of_mem_take hx)),c.own⟩;have:=eQ (l:=l) (cs:=cs.drop shs.length) c1 h2 hv (fun x hx=>hf x (List.mem_of_mem_drop hx));exact this
theorem eP (h2:B9 za w0 st2 E w Z B) {BX:Nat->Value} {n0:Nat} (hB:∀k,k<n0->BX k=B k):∀ {l:List (Nat×TypeId×List Og)} {cs:List C} {vs:List Value} {st:St} {used:List Nat},Eu za w0 st2 E w Z B used st BX->n0<=st.nx->X7 w Z BX cs vs->SD za w0 w Z B st2 l vs->(∀c∈cs,Z4 st.nx c)->(∀y∈l,y.1<n0)->(∀y∈l,y.1∉used)->(l.map fun y=>y.1).Nodup->
 B9 za w0 (putB l cs st) E w Z BX
 | [],_,_,st,used,c,_,_,_,_,_,_,_=>c.rel
 | (k,T,shs)::l,cs,vs,st,used,c,hn,hr,⟨v1,v2,e,hl,hlv,⟨b,hBk,hb0,hnz,hblk⟩,hv⟩,hf,hlt,hu,hnd=>by
  subst e;have h1:=hr.take shs.length;have h3:=hr.drop shs.length;rw[<-hl,List.take_left]at h1;rw[<-hl,List.drop_left]at h3;rw[hl]at h1 h3;have hkl:=hlt (k,T,shs) (by simp);have hku:=hu (k,T,shs) (by simp);simp only at hkl hku;have hBX:BX k=B k:=hB k hkl;simp only[List.map_cons,List.nodup_cons]at hnd;have hft:∀q,A6 w (BX k) (.box T (cs.take shs.length)) q->A6 w (B k) (st2.L k) q:=fun q hq=>A6.of hlv (by rw[<-hBX];exact hq)
  have c1:Eu za w0 st2 E w Z B (k::used) (st.setL k (.box T (cs.take shs.length))) BX:=by
   refine⟨c.rel.addL (by omega) ⟨b,v1.toArray,hBX.trans hBk,hb0,hnz,hblk,by simpa using h1⟩ (fun j q _ hq hj=> ?_) (fun x hx=>hf x (List.mem_of_mem_take hx)) (fun q hk hb=>h2.mrk.2 k q hk (hft q hb)),fun j q hj=> ?_⟩
   . exact c.disj h2 hku j q (hft q hq) hj
   . rw[St.L_setL]at hj;by_cases hjk:j=k
     . subst hjk;rw[if_pos rfl]at hj;exact⟨j,by simp,hft q hj⟩
     . rw[if_neg hjk]at hj;obtain⟨q',h1,h3⟩:=c.own j q hj;exact⟨q',List.mem_cons_of_mem _ h1,h3⟩
  have:=eP (l:=l) (cs:=cs.drop shs.length) h2 hB c1 hn h3 hv (fun x hx=>hf x (List.mem_of_mem_drop hx)) (fun y hy=>hlt y (List.mem_cons_of_mem _ hy)) (fun y hy=>by
   intro hh;rcases List.mem_cons.1 hh with hh|hh
   . exact hnd.1 (hh▸List.mem_map_of_mem hy)
   . exact hu y (List.mem_cons_of_mem _ hy) hh) hnd.2
  exact this
theorem Gv (h2:B9 za w0 st2 E w Z B):∀ {shs:List Og} {T:Type} {tl:T} {q:T->Prop} {cs:List C} {vs:List Value} {p:iY shs T},q tl->X7 w Z B cs vs->T0 st2 shs tl cs=some p->shW shs q p
 | [],_,tl,q,[],vs,p,hq,_,hp=>by simp only[T0,Option.some.injEq]at hp;subst hp;exact hq
 | [],_,_,_,_:: _,_,_,_,_,hp=>by cases hp
 | .val t::r,_,_,_,[],_,_,_,_,hp=>by cases hp
 | .own t e::r,_,_,_,[],_,_,_,_,hp=>by cases hp
 | .ownR t e e'::r,_,_,_,[],_,_,_,_,hp=>by cases hp
 | .fix k::r,_,_,_,[],_,_,_,_,hp=>by cases hp
 | .fixB k::r,_,_,_,[],_,_,_,_,hp=>by cases hp
 | .fixB k::r,_,tl,q,c::cs,vs,p,hq,⟨v,vs',_,h1,h3⟩,hp=>by
  simp only[T0]at hp;exact Gv (shs:=r) h2 hq h3 (D9 hp).2
 | .fix k::r,_,tl,q,c::cs,vs,p,hq,⟨v,vs',_,h1,h3⟩,hp=>by
  simp only[T0]at hp;exact Gv (shs:=r) h2 hq h3 (D9 hp).2
 | .val t::r,_,tl,q,c::cs,vs,p,hq,⟨v,vs',e,h1,h3⟩,hp=>by
  simp only[T0,bind_some,Option.map_eq_some_iff]at hp;obtain⟨y,hy,z,hz,rfl⟩:=hp;exact⟨C7.wf (HD h1 hy),Gv h2 hq h3 hz⟩
 | .own t e::r,_,tl,q,c::cs,vs,p,hq,⟨v,vs',_,h1,h3⟩,hp=>by
  simp only[T0,bind_some,Option.map_eq_some_iff]at hp;obtain⟨l,hl,z,hz,rfl⟩:=hp;obtain⟨xs,o1,o2,_⟩:=ED h2 h1 hl;exact⟨C7.wf (V7 (Z:=fun _=>True) o1 (o2.mono fun _ _=>C7.mono (fun _ _=>trivial) (fun _ _=>rfl)) (fun _ _=>trivial)),Gv h2 hq h3 hz⟩
 | .ownR t e e'::r,_,tl,q,c::cs,vs,p,hq,⟨v,vs',_,h1,h3⟩,hp=>by
  simp only[T0,bind_some,Option.map_eq_some_iff]at hp;obtain⟨l,hl,z,hz,rfl⟩:=hp;exact⟨X8.wf (YU h2 h1 hl).1,Gv h2 hq h3 hz⟩
theorem eY (h2:B9 za w0 st2 E w Z B):∀ {l:List (Nat×LT)} {x:YS l},iD st2 l=some x->A3o l x
 | [],_,_=>trivial
 | (k,t)::r,x,hp=>by
  simp only[iD,bind_some,Option.map_eq_some_iff]at hp;obtain⟨l,hl,z,hz,rfl⟩:=hp;exact⟨(Zm h2 hl).2.2,eY h2 hz⟩
theorem dR {A:Wo} {p:A.den} {st1:St} (hb0:za.b0=0) (h:B9 za w0 st E w Z B) (hg:gath A st=some (st1,p)) (pk:oF za.n st0) (hS:∀s∈A.keepS,st1.eS s=st0.eS s) (hL:∀k∈A.keepL,st1.eL k=st0.eL k) (hR:∀y∈A.rowL,y.1<st0.nx) (hF:st1.fr=st0.fr):
 A.wf p/\∃Z' B',B9 za w0 (reflect A st0 p) E w Z' B':=by
 simp only[gath,Option.bind_eq_bind,bind_some]at hg;obtain⟨cs0,_,cs,hcs,tl,htl,p',hp,hg⟩:=hg;obtain⟨hnd,hg⟩:=D9 hg;cases hg;simp only[Bool.and_eq_true,List.all_eq_true]at hnd;obtain⟨hnd,hfx⟩:=hnd;obtain⟨Z0,h0⟩:=h.plugL hb0 (l:=A.rowL);obtain⟨Z1,h2⟩:=B9.settleSh (shs:=A.shs) (cs:=cs0) h0;generalize settleSh (plugL A.rowL st) A.shs cs0=st2 at*;have hnd:=Ci hnd;simp only[Wo.cells,bind_some]at hcs;obtain⟨cb,hcb,hcs⟩:=hcs;obtain⟨vb,hb1,hb2⟩:=PF h2 hcb;obtain⟨vs,hs1,hs2⟩:=PG h2 hb1 hcs;refine⟨Gv h2 (eY h2 htl) hs1 hp, ?_⟩;have c0:=A1y h2 pk hS hL hF;have hR':∀y∈A.rowL,y.1<iQ A.boxL st0.nx:=fun y hy=>Nat.lt_of_lt_of_le (hR y hy) (Jk _ _)
 rw[List.nodup_append]at hnd;obtain⟨n1,n2,n3⟩:=hnd;rw[List.nodup_append]at n2;obtain⟨n4,n5,n6⟩:=n2;rw[List.nodup_append]at n5;obtain⟨n7,n8,n9⟩:=n5;obtain⟨BX,g1,g2,g3,g4,g5,g6⟩:=Ll hb0 h2 c0 hs1 hp (fun q hq hk=>n3 q hk q (by simp[hq]) rfl) n4 (fun c hc k hk=>by
  have:=hfx _ hc;cases c with
  |fix k'=>
   cases hk;simp only[kM,List.any_eq_true]at this;obtain⟨y,hy,hb⟩:=this;have:=Nat.eq_of_beq_eq_true hb;subst this;exact⟨hR' y hy,rfl⟩
  |fixB k'=>
   cases hk;simp only[kM,List.any_eq_true]at this;obtain⟨y,hy,hb⟩:=this;have:=Nat.eq_of_beq_eq_true hb;subst this;exact⟨LR y hy,rfl⟩
  | _=>cases hk)
 have hB:∀k,k<iQ A.boxL st0.nx->BX k=B k:=g4;have q1:=LA h2 hB (x:=(placeSh A.shs p (kept A st0)).2.2) g1 g5 (by rw[g6];exact htl) hR' (fun y hy hh=>by
  rcases List.mem_append.1 hh with hh|hh
  . exact n6 y.1 hh y.1 (by simp only[List.mem_append,List.mem_map];exact .inl ⟨y,hy,rfl⟩) rfl
  . exact n3 y.1 hh y.1 (by simp only[List.mem_append,List.mem_map];exact .inr (.inl ⟨y,hy,rfl⟩)) rfl) n7
 have q2:=eQ (l:=A.modS) q1.1 g2 hs2 (by rw[q1.2];exact g3);refine⟨Z1,BX, ?_⟩;exact eP h2 hB q2.1 (by rw[q2.2.2.2,q1.2];exact g5) q2.2.1 hb2 (by rw[q2.2.2.2];exact q2.2.2.1) (fun y hy=>LR y hy) (fun y hy hh=>by
  rcases List.mem_append.1 hh with hh|hh
  . exact n9 y.1 hh y.1 (List.mem_map_of_mem hy) rfl
  . rcases List.mem_append.1 hh with hh|hh
    . exact n6 y.1 hh y.1 (by simp only[List.mem_append,List.mem_map];exact .inr ⟨y,hy,rfl⟩) rfl
    . exact n3 y.1 hh y.1 (by simp only[List.mem_append,List.mem_map];exact .inr (.inr ⟨y,hy,rfl⟩)) rfl) n8
end
def addA (st:St) (d:Tmp) (lc:LC) (mk:Nat->C):St:=(st.newL lc).setS d (one1 (mk st.nx))
def BP (cx:Cx) (st:St) (d:Tmp):Op->Option (Option Prop×LC×(Nat->C))
 | .alloc T=>do
  let ti<-cx.ti T
  some (none, .box T (Tc ti.ty),fun k=> .box k 0)
 | .makeSlice T lo co=>do
  let ti<-cx.ti T
  let t<-nN ti.ty
  let l<-TP st lo
  let c<-TP st co
  bif ti.nest.any (Nat.beq d)then do
   let t2<-cx.ti ti.elem
   bif AE t then some (some (0<=l/\l<=c/\(ti.bytes:Int)*c<=281474976710656/\c<=9223372036854775807), .nest t ti.elem t2.elem (List.replicate l.toNat t.dflt) [] (DR t l.toNat), .row)else none
  else bif !ti.rows&&Hf t then some (some (0<=l/\l<=c/\(ti.bytes:Int)*c<=281474976710656/\c<=9223372036854775807), .row t ti.elem (List.replicate l.toNat t.dflt), .row)else none
 | _=>none
def jF (lc:LC) (mk:Nat->C) (X:Obj) (f:Nat->Value):Prop:=
 ∀(za:Zn) (w0 w:World) (st:St) (E:F5) (Z:Nat->Prop) (B:Nat->Value) (d b:Nat),B9 za w0 st E w Z B->w.heap[b]? =some X->w0.heap.size<=b->¬Z b->(∀k,¬A6 w (B k) (st.L k) b)->za.b0<=b->
  B9 za w0 (addA st d lc mk) (upd E d (f b)) w Z (upd B st.nx (f b))/\∀c,A6 w (f b) lc c->c=b
section
variable {za:Zn} {w0 w w':World} {st:St} {E:F5} {Z:Nat->Prop} {B:Nat->Value} {cx:Cx} {d:Tmp} {φ:Option Prop}
theorem C4.addA (st:St) (d:Tmp) (lc:LC) (mk:Nat->C):C4 st (addA st d lc mk):=(C4.newL _ _).trans (C4.setS _ _ _)
theorem mX {base b e sz n c:Nat} {cs:Array Value} (hb:w.heap[b]? =some (.cells cs e (0,0))) (h0:base<=b) (hcs:cs.size=c*sz) (hlc:n<=c) (hm:c<=maxLen):w.ownsRow base e sz (.slice (some ⟨b,0,none⟩) n c) n (cs.toList.take (n*sz)):=by
 refine⟨?_, .inr ⟨b,c,cs,rfl,h0,hb,hlc,hm,hcs,rfl⟩⟩;rw[List.length_take,Array.length_toList,hcs];exact Nat.min_eq_left (Nat.mul_le_mul_right _ hlc)
theorem fK {op:Op} {lc:LC} {mk:Nat->C} (h:B9 za w0 st E w Z B) (hty:F9 cx.P cx.tys=true) (ha:BP cx st d op=some (φ,lc,mk)) (hφ:Zu φ):
 ∃(X:Obj) (f:Nat->Value),(∀ty w',Gw.D4 cx.P E ty op w' (f w'.heap.size) (w'.alloc X))/\jF lc mk X f:=by
 unfold BP at ha;split at ha
 . simp only[Option.bind_eq_bind,bind_some]at ha;obtain⟨ti,hti,ha⟩:=ha;cases ha;obtain⟨z,hz,hzc⟩:=Aj (H4 (B6 hty hti)).2.2;rename_i T;refine⟨.cells z.cells T,fun b=> .pointer (some ⟨b,0,none⟩),fun ty w'=>fE hz,fun za w0 w st E Z B d b h hb h0 hnz hf hb0=> ?_⟩;have h3:=Y6 (w:=w) (Z:=Z) (B:=B) (n:=st.nx) (Bb ti.ty);have hft:∀c,A6 w (.pointer (some ⟨b,0,none⟩)) (.box T (Tc ti.ty)) c->c=b:=fun c hc=>by
    simp only[A6,root,Option.some.injEq]at hc;exact hc.symm
   have h2:=h.new (v:= .pointer (some ⟨b,0,none⟩)) (lc:= .box T (Tc ti.ty)) ⟨b,z.cells,B4 _ _ _, .inl ⟨h.nms.2,h0⟩,hnz,hb,
    X7.mono (n:=st.nx) (fun _=>id) (fun _ _=>rfl) (fun k hk=>C6 _ _ _ _ (Nat.ne_of_lt hk)) h3.2 (by rw[hzc];exact h3.1)⟩
    (fun k c hc hc'=>hf k (hft c hc▸hc')) (fun c hc=>(h3.2 c hc).le (Nat.le_succ _)) rfl (fun c _ hc=>by rw[hft c hc];exact hb0)
   refine⟨h2.setS d (x:=one1 (.box st.nx 0)) ⟨_,[],rfl,⟨b,B4 _ _ _,rfl⟩,rfl⟩ (fun c hc=> ?_),hft⟩;simp at hc;subst hc;exact Nat.lt_succ_self _
 . rename_i T lo co;simp only[Option.bind_eq_bind,bind_some]at ha;obtain⟨ti,hti,t,ht,l,hl,c,hc,ha⟩:=ha;have ht:=Dp ht;have key:∀ {φ':Option Prop},Zu (some (0<=l/\l<=c/\(ti.bytes:Int)*c<=281474976710656/\c<=9223372036854775807))->∃z:Value,z.cells.toList=Bb t/\z.cells.size=t.size/\l.toNat<=c.toNat/\c.toNat<=maxLen/\∀ty w',Gw.D4 cx.P E ty (.makeSlice T lo co) w' (.slice (some ⟨w'.heap.size,0,none⟩) l.toNat c.toNat) (w'.alloc (.cells (madeCells z.cells (c.toNat*t.size)) ti.elem)):=by
    intro _ ⟨f1,f2,f3,f4⟩;obtain⟨i,z,hu,hi,hz,hsz,hzc,hzs,hb,hsl⟩:=Bv (B6 hty hti) ht;obtain⟨k1,e1,_⟩:=h.int (E1 E) hl;obtain⟨k2,e2,_⟩:=h.int (E1 E) hc;refine⟨z,hzc,hzs,by omega,by simp only[maxLen];omega,fun ty w'=> ?_⟩;have hrun:=run_make (P:=cx.P) w' T ti.elem i z hu hi hz k1 k2 l c f1 f2 (by rw[hb];exact f3) f4;rw[<-hsz];exact fun _ _ _ _=>by simp[execOp,e1,e2,hrun]
   cases hn:ti.nest.any (Nat.beq d)with
   |true=>
    simp only[hn,cond_true,Option.bind_eq_bind,bind_some]at ha;obtain⟨t2,_,ha⟩:=ha;cases hown:AE t with
    |false=>simp only[hown,cond_false]at ha;cases ha
    |true=>
     simp only[hown,cond_true]at ha;cases ha;obtain⟨z,hzc,hzs,hlc,hm,hy⟩:=key (φ':=none) hφ;obtain⟨hsz1,u,hu1⟩:=QZ hown;rw[hsz1]at hzs hy;refine⟨_,fun b=> .slice (some ⟨b,0,none⟩) l.toNat c.toNat,hy,fun za w0 w st E Z B d b h hb h0 hnz hf hb0=> ?_⟩;generalize hcs:madeCells z.cells (c.toNat*1)=cs at hb;have hcsz:cs.size=c.toNat*1:=by rw[<-hcs];simp[madeCells]
     have hrow:=mX (sz:=1) hb h0 hcsz hlc hm;have hnil:∀x∈cs.toList.take (l.toNat*1),x=u:=fun x hx=>by
      have hx:=List.mem_of_mem_take hx;rw[<-hcs]at hx;simp only[madeCells,Array.toList_map,List.mem_map]at hx;obtain⟨j,_,rfl⟩:=hx;have hz1:z.cells.toList= [u]:=hzc.trans hu1;have hz2:z.cells= #[u]:=by rw[<-Array.toArray_toList (xs:=z.cells),hz1]
      rw[hz2];simp[Nat.mod_one]
     obtain⟨z1,z2⟩:=RA hown hu1.symm;obtain⟨g1,g2⟩:=h.newNestE d (t:=t) (e':=t2.elem) (dd:=DR t l.toNat) hrow (fun j x hx=>by
      have:=hnil x (List.mem_of_getElem? hx);subst this;have hj:j<l.toNat:=by have:=(List.getElem?_eq_some_iff.1 hx).1;rw[List.length_take]at this;omega
      exact⟨z1,z2 _ _ _ j _ hj⟩) (fun b' hb'=>by
      simp only[Value.ownBlock,Option.some.injEq]at hb';subst hb';exact⟨hnz,hf⟩) (fun b' _ hb'=>by simp only[Value.ownBlock,Option.some.injEq]at hb';subst hb';exact hb0)
     exact⟨g1,fun c' hc'=>by have:=g2 c' hc';simp only[Value.ownBlock,Option.some.injEq]at this;exact this.symm⟩
   |false=>
    simp only[hn,cond_false]at ha;cases hd: !ti.rows&&Hf t with
    |false=>simp only[hd,cond_false]at ha;cases ha
    |true=>
     simp only[hd,cond_true]at ha;cases ha;simp only[Bool.and_eq_true]at hd;obtain⟨z,hzc,hzs,hlc,hm,hy⟩:=key (φ':=none) hφ;refine⟨_,fun b=> .slice (some ⟨b,0,none⟩) l.toNat c.toNat,hy,fun za w0 w st E Z B d b h hb h0 hnz hf hb0=> ?_⟩;have heach:F2 (C7 t w Z) ((madeCells z.cells (c.toNat*t.size)).toList.take (l.toNat*t.size)) (List.replicate l.toNat t.dflt):=Tz hzc hd.2 hzs _ _ hlc;generalize hcs:madeCells z.cells (c.toNat*t.size)=cs at hb heach;have hcsz:cs.size=c.toNat*t.size:=by rw[<-hcs];simp[madeCells]
     have hrow:=mX hb h0 hcsz hlc hm;refine⟨h.newRowE d (t:=t) (e:=ti.elem) (l:=List.replicate l.toNat t.dflt) (by rw[List.length_replicate];exact hrow) heach (fun b' hb'=>by
      simp only[Value.ownBlock,Option.some.injEq]at hb';subst hb';exact⟨hnz,hf⟩) (fun b' _ hb'=>by simp only[Value.ownBlock,Option.some.injEq]at hb';subst hb';exact hb0),fun c' hc'=> ?_⟩
     have:=hc';simp only[A6,root,Option.some.injEq]at this;exact this.symm
 . cases ha
end
def Vx (cx:Cx) (all:List Oper) (st0:St):List Nat->(St->Prop)->St->Prop
 | [],k=>k
 |i::r,k=>fun st=>match all[i]? with
  |some o=>match BP cx st0 (Ck all i) o.op with
   |some (φ,lc,mk)=>NQ φ (Vx cx all st0 r k (addA st (Ck all i) lc mk))
   |none=>False
  |none=>False
def cX (all:List Oper) (f:Nat->Nat->Value) (bl:Nat->Nat):List Nat->F5->F5
 | [],E=>E
 |i::r,E=>cX all f bl r (upd E (Ck all i) (f i (bl i)))
section
variable {za:Zn} {w0 w w':World} {Z:Nat->Prop} {cx:Cx} {all:List Oper} {st0:St} {k k':St->Prop} {f:Nat->Nat->Value} {X:Nat->Obj} {bl:Nat->Nat}
theorem RQ:∀ {ls:List Nat} {st:St},Vx cx all st0 ls k st->∀i∈ls,∃o φ lc mk,all[i]? =some o/\BP cx st0 (Ck all i) o.op=some (φ,lc,mk)/\Zu φ
 | [],_,_,_,h=>by cases h
 |i::r,st,hs,j,hj=>by
  simp only[Vx]at hs;split at hs
  . rename_i o ho;split at hs
    . rename_i φ lc mk ha;obtain⟨h1,h2⟩:=E4.1 hs;rcases List.mem_cons.1 hj with rfl|hj
      . exact⟨o,φ,lc,mk,ho,ha,h1⟩
      . exact RQ h2 j hj
    . exact hs.elim
  . exact hs.elim
theorem LJ:∀ {ls:List Nat} {st:St},Vx cx all st0 ls k st->(∀st',C4 st st'->k st'->k' st')->Vx cx all st0 ls k' st
 | [],st,h,hk=>hk st (C4.refl st) h
 |i::r,st,h,hk=>by
  simp only[Vx]at h⊢;split at h
  . split at h
    . exact E4.2 ⟨(E4.1 h).1,LJ (E4.1 h).2 fun st' e hh=>hk st' ((C4.addA _ _ _ _).trans e) hh⟩
    . exact h
  . exact h
theorem Yc {x:Nat} :∀ {l:List Nat} {E:F5},x∉W0 all l->cX all f bl l E x=E x
 | [],_,_=>rfl
 |i::l,E,h=>by
  simp only[W0,List.map_cons,List.mem_cons,not_or]at h;simp only[cX];rw[Yc h.2,C6 _ _ _ _ h.1]
theorem ZK {i:Nat} :∀ {l:List Nat} {E:F5},(W0 all l).Nodup->i∈l->cX all f bl l E (Ck all i)=f i (bl i)
 | [],_,_,h=>by cases h
 |j::l,E,hn,h=>by
  simp only[W0,List.map_cons]at hn;obtain⟨h1,h2⟩:=List.nodup_cons.1 hn;simp only[cX];by_cases hi:i∈l
  . exact ZK h2 hi
  . rcases List.mem_cons.1 h with rfl|h
    . rw[Yc h1,B4]
    . exact absurd h hi
theorem ZB:∀ {ls:List Nat} {st:St} {E:F5} {B:Nat->Value},B9 za w0 st E w Z B->(∀i∈ls,∀o φ lc mk,all[i]? =some o->BP cx st0 (Ck all i) o.op=some (φ,lc,mk)->jF lc mk (X i) (f i))->
 (∀i∈ls,w.heap[bl i]? =some (X i)/\w0.heap.size<=bl i/\¬Z (bl i)/\za.b0<=bl i/\∀k,¬A6 w (B k) (st.L k) (bl i))->(∀i∈ls,∀j∈ls,i≠j->bl i≠bl j)->ls.Nodup->Vx cx all st0 ls k st->∃st' B',B9 za w0 st' (cX all f bl ls E) w Z B'/\k st'
 | [],st,E,B,h,_,_,_,_,hs=>⟨st,B,h,hs⟩
 |i::r,st,E,B,h,ht,hb,hne,hn,hs=>by
  simp only[Vx]at hs;obtain⟨n1,n2⟩:=List.nodup_cons.1 hn;split at hs
  . rename_i o ho;split at hs
    . rename_i φ lc mk ha;obtain⟨_,hs⟩:=E4.1 hs;obtain⟨b1,b2,b3,b4,b5⟩:=hb i (List.mem_cons_self);obtain⟨g1,g2⟩:=ht i List.mem_cons_self o φ lc mk ho ha za w0 w st E Z B (Ck all i) (bl i) h b1 b2 b3 b5 b4;refine ZB (ls:=r) (E:=upd E (Ck all i) (f i (bl i))) g1 (fun j hj=>ht j (List.mem_cons_of_mem _ hj)) (fun j hj=> ?_) (fun a ha b hb=>hne a (List.mem_cons_of_mem _ ha) b (List.mem_cons_of_mem _ hb)) n2 hs;obtain⟨c1,c2,c3,c4,c5⟩:=hb j (List.mem_cons_of_mem _ hj);refine⟨c1,c2,c3,c4,fun q hq=> ?_⟩;have hL:(addA st (Ck all i) lc mk).L q=(st.newL lc).L q:=rfl;rw[hL,St.L_newL]at hq;by_cases hqn:q=st.nx
      . subst hqn;rw[if_pos rfl,B4]at hq;exact hne i List.mem_cons_self j (List.mem_cons_of_mem _ hj) (fun e=>n1 (e▸hj)) (g2 _ hq).symm
      . rw[if_neg hqn,C6 _ _ _ _ hqn]at hq;exact c5 q hq
    . exact hs.elim
  . exact hs.elim
theorem RP:∀(l:List Nat) (E:F5) (w:World),l.Nodup->(W0 all l).Nodup->N0 w (Cm all f X l E w).2/\∃bl:Nat->Nat,(∀i∈l,w.heap.size<=bl i/\(Cm all f X l E w).2.heap[bl i]? =some (X i)/\(Cm all f X l E w).1 (Ck all i)=f i (bl i))/\∀i∈l,∀j∈l,i≠j->bl i≠bl j
 | [],_,w,_,_=>⟨N0.refl w,fun _=>0,by simp,by simp⟩
 |i::r,E,w,hn,hd=>by
  obtain⟨n1,n2⟩:=List.nodup_cons.1 hn;simp only[W0,List.map_cons]at hd;obtain⟨d1,d2⟩:=List.nodup_cons.1 hd;obtain⟨h1,bl,h2,h3⟩:=RP r (upd E (Ck all i) (f i w.heap.size)) (w.alloc (X i)) n2 d2;have hx:N0 w (w.alloc (X i)):=N0.alloc w _;have hsz:(w.alloc (X i)).heap.size=w.heap.size+1:=Array.size_push ..;simp only[Cm];refine⟨hx.trans h1,fun j=>if j=i then w.heap.size else bl j,fun j hj=> ?_,fun a ha b hb hab=> ?_⟩
  . rcases List.mem_cons.1 hj with rfl|hj
    . have he:(if j=j then w.heap.size else bl j)=w.heap.size:=if_pos rfl;show w.heap.size<=(if j=j then w.heap.size else bl j)/\(Cm all f X r _ _).2.heap[if j=j then w.heap.size else bl j]? = _ /\ _=f j (if j=j then w.heap.size else bl j);rw[he];refine⟨Nat.le_refl _, ?_,by rw[Eo _ _ _ d1,B4]⟩;rw[h1.block _ (by rw[hsz];exact Nat.lt_succ_self _)];exact heap_alloc_new w _
    . have:j≠i:=fun e=>n1 (e▸hj)
      simp only[if_neg this];obtain⟨g1,g2,g3⟩:=h2 j hj;exact⟨by omega,g2,g3⟩
  . simp only;have hr:∀q,q∈i::r->q≠i->q∈r:=fun q hq hqi=>(List.mem_cons.1 hq).resolve_left hqi
    by_cases ha':a=i
    . rw[if_pos ha',if_neg (fun e=>hab (ha'.trans e.symm))];have:=(h2 b (hr b hb (fun e=>hab (ha'.trans e.symm)))).1;omega
    . rw[if_neg ha'];by_cases hb':b=i
      . rw[if_pos hb'];have:=(h2 a (hr a ha ha')).1;omega
      . rw[if_neg hb'];exact h3 a (hr a ha ha') b (hr b hb hb') hab
end
structure K where
 n:St->Prop
 x:Nat->St->Prop
 r:St->Prop
def K.at (k:K):Exit->St->Prop
 | .normal=>k.n
 | .exit i=>k.x i
 | .ret=>k.r
 | _=>fun _=>False
structure An where
 join:List (Nat×Wo):= []
 loop:List (Nat×Wo):= []
 plan:List (Nat×List Nat×List Nat×Bool×Pl):= []
 bump:Nat:=0
 mv:List (Nat×List Nat):= []
def XV:Code->Option Nat
 | .region id _ _=>some id
 | .seq a b=>match XV a with
  |some i=>some i
  |none=>XV b
 | .cond _ a b=>match XV a with
  |some i=>some i
  |none=>XV b
 | .block _ c=>XV c
 | .loop c=>XV c
 | _=>none
def A1a (l:List (Nat×Wo)):Option Nat->Option Wo
 |some i=>Ay i l
 |none=>none
def A6b (A:Wo) (st:St) (body:(St->Prop)->Prop) (rest:St->Prop):Prop:=
 ∃J:A.den->Prop,body (CC A st J)/\∀p,A.wf p->J p->rest (reflect A st p)
def A1q (A:Wo) (st:St) (body:(St->Prop)->St->Prop):Prop:=
 match gath A st with
 |some (st1,p0)=>bif(A.rowL.all fun x=>Nat.blt x.1 st1.nx)&&(A.boxL.all fun x=>Nat.blt x.1 st1.nx)then
  (∃(I:A.den->Prop) (μ:A.den->Nat),I p0/\∀p,A.wf p->I p->body (CC A st1 fun p'=>I p'/\μ p'<μ p) (reflect A st1 p))else False
 |none=>False
def Jj (cx:Cx) (all:List Oper) (o:Oper) (k:St->Prop) (st:St):Prop:=
 match o.guard with
 |none=>match Rp cx st [] o.op with
  |some (φ,v)=>match o.dst with
   |some d=>NQ φ (k (st.setS d v))
   |none=>False
  |none=>match o.op with
   | .load T x=>match o.dst with
    |some d=>(match QI cx st d T x with
     |some st'=>k st'
     |none=>False)
    |none=>False
   | _=>False
 |some (j,b)=>match(all[j]?).bind (·.dst)with
  |some t=>bif Iy st 20 t then(match o.dst with
   |some d=>bif !(Nat.beq t d)then(match Rp cx st (gctx st 20 t b) o.op with
    |some (φ, .one s)=>bif s.cs.all (nH st.nx)then NQ (pG (ctxP st (gctx st 20 t b)) φ) (k (st.setS d (.cnd t b s)))else False
    |some _=>False
    |none=>match o.op with
     | .load T x=>(match QG cx st (gctx st 20 t b) t b d T x with
      |some st'=>k st'
      |none=>False)
     | _=>False)else False
   |none=>False)else False
  |none=>False
def FJ (cx:Cx) (all:List Oper):List Nat->(St->Prop)->St->Prop
 | [],k=>k
 |j::r,k=>fun st=>match all[j]? with
  |some o=>bif !(mD o.op)&&A0m (QX all j) (W0 all (j::r))then Jj cx all o (FJ cx all r k) st else False
  |none=>False
def N2 (cx:Cx) (sp:I7) (all:List Oper) (tails:List Nat) (n0:Nat) (nw:Bool):Pl->Bool->Bool->(St->Prop)->St->Prop
 | .done,_,_,k=>k
 | .q i p,pre,t,k=>fun st=>match all[i]? with
  |some o=>bif pre|| !nw then Jj cx all o (N2 cx sp all tails n0 nw p pre t k) st else False
  |none=>False
 | .p i p,pre,t,k=>fun st=>match all[i]? with
  |some o=>bif !(mD o.op)then Jj cx all o (N2 cx sp all tails n0 nw p pre t k) st else False
  |none=>False
 | .e i p,_,t,k=>fun st=>match all[i]? with
  |some o=>bif((t||tails.contains i) || !(NB sp st o) || (nw&&kO n0 st o.op))&&(!nw||UJ sp n0 st o.op)then Vy cx sp all o (N2 cx sp all tails n0 nw p false (t||tails.contains i) k) st else False
  |none=>False
 | .or i p q,pre,t,k=>fun st=>
  (match all[i]? with
  |some o=>bif((t||tails.contains i) || !(NB sp st o) || (nw&&kO n0 st o.op))&&(!nw||UJ sp n0 st o.op)then Vy cx sp all o (N2 cx sp all tails n0 nw p false (t||tails.contains i) k) st else False
  |none=>False)/\N2 cx sp all tails n0 nw q pre t k st
 | .al is js p,_,t,k=>fun st=>bif fJ all is js then Vx cx all st is (FJ cx all js (N2 cx sp all tails n0 nw p false t k)) st else False
def pkO:Op->Bool
 | .move _=>true
 | .assign _=>true
 | .pick _ _ _=>true
 | .build _ _=>true
 | .nilCheck _=>true
 | .binOp _ _ _ _ _=>true
 | .unOp _ _ _=>true
 | .convert _ _ _=>true
 | .fieldAddr _ _ _=>true
 | .field _ _ _=>true
 | .indexAddr _ _ _=>true
 | .index _ _ _=>true
 | .extract _ _=>true
 | .slice _ _ _ _ _=>true
 | .makeFunc _ _ _=>true
 | .call ⟨.builtin .len,_,_⟩=>true
 | .call ⟨.builtin .max,_,_⟩=>true
 | .call ⟨.builtin .min,_,_⟩=>true
 | _=>false
def jJ (all:List Oper) (heads tails:List Nat) (nw:Bool):Nat->Array Bool->Bool->Pl
 |0,_,_=> .done
 |n+1,l,pre=>
  let r:=Region.ready .any all.toArray l
  let pk:=fun i=>((all[i]?).map fun o=>pkO o.op).getD false
  match r.find? fun i=>Region.free .any all.toArray l i&& !tails.contains i&&(pk i|| (heads.contains i&&(pre|| !nw)))with
  |some i=>bif pk i then .p i (jJ all heads tails nw n (l.setIfInBounds i true) pre)else .q i (jJ all heads tails nw n (l.setIfInBounds i true) pre)
  |none=>match r.reverse with
   | []=> .done
   |i::r'=>r'.foldl (fun q j=> .or j (jJ all heads tails nw n (l.setIfInBounds j true) false) q) (.e i (jJ all heads tails nw n (l.setIfInBounds i true) false))
def A1n (all:List Oper) (heads tails:List Nat) (nw:Bool):Pl->Pl
 | .done=>jJ all heads tails nw all.length (Array.replicate all.length false) true
 |p=>p
def mvB (st:St) (q:Nat):St:=match st.S q with
 | .one ⟨false,[.box k 0]⟩=>match st.L k with
  | .box T cs=>bif Nat.ble st.nm k then((st.setL k .none).newL (.box T cs)).setS q (one1 (.box st.nx 0))else st
  | _=>st
 | _=>st
def oC (an:An) (id:Nat) (k:St->Prop):St->Prop:=match Ay id an.mv with
 |some qs=>fun st=>k (qs.foldl mvB st)
 |none=>k
def Dn (cx:Cx) (sp:I7) (an:An):Code->K->St->Prop
 | .skip,k=>k.n
 | .label _,k=>k.n
 | .region id ops draw,k=>fun st=>bif draw then(match Ay id an.plan with
  |some (heads,tails,nw,p0)=>let p:=A1n ops.toList heads tails nw p0;bif A1h ops.toList heads tails p&&cx.P.follows .mixedOrders then N2 cx sp ops.toList tails st.nx nw p true false (oC an id k.n) st else False
  |none=>False)else LM cx sp ops.toList ops.toList k.n st
 | .seq a b,k=>fun st=>match A1a an.join (XV b)with
  |some A=>A6b A st (fun j=>Dn cx sp an a {k with n:=j} st) (Dn cx sp an b k)
  |none=>Dn cx sp an a {k with n:=Dn cx sp an b k} st
 | .cond c a b,k=>fun st=>match(st.ev [] c).bind EW with
  |some e=>(e=true->Dn cx sp an a k st)/\(e=false->Dn cx sp an b k st)
  |none=>False
 | .block id c,k=>Dn cx sp an c {k with x:=fun i st=>bif Nat.beq i id then k.n st else k.x i st}
 | .loop c,k=>fun st=>match A1a an.loop (XV c)with
  |some A=>A1q A st fun j=>Dn cx sp an c {k with n:=j}
  |none=>False
 | .exit i,k=>k.x i
 | .ret,k=>k.r
 | _,_=>fun _=>False
section
variable {za:Zn} {w0:World} {cx:Cx} {sp:I7} {an:An} {all:List Oper}
theorem Ns {o:Oper} {k k':St->Prop} {st:St} (h:Jj cx all o k st) (hk:∀st',C4 st st'->k st'->k' st'):Jj cx all o k' st:=by
 unfold Jj at h⊢;split at h
 . split at h
   . split at h
     . exact E4.2 ⟨(E4.1 h).1,hk _ (C4.setS _ _ _) (E4.1 h).2⟩
     . exact h
   . split at h
     . split at h
       . split at h
         . rename_i hl;exact hk _ (QJ hl) h
         . exact h
       . exact h
     . exact h
 . split at h
   . obtain⟨hf,h⟩:=B7 h;simp only[hf,cond_true];split at h
     . obtain⟨htd,h⟩:=B7 h;simp only[htd,cond_true];split at h
       . obtain⟨hrb,h⟩:=B7 h;simp only[hrb,cond_true];exact E4.2 ⟨(E4.1 h).1,hk _ (C4.setS _ _ _) (E4.1 h).2⟩
       . exact h
       . split at h
         . split at h
           . rename_i hl;exact hk _ (QH hl) h
           . exact h
         . exact h
     . exact h
   . exact h
theorem LN:∀ {ls:List Nat} {k k':St->Prop} {st:St},FJ cx all ls k st->(∀st',C4 st st'->k st'->k' st')->FJ cx all ls k' st
 | [],_,_,st,h,hk=>hk st (C4.refl st) h
 |j::r,_,_,st,h,hk=>by
  simp only[FJ]at h⊢;split at h
  . obtain⟨hp,h⟩:=B7 h;simp only[hp,cond_true];exact Ns h fun st1 e1 h1=>LN h1 fun st2 e2 h2=>hk st2 (e1.trans e2) h2
  . exact h
theorem V9 {tails:List Nat} {n0:Nat} {nw:Bool} :∀ {p:Pl} {pre t:Bool} {k k':St->Prop} {st:St},N2 cx sp all tails n0 nw p pre t k st->(∀st',C4 st st'->k st'->k' st')->N2 cx sp all tails n0 nw p pre t k' st
 | .done,_,_,_,_,st,h,hk=>hk st (C4.refl st) h
 | .q i p,pre,t,_,_,st,h,hk=>by
  simp only[N2]at h⊢;split at h
  . obtain⟨hp,h⟩:=B7 h;simp only[hp,cond_true]at h⊢;exact Ns h fun st1 e1 h1=>V9 h1 fun st2 e2 h2=>hk st2 (e1.trans e2) h2
  . exact h
 | .p i p,pre,t,_,_,st,h,hk=>by
  simp only[N2]at h⊢;split at h
  . obtain⟨hp,h⟩:=B7 h;simp only[hp,cond_true];exact Ns h fun st1 e1 h1=>V9 h1 fun st2 e2 h2=>hk st2 (e1.trans e2) h2
  . exact h
 | .e i p,pre,t,_,_,st,h,hk=>by
  simp only[N2]at h⊢;split at h
  . obtain⟨hp,h⟩:=B7 h;simp only[hp,cond_true];exact Xz h fun st1 e1 h1=>V9 h1 fun st2 e2 h2=>hk st2 (e1.trans e2) h2
  . exact h
 | .or i p q,pre,t,_,_,st,h,hk=>by
  simp only[N2]at h⊢;refine⟨?_,V9 h.2 hk⟩;have h:=h.1;split at h
  . obtain⟨hp,h⟩:=B7 h;simp only[hp,cond_true];exact Xz h fun st1 e1 h1=>V9 h1 fun st2 e2 h2=>hk st2 (e1.trans e2) h2
  . exact h
 | .al is js p,pre,t,_,_,st,h,hk=>by
  simp only[N2]at h⊢;obtain⟨hp,h⟩:=B7 h;simp only[hp,cond_true];exact LJ h fun st1 e1 h1=>LN h1 fun st2 e2 h2=>V9 h2 fun st3 e3 h3=>hk st3 (e1.trans (e2.trans e3)) h3
theorem C4.told (A:Wo) (st0:St) (p:A.den):C4 st0 (Vc.reflect A st0 p):=
 ⟨Nat.le_trans (Nat.le_succ _) (C4.reflect A st0 p).ct,fun _ h0 h1=>YR h0 h1,fun _ h0 h1=>UV h0 h1,(C4.reflect A st0 p).f.le (Nat.le_succ _)⟩
theorem C4.gath {A:Wo} {st st1:St} {p:A.den} (h:gath A st=some (st1,p)):C4 st st1:=by
 simp only[Vc.gath,Option.bind_eq_bind,bind_some]at h;obtain⟨cs0,_,cs,_,tl,_,p',_,h⟩:=h;obtain⟨_,h⟩:=D9 h;cases h;exact(C4.plugL _ _).trans (C4.settleSh _ _ _)
theorem C4.mvB (st:St) (q:Nat):C4 st (Vc.mvB st q):=by
 unfold Vc.mvB;split
 . split
   . cases Nat.ble st.nm _ with
     |true=>exact(C4.setL ..).trans ((C4.newL ..).trans (C4.setS ..))
     |false=>exact C4.refl _
   . exact C4.refl _
 . exact C4.refl _
theorem C4.mvBs:∀(qs:List Nat) (st:St),C4 st (qs.foldl Vc.mvB st)
 | [],st=>C4.refl st
 |q::qs,st=>(C4.mvB st q).trans (C4.mvBs qs _)
theorem EG:∀ {c:Code} {k k':K} {st:St},Dn cx sp an c k st->(∀e st',C4 st st'->k.at e st'->k'.at e st')->Dn cx sp an c k' st:=by
 intro c
 induction c with
 |skip=>intro k k' st h hk;exact hk .normal st (C4.refl st) h
 |label l=>intro k k' st h hk;exact hk .normal st (C4.refl st) h
 |region id ops draw=>
  intro k k' st h hk;simp only[Dn]at h⊢;cases draw with
  |true=>
   simp only[cond_true]at h⊢;split at h
   . obtain⟨hp,h⟩:=B7 h;simp only[hp,cond_true];refine V9 h fun st' e hh=> ?_
     cases hf:Ay id an.mv with
     |none=>simp only[oC,hf]at hh⊢;exact hk .normal st' e hh
     |some qs=>simp only[oC,hf]at hh⊢;exact hk .normal _ (e.trans (C4.mvBs ..)) hh
   . exact h
  |false=>
   simp only[cond_false]at h⊢;exact FI h fun st' e=>hk .normal st' e
 |seq a b iha ihb=>
  intro k k' st h hk;simp only[Dn]at h⊢;split at h
  . rename_i A _;obtain⟨J,h1,h2⟩:=h;refine⟨J,iha h1 fun e st' ev hh=> ?_,fun p hw hJ=>ihb (h2 p hw hJ) fun e st' ev hh=> ?_⟩
    . cases e with
      |normal=>exact hh
      |exit i=>exact hk (.exit i) st' ev hh
      |ret=>exact hk .ret st' ev hh
      | _=>exact hh
    . exact hk e st' ((C4.told A st p).trans ev) hh
  . refine iha h fun e st1 e1 hh=> ?_
    cases e with
    |normal=>exact ihb hh fun e st2 e2 h2=>hk e st2 (e1.trans e2) h2
    |exit i=>exact hk (.exit i) st1 e1 hh
    |ret=>exact hk .ret st1 e1 hh
    | _=>exact hh
 |cond c a b iha ihb=>
  intro k k' st h hk;simp only[Dn]at h⊢;split at h
  . exact⟨fun e=>iha (h.1 e) hk,fun e=>ihb (h.2 e) hk⟩
  . exact h
 |block id c ih=>
  intro k k' st h hk;simp only[Dn]at h⊢;refine ih h fun e st' ev hh=> ?_
  cases e with
  |exit i=>
   simp only[K.at]at hh⊢;cases hb:Nat.beq i id with
   |true=>simp only[hb,cond_true]at hh⊢;exact hk .normal st' ev hh
   |false=>simp only[hb,cond_false]at hh⊢;exact hk (.exit i) st' ev hh
  |normal=>exact hk .normal st' ev hh
  |ret=>exact hk .ret st' ev hh
  | _=>exact hh
 |loop c ih=>
  intro k k' st h hk;simp only[Dn]at h⊢;split at h
  . rename_i A _;unfold A1q at h⊢;split at h
    . rename_i st1 p0 hg;obtain⟨hb,h⟩:=B7 h;simp only[hb,cond_true];obtain⟨I,μ,h0,h1⟩:=h;refine⟨I,μ,h0,fun p hw hI=>ih (h1 p hw hI) fun e st' ev hh=> ?_⟩;cases e with
      |normal=>exact hh
      |exit i=>exact hk (.exit i) st' ((C4.gath hg).trans ((C4.told A st1 p).trans ev)) hh
      |ret=>exact hk .ret st' ((C4.gath hg).trans ((C4.told A st1 p).trans ev)) hh
      | _=>exact hh
    . exact h
  . exact h
 |exit i=>intro k k' st h hk;exact hk (.exit i) st (C4.refl st) h
 |ret=>intro k k' st h hk;exact hk .ret st (C4.refl st) h
 | _=>intro k k' st h hk;exact h
theorem OX {A:Wo} (hb0:za.b0=0) {st0 st:St} {J:A.den->Prop} {E:F5} {w:World} {Z:Nat->Prop} {B:Nat->Value} (h:B9 za w0 st E w Z B) (ha:CC A st0 J st) (pk:oF za.n st0) (ev:C4 st0 st):∃p,A.wf p/\J p/\∃Z' B',B9 za w0 (reflect A st0 p) E w Z' B':=by
 unfold CC at ha;split at ha
 . rename_i st1 p hg;obtain⟨hk,ha⟩:=B7 ha;simp only[lS,Bool.and_eq_true,List.all_eq_true]at hk;obtain⟨⟨⟨k1,k2⟩,k3⟩,k5⟩:=hk;have e1:=ev.trans (C4.gath hg);have tm:∀ {n g:Nat},TM n g=true->g≠0/\g<=n:=fun hh=>by
    simp only[TM,Bool.and_eq_true]at hh;have a:=Nat.le_of_ble_eq_true hh.1;have b:=Nat.le_of_ble_eq_true hh.2;omega
   obtain⟨hw,Z',B',hr⟩:=dR hb0 h hg pk (fun s hs=>e1.s s (tm (k1 s hs)).1 (tm (k1 s hs)).2) (fun q hq=>e1.l q (tm (k2 q hq)).1 (tm (k2 q hq)).2) (fun y hy=>Qh (k3 y hy)) (e1.f.old k5);exact⟨p,hw,ha,Z',B',hr⟩
 . exact ha.elim
variable (hty:F9 cx.P cx.tys=true) (hsp:Kr cx.P sp)
include hty in
theorem Ya {S:World->Prop} {o:Oper} {k:St->Prop} {st:St} {E:F5} {w:World} {Z:Nat->Prop} {B:Nat->Value} (hS:∀w',S w'->(mD o.op=true->N0 w w')) (h:B9 za w0 st E w Z B) (hs:Jj cx all o k st):Xw cx.P S all o (Nx za w0 k) E w:=by
 obtain⟨dst,op,ty,pos,aft,gd⟩:=o;unfold Jj at hs;simp only at hs hS;split at hs
 . split at hs
   . rename_i φ v hp;split at hs
     . rename_i d;replace hs:=E4.1 hs;obtain⟨u,h1,h2,h3⟩:=Ue (ty:=ty) h hty (E1 E) hp hs.1;exact .inl ⟨rfl,u,fun w' hw'=>h1 w' (hS w' hw') _ _ _ _,_,_,_,h.setS d (h2 _) h3,hs.2⟩
     . exact hs.elim
   . split at hs
     . rename_i T x _;split at hs
       . rename_i d;split at hs
         . rename_i st' hl;obtain⟨u,B',h1,h2⟩:=XX (ty:=ty) h hty hl;exact .inl ⟨rfl,u,fun w' hw'=>h1 w' (hS w' hw' rfl) _ _ _ _,_,_,_,h2,hs⟩
         . exact hs.elim
       . exact hs.elim
     . exact hs.elim
 . rename_i j b;split at hs
   . rename_i t hj;have hfull:=(B7 hs).1;replace hs:=(B7 hs).2;split at hs
     . rename_i d;have htd':=(B7 hs).1;replace hs:=(B7 hs).2;have htd:t≠d:=Nat.ne_of_beq_eq_false (by simpa using htd');split at hs
       . rename_i φ s hp;obtain⟨hrb,hs⟩:=B7 hs;replace hs:=E4.1 hs;rw[XL]at hs;by_cases hw:E t= .bool b
         . have hctx:=h.gctx (n:=20) hw;obtain⟨u,h1,h2,h3⟩:=Ue (ty:=ty) h hty hctx hp (hs.1 (h.ctxP hctx));refine .inl ⟨AC hj hw,u,fun w' hw'=>h1 w' (hS w' hw') _ _ _ _,_,_,_,h.setS d (x:= .cnd t b s) (.inl ⟨?_,h2 E⟩) h3,hs.2⟩;rw[C6 _ _ _ _ htd];exact hw
         . have hoff:D5 all ⟨some d,op,ty,pos,aft,some (j,b)⟩ E=false:=by
            unfold D5 U6;simp only[hj];cases hEt:E t with
            |bool b'=>simp only[beq_eq_false_iff_ne,ne_eq,Option.some.injEq];intro hh;exact hw (by rw[hEt,hh])
            | _=>rfl
           refine .inr ⟨hoff,_,_,_,h.setS d (x:= .cnd t b s) (.inr ⟨?_,rfl⟩) (fun c hc=>UU (List.all_eq_true.1 hrb c hc)),hs.2⟩;rw[C6 _ _ _ _ htd];exact hw
       . exact hs.elim
       . split at hs
         . rename_i T x _;split at hs
           . rename_i st1 hl;obtain⟨l1,l2⟩:=XW (ty:=ty) h hty htd hl;by_cases hw:E t= .bool b
             . obtain⟨u,B',h1,h2⟩:=l1 hw (h.gctx (n:=20) hw);exact .inl ⟨AC hj hw,u,fun w' hw'=>h1 w' (hS w' hw' rfl) _ _ _ _,_,_,_,h2,hs⟩
             . have hoff:D5 all ⟨some d, .load T x,ty,pos,aft,some (j,b)⟩ E=false:=by
                unfold D5 U6;simp only[hj];cases hEt:E t with
                |bool b'=>simp only[beq_eq_false_iff_ne,ne_eq,Option.some.injEq];intro hh;exact hw (by rw[hEt,hh])
                | _=>rfl
               obtain⟨B',g2⟩:=l2 hw;exact .inr ⟨hoff,_,_,_,g2,hs⟩
           . exact hs.elim
         . exact hs.elim
     . exact hs.elim
   . exact hs.elim
theorem LE {P:Program} {S:World->Prop} {o:Oper} {n n':F5->World->Prop} {E:F5} {w:World} (h:Xw P S all o n E w) (hn:∀E',n E' w->n' E' w):Xw P S all o n' E w:=by
 rcases h with⟨h1,v,h2,h3⟩ | ⟨h1,h2⟩
 . exact .inl ⟨h1,v,h2,hn _ h3⟩
 . exact .inr ⟨h1,hn _ h2⟩
def RW (nw:Bool) (b0:Nat) (w w':World):Prop:=bif nw then(Below b0 w w'/\True)else N0 w w'
theorem RW.of {nw:Bool} {b0:Nat} {w w':World} (hb:b0<=w.heap.size) (h:N0 w w'):RW nw b0 w w':=by
 cases nw with
 |true=>exact⟨⟨h.os,h.tape,h.output,h.size,fun k hk=>h.block k (Nat.lt_of_lt_of_le hk hb)⟩,h.drw⟩
 |false=>exact h
theorem RW.refl (nw:Bool) (b0:Nat) (w:World):RW nw b0 w w:=by
 cases nw with
 |true=>exact⟨Below.refl _ _,trivial⟩
 |false=>exact N0.refl _
theorem RW.trans {nw:Bool} {b0:Nat} {a b c:World} (h:RW nw b0 a b) (h':RW nw b0 b c):RW nw b0 a c:=by
 cases nw with
 |true=>exact⟨Below.trans h.1 h'.1,trivial⟩
 |false=>exact N0.trans h h'
include hty hsp in
theorem eZ {nw tl:Bool} {n0:Nat} {k:St->Prop} {o:Oper} {st:St} {E:F5} {w:World} {Z:Nat->Prop} {B:Nat->Value} (hk0:nw=true->za.k0=n0) (hb0:nw=false->za.b0=0) (h:B9 za w0 st E w Z B)
 (hm:((tl|| !(NB sp st o) || (nw&&kO n0 st o.op))&&(!nw||UJ sp n0 st o.op))=true) (hs:Vy cx sp all o k st):I0 cx.P all o (fun E' w'=>(tl=true\/RW nw za.b0 w w')/\Nx za w0 k E' w') E w:=by
 simp only[Bool.and_eq_true,Bool.or_eq_true,Bool.not_eq_true']at hm;obtain⟨hm,hom⟩:=hm;have hmk:za.b0=0\/UJ sp za.k0 st o.op=true:=by
  cases hn:nw with
  |false=>exact .inl (hb0 hn)
  |true=>rw[hn]at hom;exact .inr (by rw[hk0 hn];simpa using hom)
 rcases hm with(hm|hm) |hm
 . refine K7 ?_ (LK h hmk hty hsp hs);rintro E' w' ⟨_,n⟩;exact⟨.inl hm,n⟩
 . refine K7 ?_ (LK h hmk hty hsp hs);rintro E' w' ⟨hx,n⟩;exact⟨.inr (RW.of h.mrk.1 (hx hm)),n⟩
 . obtain⟨hnw,hm⟩:=hm;subst hnw;obtain⟨dst,op,ty,pos,aft,gd⟩:=o;have hfr:=hm;unfold kO at hm;split at hm
   . rename_i T p v heq;simp only at heq;subst heq;unfold Vy at hs;simp only at hs;cases gd with
     |none=>
      simp only[Rp]at hs;cases dst with
      |none=>
       simp only at hs;have hnm:Xk st (.store T p v)=false:=by
        rcases hom with hom|hom
        . cases hom
        . simp only[UJ,Bool.and_eq_true,Bool.not_eq_true']at hom;exact hom.2
       rw[YG hnm]at hs;simp only at hs;split at hs
       . rename_i φ st' hst;refine K7 ?_ (RY h hty hst (E4.1 hs).1 (E4.1 hs).2 rfl);rintro E' w' ⟨hb,n⟩;exact⟨.inr (hb (by rw[hk0 rfl];exact hfr)),n⟩
       . exact hs.elim
      |some d=>exact hs.elim
     |some jb=>
      obtain⟨j,b⟩:=jb;simp only[Rp]at hs;split at hs
      . obtain⟨_,hs⟩:=B7 hs;split at hs
        . obtain⟨_,hs⟩:=B7 hs;exact hs.elim
        . exact hs.elim
      . exact hs.elim
   . cases hm
include hty in
theorem ZC {k:St->Prop} :∀ {js:List Nat},(∀j∈js,UP all j=true)->(W0 all js).Nodup->∀ {st:St} {E:F5} {w:World} {Z:Nat->Prop} {B:Nat->Value},B9 za w0 st E w Z B->FJ cx all js k st->∃F,(∀x,x∉W0 all js->F x=E x)/\AlV cx.P all js F/\Nx za w0 k F w
 | [],_,_,st,E,w,Z,B,h,hs=>⟨E,fun _ _=>rfl,fun _ hj=>(by cases hj),st,Z,B,h,hs⟩
 |j::r,hpl,hnd,st,E,w,Z,B,h,hs=>by
  simp only[FJ]at hs;simp only[W0,List.map_cons]at hnd;obtain⟨n1,n2⟩:=List.nodup_cons.1 hnd;split at hs
  . rename_i o ho;obtain⟨hm,hs⟩:=B7 hs;simp only[Bool.and_eq_true,Bool.not_eq_true']at hm;obtain⟨hdst,hg,hns⟩:=Ro (hpl j List.mem_cons_self) ho;have hsub:=EI hm.2;have hq:=Ya (S:=fun _=>True) (all:=all) hty (fun w' _ hh=>by rw[hh]at hm;cases hm.1) h hs;have hwant:D5 all o E=true:=by simp[D5,hg]
    rcases hq with⟨_,v,hv,st1,Z1,B1,h1,hs1⟩ | ⟨hw,_⟩
    . rw[hdst]at h1;obtain⟨F,g1,g2,g3⟩:=ZC (fun i hi=>hpl i (List.mem_cons_of_mem _ hi)) n2 h1 hs1;have hFj:F (Ck all j)=v:=by rw[g1 _ n1];exact B4 _ _ _
      refine⟨F,fun x hx=> ?_,fun i hi=> ?_,g3⟩
      . simp only[W0,List.map_cons,List.mem_cons,not_or]at hx;rw[g1 x hx.2];exact C6 _ _ _ _ hx.1
      . rcases List.mem_cons.1 hi with rfl|hi
        . refine⟨o,ho,fun w'=> ?_⟩;rw[hFj,CL (E:=F) (E':=E) ho hns fun u hu=> ?_]
          . exact hv w' trivial
          . have hx:=hsub u hu;simp only[W0,List.map_cons,List.mem_cons,not_or]at hx;rw[g1 u hx.2];exact C6 _ _ _ _ hx.1
        . exact g2 i hi
    . rw[hwant]at hw;cases hw
  . exact hs.elim
theorem RW.size {nw:Bool} {b0:Nat} {a b:World} (h:RW nw b0 a b):a.heap.size<=b.heap.size:=by
 cases nw with
 |true=>exact h.1.size
 |false=>exact(show N0 a b from h).size
include hty in
theorem iH {nw:Bool} {is js:List Nat} {k:St->Prop} {st:St} {E:F5} {w:World} {Z:Nat->Prop} {B:Nat->Value} (hst:fJ all is js=true) (h:B9 za w0 st E w Z B) (hs:Vx cx all st is (FJ cx all js k) st):∃f X,jA cx.P (RW nw za.b0) all is js f X (Nx za w0 k) E w:=by
 simp only[fJ,Bool.and_eq_true,List.all_eq_true]at hst;obtain⟨⟨⟨s1,s2⟩,s3⟩,s4⟩:=hst;have s2:=(List.nodup_append.1 (Hg s2)).1;have s3:=Hg s3;have s3:(W0 all is++W0 all js).Nodup:=by simpa[W0]using s3
 obtain⟨d1,d2,d3⟩:=List.nodup_append.1 s3;have hget:=RQ hs;have hex:∀i,∃x:Obj×(Nat->Value),i∈is->∀o φ lc mk,all[i]? =some o->BP cx st (Ck all i) o.op=some (φ,lc,mk)->(∀w',(execOp (ev E) o).run cx.P w'= .ok (.value (x.2 w'.heap.size)) (w'.alloc x.1))/\jF lc mk x.1 x.2:=fun i=>by
  by_cases hi:i∈is
  . obtain⟨o,φ,lc,mk,ho,ha,hφ⟩:=hget i hi;obtain⟨X,f,g1,g2⟩:=fK h hty ha hφ;refine⟨(X,f),fun _ o' φ' lc' mk' ho' ha'=> ?_⟩;rw[ho]at ho';cases ho';rw[ha]at ha';cases ha';obtain⟨dst,op,ty,pos,aft,gd⟩:=o;exact⟨fun w'=>g1 ty w' _ _ _ _,g2⟩
  . exact⟨(.cells #[] 0 (0,0),fun _=>undef),fun hh=>absurd hh hi⟩
 obtain⟨g,hg⟩:=Classical.axiomOfChoice hex;refine⟨fun i=>(g i).2,fun i=>(g i).1,⟨fun i hi=> ?_,fun i hi w' hr=>RW.of (Nat.le_trans h.mrk.1 hr.size) (N0.alloc w' _),fun l hl=> ?_⟩⟩
 . obtain⟨o,φ,lc,mk,ho,ha,hφ⟩:=hget i hi;exact⟨o,ho,(hg i hi o φ lc mk ho ha).1⟩
 . have hln:l.Nodup:=hl.nodup_iff.2 s2;have hld:(W0 all l).Nodup:=(hl.map _).nodup_iff.2 d1;obtain⟨hx,bl,b1,b2⟩:=RP (f:=fun i=>(g i).2) (X:=fun i=>(g i).1) l E w hln hld;have h1:=h.more (Z':=Z) hx (fun _=>id) (fun _=> .inl);obtain⟨st1,B1,h2,h3⟩:=ZB (f:=fun i=>(g i).2) (X:=fun i=>(g i).1) (bl:=bl) h1 (fun i hi o φ lc mk ho ha=>(hg i hi o φ lc mk ho ha).2) (fun i hi=>by
    obtain⟨c1,c2,c3⟩:=b1 i (hl.symm.subset hi);refine⟨c2,Nat.le_trans h.ext.size c1,fun hz=> ?_,Nat.le_trans h.mrk.1 c1,fun q hq=> ?_⟩
    . have:=h.zlt _ hz;omega
    . have:=((h.locs q).root (h.ft hx hq)).2.1;omega) (fun i hi j hj hne=>b2 i (hl.symm.subset hi) j (hl.symm.subset hj) hne) s2 hs
   have hE:cX all (fun i=>(g i).2) bl is E=(Cm all (fun i=>(g i).2) (fun i=>(g i).1) l E w).1:=funext fun x=>by
    by_cases hxm:x∈W0 all is
    . obtain⟨i,hi,e⟩:=H8.1 hxm;subst e;rw[ZK d1 hi,(b1 i (hl.symm.subset hi)).2.2]
    . rw[Yc hxm,Eo _ _ _ fun hm=>hxm ((hl.map _).subset hm)]
   rw[hE]at h2;exact ZC hty (fun j hj=>s1 j (List.mem_append_right _ hj)) d2 h2 h3
include hty hsp in
theorem Ah {za0:Zn} {tails:List Nat} {n0:Nat} {nw:Bool} {k:St->Prop} (hk0:nw=true->za.k0=n0) (hb0:nw=false->za.b0=0) (hun:∀ {st:St} {E:F5} {w:World} {Z:Nat->Prop} {B:Nat->Value},B9 za w0 st E w Z B->B9 za0 w0 st E w Z B):∀ {p:Pl} {pre t:Bool} {st:St} {E:F5} {w:World} {Z:Nat->Prop} {B:Nat->Value},(nw=true->pre=true->za.b0=w.heap.size)->B9 za w0 st E w Z B->N2 cx sp all tails n0 nw p pre t k st->IT cx.P (RW nw za.b0) all tails (Nx za0 w0 k) p t E w
 | .done,_,_,_,_,_,_,_,_,h,hs=>⟨_,_,_,hun h,hs⟩
 | .q i p,pre,t,st,E,w,Z,B,hp,h,hs=>by
  simp only[N2]at hs;split at hs
  . rename_i o ho;obtain⟨hpre,hs⟩:=B7 hs;refine⟨o,ho,LE (Ya hty (fun w' hw' _=> ?_) h hs) ?_⟩
    . cases nw with
      |false=>exact hw'
      |true=>
       have hw':Below za.b0 w w'/\True:=hw';rw[hp rfl (by simpa using hpre)]at hw';exact⟨hw'.1,hw'.2⟩
    . rintro E' ⟨st',Z',B',h',hk⟩;exact Ah hk0 hb0 hun hp h' hk
  . exact hs.elim
 | .p i p,pre,t,st,E,w,Z,B,hp,h,hs=>by
  simp only[N2]at hs;split at hs
  . rename_i o ho;obtain⟨hm,hs⟩:=B7 hs;refine⟨o,ho,LE (Ya hty (fun w' _ hh=>by rw[hh]at hm;cases hm) h hs) ?_⟩;rintro E' ⟨st',Z',B',h',hk⟩;exact Ah hk0 hb0 hun hp h' hk
  . exact hs.elim
 | .e i p,pre,t,st,E,w,Z,B,hp,h,hs=>by
  simp only[N2]at hs;split at hs
  . rename_i o ho;obtain⟨hm,hs⟩:=B7 hs;refine⟨o,ho,K7 ?_ (eZ hty hsp hk0 hb0 (tl:=t||tails.contains i) h hm hs)⟩;rintro E' w' ⟨ht',st',Z',B',h',hk⟩;exact⟨ht',Ah hk0 hb0 hun (fun _ hh=>by cases hh) h' hk⟩
  . exact hs.elim
 | .or i p q,pre,t,st,E,w,Z,B,hp,h,hs=>by
  simp only[N2]at hs;refine⟨?_,Ah hk0 hb0 hun hp h hs.2⟩;have hs:=hs.1;split at hs
  . rename_i o ho;obtain⟨hm,hs⟩:=B7 hs;refine⟨o,ho,K7 ?_ (eZ hty hsp hk0 hb0 (tl:=t||tails.contains i) h hm hs)⟩;rintro E' w' ⟨ht',st',Z',B',h',hk⟩;exact⟨ht',Ah hk0 hb0 hun (fun _ hh=>by cases hh) h' hk⟩
  . exact hs.elim
 | .al is js p,pre,t,st,E,w,Z,B,hp,h,hs=>by
  simp only[N2]at hs;obtain⟨hst,hs⟩:=B7 hs;obtain⟨f,X,hsem⟩:=iH (nw:=nw) hty hst h hs;refine⟨f,X,hsem.one,hsem.rel,fun l hl=> ?_⟩;obtain⟨F,f1,f2,st',Z',B',h',hk'⟩:=hsem.fin l hl;exact⟨F,f1,f2,Ah hk0 hb0 hun (fun _ hh=>by cases hh) h' hk'⟩
theorem B9.marked {st:St} {E:F5} {w:World} {Z:Nat->Prop} {B:Nat->Value} (h:B9 za w0 st E w Z B):B9 {za with k0:=st.nx,b0:=w.heap.size} w0 st E w Z B:=
 ⟨h.ext,h.zlt,h.slots,h.locs,h.disj,h.refs,h.refl,h.fresh,h.bone,h.zin,h.nms,h.bfix,⟨Nat.le_refl _,fun k b hk hl=>by
  have:st.L k= .none:=h.fresh k hk;rw[this]at hl;exact hl.elim⟩,h.frs,h.frf⟩
theorem B9.unmark {k0 b0:Nat} (hb0:za.b0=0) {st:St} {E:F5} {w:World} {Z:Nat->Prop} {B:Nat->Value} (h:B9 {za with k0:=k0,b0:=b0} w0 st E w Z B):B9 za w0 st E w Z B:=
 ⟨h.ext,h.zlt,h.slots,h.locs,h.disj,h.refs,h.refl,h.fresh,h.bone,h.zin,h.nms,h.bfix,⟨by rw[hb0];exact Nat.zero_le _,fun k b _ _=>by rw[hb0];exact Nat.zero_le _⟩,h.frs,h.frf⟩
end
section
variable {za:Zn} {w0:World} {cx:Cx} {sp:I7} {an:An}
theorem kV {A:Wo} {st st1:St} {p:A.den} {E:F5} {w:World} {Z:Nat->Prop} {B:Nat->Value} (hb0:za.b0=0) (h:B9 za w0 st E w Z B) (hg:gath A st=some (st1,p)):∃Z',B9 za w0 st1 E w Z' B:=by
 simp only[Vc.gath,Option.bind_eq_bind,bind_some]at hg;obtain⟨cs0,_,cs,_,tl,_,p',_,hg⟩:=hg;obtain⟨_,hg⟩:=D9 hg;cases hg;obtain⟨Z0,h0⟩:=h.plugL hb0 (l:=A.rowL);exact B9.settleSh h0
theorem B9.mvB (hb0:za.b0=0) {st:St} {E:F5} {w:World} {Z:Nat->Prop} {B:Nat->Value} (h:B9 za w0 st E w Z B) (q:Nat):∃B',B9 za w0 (Vc.mvB st q) E w Z B':=by
 unfold Vc.mvB;split
 . rename_i k hq;split
   . rename_i T cs hk;cases hnm:Nat.ble st.nm k with
     |false=>exact⟨B,h⟩
     |true=>
      have hnm:=Nat.le_of_ble_eq_true hnm;have hkn:k<st.nx:=by
       by_cases hlt:k<st.nx
       . exact hlt
       . rw[h.fresh k (by omega)]at hk;cases hk
      have hl:=h.locs k;have hrl:=h.refl k;have hup:up za w0 k=up za w0 st.nx:=by
       funext b;have:=h.nms;refine propext ⟨fun hh=> ?_,fun hh=> ?_⟩<;>(rcases hh with hh|hh<;>first|exact .inl ⟨by omega,hh.2⟩ | (exfalso;omega))
      have hfo:∀b,A6 w (B k) (.box T cs) b->A6 w (B k) (st.L k) b:=fun b hb=>by rw[hk];exact hb
      rw[hk]at hl hrl;have hd:=h.drop k;have hnx:(st.setL k .none).nx=st.nx:=rfl;have h1:=hd.new (v:=B k) (lc:= .box T cs) (by
       rw[hnx, <-hup];obtain⟨b,vs,e1,e2,e3,e4,e5⟩:=hl;exact⟨b,vs,by rw[B4];exact e1,e2,e3,e4,e5.mono (n:=st.nx) (fun _=>id) (fun _ _=>rfl) (fun q hq=>C6 _ _ _ _ (Nat.ne_of_lt hq)) hrl⟩) (fun k' b hb hb'=>by
       rw[St.L_setL]at hb';split at hb'
       . exact hb'.elim
       . rename_i hne;exact h.disj k k' b (Ne.symm hne) (hfo b hb) hb') (Pr.le (Nat.le_succ _) hrl) (h.bone k) (fun b _ _=>by rw[hb0];exact Nat.zero_le _)
      refine⟨_,h1.setSame q ?_ ?_⟩
      . have hs:=h.slots q;rw[hq]at hs;obtain⟨v,vs',e,h2,h3⟩:=(show X7 w Z B [.box k 0] [E q]from hs);cases e;exact⟨_,_,rfl,(by
         obtain⟨b,e1,e2⟩:=h2;exact⟨b,by rw[hnx,B4];exact e1,e2⟩),h3⟩
      . intro c hc;cases List.mem_singleton.1 hc;exact Nat.lt_succ_self _
   . exact⟨B,h⟩
 . exact⟨B,h⟩
theorem B9.mvBs (hb0:za.b0=0):∀(qs:List Nat) {st:St} {E:F5} {w:World} {Z:Nat->Prop} {B:Nat->Value},B9 za w0 st E w Z B->∃B',B9 za w0 (qs.foldl Vc.mvB st) E w Z B'
 | [],_,_,_,_,B,h=>⟨B,h⟩
 |q::qs,_,_,_,_,_,h=>by
  obtain⟨B',h'⟩:=B9.mvB hb0 h q;exact B9.mvBs hb0 qs h'
def post (za:Zn) (w0:World) (k:K):Exit->F5->World->Prop:=fun e E w=>Nx za w0 (k.at e) E w
variable (hty:F9 cx.P cx.tys=true) (hsp:Kr cx.P sp)
include hty hsp in
theorem Gl (hb0:za.b0=0) {n:Nat} :∀ {c:Code} {k:K} {st:St} {E:F5} {w:World} {Z:Nat->Prop} {B:Nat->Value},B9 za w0 st E w Z B->Dn cx sp an c k st->Gw.Wp cx.P n c (post za w0 k) E w:=by
 intro c
 induction c with
 |skip=>intro k st E w Z B h hs _ a hr;exact wp_skip ⟨E,hr,st,Z,B,h,hs⟩
 |label l=>intro k st E w Z B h hs _ a hr;exact wp_label ⟨E,hr,st,Z,B,h,hs⟩
 |exit i=>intro k st E w Z B h hs _ a hr;exact wp_exit ⟨E,hr,st,Z,B,h,hs⟩
 |ret=>intro k st E w Z B h hs _ a hr;exact wp_ret ⟨E,hr,st,Z,B,h,hs⟩
 |region id ops draw=>
  intro k st E w Z B h hs hok a hr;simp only[N8]at hok;simp only[Dn]at hs;have hops:ops=ops.toList.toArray:=by simp
  cases draw with
  |false=>
   simp only[cond_false]at hs;rw[hops];refine wp_region ?_;have:=Xu (P:=cx.P) (Q:=post za w0 k) hok ops.toList 0 (by simp) a E w hr (RR hb0 hty hsp h hs);simpa[List.range_eq_range']using this
  |true=>
   simp only[cond_true]at hs;split at hs
   . rename_i heads tails nw p0 _;generalize A1n ops.toList heads tails nw p0=p at hs;obtain⟨hp,hs⟩:=B7 hs;simp only[Bool.and_eq_true]at hp;obtain⟨hp,hm⟩:=hp;simp only[A1h,Bool.and_eq_true]at hp;refine wp_mono (Q:=Uv n (post za w0 {k with n:=oC an id k.n})) ?_ (fun e a' w' hq=> ?_)
     rotate_left
     . obtain⟨E',hr',st',Z',B',h',hq⟩:=hq;cases e with
       |normal=>
        change oC an id k.n st' at hq;cases hf:Ay id an.mv with
        |none=>simp only[oC,hf]at hq;exact⟨E',hr',st',Z',B',h',hq⟩
        |some qs=>
         simp only[oC,hf]at hq;obtain⟨B2,h2⟩:=B9.mvBs hb0 qs h';exact⟨E',hr',_,Z',B2,h2,hq⟩
       |exit i=>exact⟨E',hr',st',Z',B',h',hq⟩
       |ret=>exact⟨E',hr',st',Z',B',h',hq⟩
       | _=>exact hq.elim
     rw[hops];refine wp_region_any hm (MY (S:=fun _=>True) (tails:=tails) _ _ _ _ ?_);have hnone:G1 tails (Array.replicate ops.toList.length false)=false:=by
      unfold G1;rw[List.any_eq_false];intro x _;simp only[Array.getD_eq_getD_getElem?,Array.getElem?_replicate];split<;>simp
     have h1:=h.more (Z':=Z) (w':=w.drew) (N0.refl w).drew (fun _ h=>h) (fun _=> .inl);have fin:∀b0,IT cx.P (RW nw b0) ops.toList tails (Nx za w0 (oC an id k.n)) p false E w.drew->R7 cx.P ops.toList.toArray (Uv n (post za w0 {k with n:=oC an id k.n})) (RW nw b0 w.drew) tails ops.toList.length (Array.replicate ops.toList.length false) a w.drew:=fun b0 hd=>
      kA (P:=cx.P) (R:=RW nw b0) (RW.refl nw _) (fun a b=>a.trans b) (Q:=post za w0 {k with n:=oC an id k.n}) hok hp.1.1 hp.1.2 (fun c E w hh=>by obtain⟨_,_,_,_,hh⟩:=hh;exact hh) p ops.toList.length _ none hp.2 ⟨WG _ _,fun ht=>by rw[hnone]at ht;cases ht⟩ false hnone.symm a E w.drew hr (fun _ hh=>by cases hh) hd
     cases nw with
     |true=>
      have:=fin _ (Ah (za0:=za) (nw:=true) hty hsp (n0:=st.nx) (fun _=>rfl) (fun hh=>by cases hh) (fun h=>h.unmark hb0) (fun _ _=>rfl) h1.marked hs);simpa using Fs (S':=fun _=>True) (fun _ _=>trivial) _ _ _ _ this
     |false=>
      have:=fin _ (Ah (za0:=za) (nw:=false) hty hsp (n0:=st.nx) (fun hh=>by cases hh) (fun _=>hb0) (fun h=>h) (fun hh=>by cases hh) h1 hs);simpa using Fs (S':=fun _=>True) (fun _ _=>trivial) _ _ _ _ this
   . exact hs.elim
 |seq a b iha ihb=>
  intro k st E w Z B h hs hok act hr;simp only[N8,Bool.and_eq_true]at hok;simp only[Dn]at hs;split at hs
  . rename_i A _;obtain⟨J,h1,h2⟩:=hs;have h1':=EG (k':= {n:=fun st'=>C4 st st'/\CC A st J st',x:=k.x,r:=k.r}) h1 (fun e st' ev hh=>by
     cases e with
     |normal=>exact⟨ev,hh⟩
     |exit i=>exact hh
     |ret=>exact hh
     | _=>exact hh)
    refine wp_seq (wp_mono (iha h h1' hok.1 act hr) ?_);rintro e a' w' ⟨E',hr',st',Z',B',h',hq⟩;cases e with
    |normal=>
     obtain⟨p,hw,hJ,Z2,B2,h3⟩:=OX hb0 h' hq.2 h.pure hq.1;exact ihb h3 (h2 p hw hJ) hok.2 a' hr'
    |exit i=>exact⟨E',hr',st',Z',B',h',hq⟩
    |ret=>exact⟨E',hr',st',Z',B',h',hq⟩
    | _=>exact hq.elim
  . refine wp_seq (wp_mono (iha h hs hok.1 act hr) ?_);rintro e a' w' ⟨E',hr',st',Z',B',h',hq⟩;cases e with
    |normal=>exact ihb h' hq hok.2 a' hr'
    |exit i=>exact⟨E',hr',st',Z',B',h',hq⟩
    |ret=>exact⟨E',hr',st',Z',B',h',hq⟩
    | _=>exact hq.elim
 |cond c x y ihx ihy=>
  intro k st E w Z B h hs hok act hr;simp only[N8,Bool.and_eq_true]at hok;simp only[Dn]at hs;split at hs
  . rename_i e he;obtain⟨s,hs1,hs2⟩:=bind_some.1 he;have hv:=Kt (h.ev (E1 E) hs1).1 hs2;refine wp_cond (t:=e) (by rw[hr.ev];exact hv) ?_;cases e with
    |true=>exact ihx h (hs.1 rfl) hok.1 act hr
    |false=>exact ihy h (hs.2 rfl) hok.2 act hr
  . exact hs.elim
 |block id c ih=>
  intro k st E w Z B h hs hok act hr;refine wp_block (wp_mono (ih h hs hok act hr) ?_);rintro e a' w' ⟨E',hr',st',Z',B',h',hq⟩;cases e with
  |normal=>exact⟨E',hr',st',Z',B',h',hq⟩
  |ret=>exact⟨E',hr',st',Z',B',h',hq⟩
  |exit j=>
   simp only[Exit.inBlock];simp only[K.at]at hq;by_cases hj:j=id
   . subst hj;simp only[if_true];simp at hq;exact⟨E',hr',st',Z',B',h',hq⟩
   . simp only[hj,if_false];rw[D8 hj]at hq;exact⟨E',hr',st',Z',B',h',hq⟩
  | _=>exact hq.elim
 |loop c ih=>
  intro k st E w Z B h hs hok act hr;simp only[N8]at hok;simp only[Dn]at hs;split at hs
  . rename_i A _;unfold A1q at hs;split at hs
    . rename_i st1 p0 hg;obtain⟨hb,hs⟩:=B7 hs;simp only[Bool.and_eq_true,List.all_eq_true]at hb;obtain⟨I,μ,h0,h1⟩:=hs;obtain⟨Z1,hr1⟩:=kV hb0 h hg;obtain⟨hwf,Z2,B2,h2⟩:=dR hb0 h hg hr1.pure (fun _ _=>rfl) (fun _ _=>rfl) (fun y hy=>Qh (hb.1 y hy)) rfl;refine wp_loop_ghost (fun m a w=>∃p E',μ p=m/\Gw.C7 n a E'/\A.wf p/\I p/\∃Z B,B9 za w0 (reflect A st1 p) E' w Z B) (μ p0) ⟨p0,E,rfl,hr,hwf,h0,Z2,B2,h2⟩ ?_;rintro m a w ⟨p,E',hmu,hrep,hw,hI,Z3,B3,h3⟩;have h4:=EG (k':= {n:=fun st'=>C4 (reflect A st1 p) st'/\CC A st1 (fun p'=>I p'/\μ p'<μ p) st',x:=k.x,r:=k.r}) (h1 p hw hI) (fun e st' ev hh=>by
       cases e with
       |normal=>exact⟨ev,hh⟩
       |exit i=>exact hh
       |ret=>exact hh
       | _=>exact hh)
      refine wp_mono (ih h3 h4 hok a hrep) ?_;rintro e a' w' ⟨E'',hr',st',Z',B',h',hq⟩;cases e with
      |normal=>
       obtain⟨p',hw',hJ,Z5,B5,h5⟩:=OX hb0 h' hq.2 hr1.pure ((C4.told A st1 p).trans hq.1);exact⟨μ p',by have:=hJ.2;omega,p',E'',rfl,hr',hw',hJ.1,Z5,B5,h5⟩
      |exit j=>exact⟨E'',hr',st',Z',B',h',hq⟩
      |ret=>exact⟨E'',hr',st',Z',B',h',hq⟩
      | _=>exact hq.elim
    . exact hs.elim
  . exact hs.elim
 | _=>intro k st E w Z B h hs;exact hs.elim
end
abbrev Pj (α:Type):List α:= []
def Rq (cx:Cx) (st:St):List ResultVar->Option (List SV)
 | []=>some []
 | .tmp t::r=>match st.S t with
  | .one s=>(Rq cx st r).map (s:: ·)
  | _=>none
 | .cell a T::r=>do
  let ti<-cx.ti T
  match st.S a with
  | .one ⟨false,[.box k 0]⟩=>match st.L k with
   | .box _ cs=>bif Nat.beq cs.length ti.ty.size then(Rq cx st r).map (⟨ti.agg,cs⟩:: ·)else none
   | _=>none
  | _=>none
def settleR:St->List RT->List SV->St
 |st, .val _ _::rs,s::ss=>settleR (settle st s.cs) rs ss
 |st, .own _ _::rs,_::ss=>settleR st rs ss
 |st, .obox _ _::rs,s::ss=>settleR (match c1 s with
  |some (.box k 0)=>(match st.L k with
   | .box _ cs=>settle st cs
   | _=>st)
  | _=>st) rs ss
 |st, .rows _ _ _::rs,_::ss=>settleR st rs ss
 |st,_,_=>st
def Vu (st:St):(rs:List RT)->List SV->Option (Ba rs)
 | [],[]=>some ()
 | .val a t::rs,s::ss=>(Ed a t s).bind fun x=>(Vu st rs ss).map fun y=>(x,y)
 | .own t e::rs,s::ss=>((c1 s).bind (EC st t e)).bind fun x=>(Vu st rs ss).map fun y=>(x,y)
 | .obox T t::rs,s::ss=>((OZ s).bind fun k=>bif Nat.ble st.nm k then WB st T t k else none).bind fun x=>(Vu st rs ss).map fun y=>(x,y)
 | .rows t e e'::rs,s::ss=>((Lm s).bind fun k=>bif Nat.ble st.nm k then rowsAt st t e e' k else none).bind fun x=>(Vu st rs ss).map fun y=>(x,y)
 | _,_=>none
def X5:List RT->List SV->List Nat
 | .own _ _::rs,⟨false,[.row k]⟩::ss=>k::X5 rs ss
 | .obox _ _::rs,⟨false,[.box k 0]⟩::ss=>k::X5 rs ss
 | .rows _ _ _::rs,⟨false,[.row k]⟩::ss=>k::X5 rs ss
 | _::rs,_::ss=>X5 rs ss
 | _,_=> []
def settleM:St->List AM->Nat->St
 |st, .box _ _::r,j=>settleM (match st.L j with| .box _ cs=>settle st cs| _=>st) r (j+1)
 |st, .row _ _::r,j=>settleM st r (j+1)
 |st, .val _ _::r,j=>settleM st r j
 |st, .fn _ _ _::r,j=>settleM st r j
 |st, .rows _ _ _::r,j=>settleM st r (j+1)
 |st,[],_=>st
def NS (st:St):(as:List AM)->Nat->Option (Ke as)
 | [],_=>some ()
 | .row t e::r,j=>(Oh st t e j).bind fun x=>(NS st r (j+1)).map fun y=>(x,y)
 | .box T t::r,j=>(WB st T t j).bind fun x=>(NS st r (j+1)).map fun y=>(x,y)
 | .val _ _::r,j=>NS st r j
 | .fn _ _ _::r,j=>NS st r j
 | .rows t e e'::r,j=>(rowsAt st t e e' j).bind fun x=>(NS st r (j+1)).map fun y=>(x,y)
def A1d:AM->Bool
 | .row t _=>Hb t
 | .rows t _ _=>Hb t
 | .box _ t=>Hb t
 | _=>true
def A2k (s:A9) (x:A5 s.args) (r:Ba s.res) (o:Ke s.args):Prop:=bif L2 s.args then s.post x r/\s.mpost x r o else s.post x r
def fin (cx:Cx) (s:A9) (vars:List ResultVar) (x:A5 s.args) (st:St):Prop:=
 match Rq cx st vars with
 |some ss=>match Rq cx (settleM (settleR st s.res ss) s.args 0) vars with
  |some ss1=>match Vu (settleM (settleR st s.res ss) s.args 0) s.res ss1,NS (settleM (settleR st s.res ss) s.args 0) s.args 0 with
   |some r,some o=>bif(Xm (X5 s.res ss1)&&Hn s.res)&&(s.shared|| (s.res.all dM&&s.args.all A1d))then A2k s x r o else False
   | _,_=>False
  |none=>False
 |none=>False
def Ea (P:Program):(as:List AM)->A5 as->Nat->Nat->List (Nat×Nat×DV)
 | [],_,_,_=> []
 | .val a t::r,x,i,j=>(i,1, .one ⟨a,explode t x.1⟩)::Ea P r x.2 (i+1) j
 | .row _ _::r,x,i,j=>(i,1, .one ⟨false,[.row j]⟩)::Ea P r x.2 (i+1) (j+1)
 | .box _ _::r,x,i,j=>(i,1, .one ⟨false,[.box j 0]⟩)::Ea P r x.2 (i+1) (j+1)
 | .rows _ _ _::r,x,i,j=>(i,1, .one ⟨false,[.row j]⟩)::Ea P r x.2 (i+1) (j+1)
 | .fn as' ra' r'::r,x,i,j=>(i,1, .one ⟨false,[.fv P as' ra' r' x.1.1 x.1.2]⟩)::Ea P r x.2 (i+1) j
def Az:(as:List AM)->A5 as->Nat->List (Nat×Nat×LC)
 | [],_,_=> []
 | .val _ _::r,x,j=>Az r x.2 j
 | .fn _ _ _::r,x,j=>Az r x.2 j
 | .row t e::r,x,j=>(j,1, .row t e x.1)::Az r x.2 (j+1)
 | .box T t::r,x,j=>(j,1, .box T (explode t x.1))::Az r x.2 (j+1)
 | .rows t e e'::r,x,j=>(j,1, .rows t e e' x.1 [] none)::Az r x.2 (j+1)
def Fu:List AM->Nat
 | []=>0
 | .row _ _::r=>Fu r+1
 | .box _ _::r=>Fu r+1
 | .rows _ _ _::r=>Fu r+1
 | .val _ _::r=>Fu r
 | .fn _ _ _::r=>Fu r
def JL (P:Program) (as:List AM) (x:A5 as):St:=⟨Ea P as x 0 0,Az as x 0,Fu as,1,Fu as,[]⟩
def A3q (cx:Cx) (sp:I7) (an:An) (s:A9) (vars:List ResultVar) (c:Code) (x:A5 s.args):Prop:=
 Dn cx sp an c ⟨fin cx s vars x,fun _ _=>False,fin cx s vars x⟩ (JL cx.P s.args x)
section
variable {za:Zn} {w0 w:World} {Z:Nat->Prop} {B:Nat->Value} {st:St} {E:F5} {cx:Cx} {sp:I7} {an:An}
def NT (tmps:Array Value):ResultVar->Sem Value
 | .tmp t=>pure (tmps.getD t undef)
 | .cell a t=>do loadVar t (<-asAddr (tmps.getD a undef))
theorem Rr (hty:F9 cx.P cx.tys=true) (h:B9 za w0 st E w Z B) {tmps:Array Value} (ht:∀t,tmps.getD t undef=E t):∀ {vars:List ResultVar} {ss:List SV},Rq cx st vars=some ss->∃vs,(vars.mapM (NT tmps)).run cx.P w= .ok vs w/\Kq w Z B ss vs
 | [],ss,hs=>by cases hs;exact⟨[],rfl,rfl⟩
 | .tmp t::r,ss,hs=>by
  simp only[Rq]at hs;split at hs
  . rename_i s hd;simp only[Option.map_eq_some_iff]at hs;obtain⟨ss',hs',rfl⟩:=hs;obtain⟨vs,h1,h2⟩:=Rr hty h ht hs';have hsl:=h.slots t;rw[hd]at hsl;refine⟨E t::vs, ?_,E t,vs,rfl,hsl,h2⟩;rw[List.mapM_cons];simp only[NT,ht,Sem.run_bind,Sem.run_pure,Result.andThen_ok,h1]
  . cases hs
 | .cell a T::r,ss,hs=>by
  simp only[Rq,Option.bind_eq_bind,bind_some]at hs;obtain⟨ti,hti,hs⟩:=hs;split at hs
  . rename_i k hd;split at hs
    . rename_i T' cs hk;obtain⟨hb,hs⟩:=D9 hs;simp only[Option.map_eq_some_iff]at hs;obtain⟨ss',hs',rfl⟩:=hs;obtain⟨vs,h1,h2⟩:=Rr hty h ht hs';have hlen:=Nat.eq_of_beq_eq_true hb;have hsl:=h.slots a;rw[hd]at hsl;obtain⟨_,_,e1,⟨b,e2,e3⟩,_⟩:=hsl;cases e1;have hL:=h.locs k;rw[hk]at hL;obtain⟨b',us,e4,_,_,hblk,hcs⟩:=hL;rw[e2]at e4;cases e4;have hul:us.toList.length=ti.ty.size:=by rw[<-hlen,hcs.len]
      rcases(H4 (B6 hty hti)).2.1 with⟨ha,hag⟩ | ⟨ha,hsc,hs1⟩
      . refine⟨.agg us.toList.toArray::vs, ?_,_,vs,rfl,by rw[ha];exact⟨us.toList,rfl,hcs⟩,h2⟩;obtain⟨g1,g2⟩:=Kg (P:=cx.P) (w:=w) hag;have g3:=run_loadCells_list (P:=cx.P) (w:=w) ⟨b,0,none⟩ us.toList hblk.cellsAt;rw[hul]at g3;unfold loadCells at g3;rw[List.mapM_cons];simp[NT,ht,e3,asAddr,loadVar,g1,g2,g3,h1,go_sem]
      . rw[hs1]at hul
        match hus:us.toList,hul with
        | [u],_=>
         rw[hus]at hcs;have hcell:w.cell? ⟨b,0,none⟩=some u:=by
          have:=hblk.cellsAt 0 u (by rw[hus];rfl);rwa[G8]at this
         refine⟨u::vs, ?_,u,vs,rfl,by rw[ha];exact hcs,h2⟩;have g1:=Aw (P:=cx.P) (w:=w) hsc;rw[List.mapM_cons];simp[NT,ht,e3,asAddr,loadVar,g1,hcell,h1,go_sem]
    . cases hs
  . cases hs
theorem B9.settleR:∀ {rs:List RT} {ss:List SV} {st:St} {Z:Nat->Prop},B9 za w0 st E w Z B->∃Z',B9 za w0 (settleR st rs ss) E w Z' B
 | .val _ _::rs,s::ss,st,Z,h=>by
  obtain⟨Z1,h1⟩:=h.settle s.cs;exact B9.settleR (rs:=rs) (ss:=ss) h1
 | .own _ _::rs,_::ss,st,Z,h=>B9.settleR (rs:=rs) (ss:=ss) h
 | .obox _ _::rs,s::ss,st,Z,h=>by
  simp only[Vc.settleR];split
  . split
    . obtain⟨Z1,h1⟩:=h.settle _;exact B9.settleR (rs:=rs) (ss:=ss) h1
    . exact B9.settleR (rs:=rs) (ss:=ss) h
  . exact B9.settleR (rs:=rs) (ss:=ss) h
 | [],_,st,Z,h=>⟨Z,h⟩
 | .val _ _:: _,[],st,Z,h=>⟨Z,h⟩
 | .own _ _:: _,[],st,Z,h=>⟨Z,h⟩
 | .obox _ _:: _,[],st,Z,h=>⟨Z,h⟩
 | .rows _ _ _::rs,_::ss,st,Z,h=>B9.settleR (rs:=rs) (ss:=ss) h
 | .rows _ _ _:: _,[],st,Z,h=>⟨Z,h⟩
theorem Hl (h:B9 za w0 st E w Z B) {Zn:Nat->Prop} (hzn:∀b,Zn b->Z b):∀ {rs:List RT} {ss:List SV} {vs:List Value} {r:Ba rs},((∀b,Z b->Zn b)\/rs.all dM=true)->Kq w Z B ss vs->Vu st rs ss=some r->(X5 rs ss).Nodup->Hn rs=true->
 Ix w0.heap.size w Zn rs vs r/\∀u∈Q6 rs vs,∀b,root u=some b->∃k∈X5 rs ss,A6 w (B k) (st.L k) b
 | [],[],vs,_,_,hr,_,_,_=>⟨hr,fun u hu=>by simp[Q6]at hu⟩
 | [],_:: _,_,_,_,_,hp,_,_=>by cases hp
 | .val _ _:: _,[],_,_,_,_,hp,_,_=>by cases hp
 | .own _ _:: _,[],_,_,_,_,hp,_,_=>by cases hp
 | .obox _ _:: _,[],_,_,_,_,hp,_,_=>by cases hp
 | .rows _ _ _:: _,[],_,_,_,_,hp,_,_=>by cases hp
 | .rows t e0 e1::rs,s::ss,_,r,hf,⟨v,vs',e,h1,h2⟩,hp,hn,hrf=>by
  simp only[Vu,bind_some,Option.map_eq_some_iff]at hp;obtain⟨l,⟨q,hq,hl⟩,y,hy,rfl⟩:=hp;subst e;obtain⟨hnm,hl⟩:=D9 hl;have hqn:=Nat.le_of_ble_eq_true hnm;have hcs:s=⟨false,[.row q]⟩:=by
   unfold Lm at hq;split at hq
   . cases hq;rfl
   . cases hq
  subst hcs;obtain⟨_,_,e2,hvq,_⟩:=h1;cases e2;have hvq:v=B q:=hvq;subst hvq;obtain⟨al,hqL⟩:=T1 hl;have hL:=h.locs q;rw[hqL]at hL;have hR:=hL.rowsR;have hfq:∀b,A6 w (B q) (.rows t e0 e1 l [] none) b->A6 w (B q) (st.L q) b:=fun b hb=>by rw[hqL];exact(P8 fun _ _=>rfl).1 hb
  simp only[Hn,W1,Kb,Bool.and_eq_true,Bool.not_true,Bool.false_or,Bool.not_eq_true']at hrf;obtain⟨⟨r1,r2⟩,r3⟩:=hrf;have hid:X5 (.rows t e0 e1::rs) (⟨false,[.row q]⟩::ss)=q::X5 rs ss:=rfl;rw[hid]at hn⊢;have hn':=List.nodup_cons.1 hn;obtain⟨g1,g2⟩:=Hl h hzn (hf.imp id fun hh=>by simp only[List.all_cons,Bool.and_eq_true]at hh;exact hh.2) h2 hy hn'.2 r3;have hRn:X8 w Zn t e0 e1 (B q) l:=by
   obtain⟨xs,o1,o2,o3,o4⟩:=hR;refine⟨xs,o1,fun i a x ha hx=>(o2 i a x ha hx).imp fun ys hy=>⟨hy.1, ?_⟩,o3,o4⟩;rcases hf with hf|hf
   . exact hy.2.mono fun _ _=>C7.mono hf (fun _ _=>rfl)
   . simp only[List.all_cons,Bool.and_eq_true]at hf;exact hy.2.mono fun _ _ hh=>C7.flat hf.1 hh
  refine⟨⟨B q,vs',rfl,⟨hRn,fun b hb=> ?_⟩,fun _=>⟨⟨r1,fun _=>r2⟩,fun b hb u hu=>by rw[Nm r2]at hu;cases hu⟩,g1⟩,fun u hu b hb=> ?_⟩
  . obtain⟨a1,a2,a3⟩:=(h.locs q).root (hfq b hb);refine⟨?_,fun hz=>a3 (hzn b hz),a2⟩;rcases a1 with a1|a1
    . exact a1.2
    . have:=h.nms.1;omega
  . simp only[Q6,List.mem_cons]at hu;rcases hu with rfl|hu
    . exact⟨q,by simp,hfq b (.inl hb)⟩
    . obtain⟨k,hk,r⟩:=g2 u hu b hb;exact⟨k,List.mem_cons_of_mem _ hk,r⟩
 | .val a t::rs,s::ss,_,r,hf,⟨v,vs',e,h1,h2⟩,hp,hn,hrf=>by
  simp only[Hn,Bool.and_eq_true]at hrf;obtain⟨hr1,hr2⟩:=hrf;simp only[Vu,bind_some,Option.map_eq_some_iff]at hp;obtain⟨x,hx,y,hy,rfl⟩:=hp;have hid:X5 (.val a t::rs) (s::ss)=X5 rs ss:=by
   obtain⟨sa,sc⟩:=s;simp only[X5]
  rw[hid]at hn⊢;obtain⟨g1,g2⟩:=Hl h hzn (hf.imp id fun hh=>by simp only[List.all_cons,Bool.and_eq_true]at hh;exact hh.2) h2 hy hn hr2;subst e;refine⟨⟨v,vs',rfl, ?_,fun hh=>(by cases hh),g1⟩,g2⟩;have hrep:=W4 h1 hx;rcases hf with hf|hf
  . exact hrep.mono hf (fun _ _=>rfl)
  . simp only[List.all_cons,Bool.and_eq_true]at hf;cases a with
    |true=>obtain⟨cs,e,hrep⟩:=hrep;exact⟨cs,e,C7.flat hf.1 hrep⟩
    |false=>exact C7.flat (cs:= [v]) hf.1 hrep
 | .own t e0::rs,s::ss,_,r,hf,⟨v,vs',e,h1,h2⟩,hp,hn,hrf=>by
  simp only[Hn,W1,Kb,Bool.and_eq_true,Bool.not_true,Bool.false_or,Bool.not_false,Bool.true_or,Bool.and_true,Bool.not_eq_true']at hrf;obtain⟨hr1,hr2⟩:=hrf;simp only[Vu,bind_some,Option.map_eq_some_iff]at hp;obtain⟨l,⟨c,hc,hl⟩,y,hy,rfl⟩:=hp;subst e;have hcs:s=⟨false,[c]⟩:=by
   unfold c1 at hc;split at hc
   . cases hc;rfl
   . cases hc
  subst hcs;obtain⟨_,_,e1,hrc,_⟩:=h1;cases e1;obtain⟨xs,o1,o2,o3,o4⟩:=ED h hrc hl;have hro:=E2 o1;have hEach:F2 (C7 t w Zn) xs l:=by
   rcases hf with hf|hf
   . exact o2.mono fun _ _=>C7.mono hf (fun _ _=>rfl)
   . simp only[List.all_cons,Bool.and_eq_true]at hf;exact o2.mono fun _ _ hh=>C7.flat hf.1 hh
  have hf':(∀b,Z b->Zn b)\/rs.all dM=true:=hf.imp id fun hh=>by simp only[List.all_cons,Bool.and_eq_true]at hh;exact hh.2
  rcases o4 with⟨q,rfl,hlq,hvq⟩ | ⟨hnr,hnq⟩
  . have hid:X5 (.own t e0::rs) (⟨false,[.row q]⟩::ss)=q::X5 rs ss:=rfl;rw[hid]at hn⊢;have hn':=List.nodup_cons.1 hn;obtain⟨g1,g2⟩:=Hl h hzn hf' h2 hy hn'.2 hr2;refine⟨⟨v,vs',rfl,⟨xs,o1,hEach,fun b hb hz=>o3 b hb (hzn b hz)⟩,fun _=>⟨⟨hr1,fun hh=>(by cases hh)⟩,fun b hb u hu hub=> ?_⟩,g1⟩,fun u hu b hb=> ?_⟩
    . obtain⟨k,hk,hrk⟩:=g2 u hu b hub;have hqb:root (B q)=some b:=by rw[<-hvq];exact hb
      exact h.disj q k b (fun hh=>hn'.1 (hh▸hk)) (A6.of hlq hqb) hrk
    . simp only[Q6,List.mem_cons]at hu;rcases hu with rfl|hu
      . exact⟨q,by simp,A6.of hlq (by rw[<-hvq];exact hb)⟩
      . obtain⟨k,hk,r⟩:=g2 u hu b hb;exact⟨k,List.mem_cons_of_mem _ hk,r⟩
  . have hid:X5 (.own t e0::rs) (⟨false,[c]⟩::ss)=X5 rs ss:=by cases c<;>first|rfl|exact absurd rfl (hnq _)
    rw[hid]at hn⊢;obtain⟨g1,g2⟩:=Hl h hzn hf' h2 hy hn hr2;have hno:∀b,root v≠some b:=fun b hb=>by rw[hnr]at hb;cases hb
    refine⟨⟨v,vs',rfl,⟨xs,o1,hEach,fun b hb=>absurd (hro.trans hb) (hno b)⟩,fun _=>⟨⟨hr1,fun hh=>(by cases hh)⟩,fun b hb=>absurd hb (hno b)⟩,g1⟩,fun u hu b hb=> ?_⟩;simp only[Q6,List.mem_cons]at hu;rcases hu with rfl|hu
    . exact absurd hb (hno b)
    . exact g2 u hu b hb
 | .obox T t::rs,s::ss,_,r,hf,⟨v,vs',e,h1,h2⟩,hp,hn,hrf=>by
  simp only[Hn,W1,Kb,Bool.and_eq_true,Bool.not_true,Bool.false_or,Bool.not_false,Bool.true_or,Bool.and_true,Bool.not_eq_true']at hrf;obtain⟨hr1,hr2⟩:=hrf;simp only[Vu,bind_some,Option.map_eq_some_iff]at hp;obtain⟨x,⟨q,hq,hx⟩,y,hy,rfl⟩:=hp;subst e;obtain⟨hnm,hx⟩:=D9 hx;have hcs:s=⟨false,[.box q 0]⟩:=by
   unfold OZ at hq;split at hq
   . cases hq;rfl
   . cases hq
  subst hcs;obtain⟨_,_,e1,⟨b',e2,e3⟩,_⟩:=h1;cases e1;obtain⟨cs,hqL,hpk⟩:=Qi hx;have hL:=h.locs q;rw[hqL]at hL;obtain⟨g,us,d1,d2,d3,d4,d5⟩:=hL;rw[d1]at e2;cases e2;have hrep:=Da d5 hpk;have hrep':C7 t w Zn us.toList x:=by
   rcases hf with hf|hf
   . exact C7.mono hf (fun _ _=>rfl) hrep
   . simp only[List.all_cons,Bool.and_eq_true]at hf;exact C7.flat hf.1 hrep
  have hf':(∀b,Z b->Zn b)\/rs.all dM=true:=hf.imp id fun hh=>by simp only[List.all_cons,Bool.and_eq_true]at hh;exact hh.2
  have hid:X5 (.obox T t::rs) (⟨false,[.box q 0]⟩::ss)=q::X5 rs ss:=rfl;rw[hid]at hn⊢;have hn':=List.nodup_cons.1 hn;obtain⟨g1,g2⟩:=Hl h hzn hf' h2 hy hn'.2 hr2;have hbase:w0.heap.size<=b':=by
   rcases d2 with d2|d2
   . exact d2.2
   . have:=h.nms.1;have:=Nat.le_of_ble_eq_true hnm;omega
  have hfq:∀c,root (Value.pointer (some ⟨b',0,none⟩))=some c->A6 w (B q) (st.L q) c:=fun c hc=>by rw[hqL,d1];exact hc
  refine⟨⟨v,vs',rfl,⟨b',us,e3,hbase,fun hz=>d3 (hzn b' hz),d4,hrep'⟩,fun _=>⟨⟨hr1,fun hh=>(by cases hh)⟩,fun b hb u hu hub=> ?_⟩,g1⟩,fun u hu b hb=> ?_⟩
  . obtain⟨k,hk,hrk⟩:=g2 u hu b hub;rw[e3]at hb;exact h.disj q k b (fun hh=>hn'.1 (hh▸hk)) (hfq b hb) hrk
  . simp only[Q6,List.mem_cons]at hu;rcases hu with rfl|hu
    . rw[e3]at hb;exact⟨q,by simp,hfq b hb⟩
    . obtain⟨k,hk,r⟩:=g2 u hu b hb;exact⟨k,List.mem_cons_of_mem _ hk,r⟩
theorem B9.settleM:∀ {as:List AM} {st:St} {j:Nat} {Z:Nat->Prop},B9 za w0 st E w Z B->∃Z',B9 za w0 (settleM st as j) E w Z' B
 | [],st,_,Z,h=>⟨Z,h⟩
 | .row _ _::r,st,j,Z,h=>B9.settleM (as:=r) h
 | .val _ _::r,st,j,Z,h=>B9.settleM (as:=r) h
 | .fn _ _ _::r,st,j,Z,h=>B9.settleM (as:=r) h
 | .rows _ _ _::r,st,j,Z,h=>B9.settleM (as:=r) h
 | .box _ _::r,st,j,Z,h=>by
  simp only[Vc.settleM];split
  . obtain⟨Z1,h1⟩:=h.settle _;exact B9.settleM (as:=r) h1
  . exact B9.settleM (as:=r) h
theorem Mw (h:B9 za w0 st E w Z B) {Zn:Nat->Prop} :∀ {as:List AM} {vs:List Value} {o:Ke as} {j:Nat},((∀b,Z b->Zn b)\/as.all A1d=true)->(∀m u,(D6 as vs)[m]? =some u->B (j+m)=u)->(∀m p,(M6 as vs)[m]? =some p->∀b,up za w0 (j+m) b->A6 w0 p.2 (iX p.1) b)->vs.length=as.length->NS st as j=some o->Pb w0 w Zn as vs o
 | [],_,_,_,_,_,_,_,_=>trivial
 |a::r,[],_,_,_,_,_,hl,_=>by simp at hl
 | .val _ _::r,v::vs,o,j,hf,hB,hU,hl,ho=>Mw (as:=r) h (hf.imp id fun hh=>by simp only[List.all_cons,Bool.and_eq_true]at hh;exact hh.2) hB hU (by simpa using hl) ho
 | .fn _ _ _::r,v::vs,o,j,hf,hB,hU,hl,ho=>Mw (as:=r) h (hf.imp id fun hh=>by simp only[List.all_cons,Bool.and_eq_true]at hh;exact hh.2) hB hU (by simpa using hl) ho
 | .row t e::r,v::vs,o,j,hf,hB,hU,hl,ho=>by
  simp only[NS,bind_some,Option.map_eq_some_iff]at ho;obtain⟨x,hx,y,hy,rfl⟩:=ho;have hBj:B j=v:=hB 0 v (by simp[D6,J3]);have hL:=h.locs j;rw[Fc hx]at hL;obtain⟨xs,g1,g2,_⟩:=hL;rw[hBj]at g1;refine⟨⟨xs,g1, ?_⟩,Mw (as:=r) h (hf.imp id fun hh=>by simp only[List.all_cons,Bool.and_eq_true]at hh;exact hh.2) (fun m u hm=>by rw[show j+1+m=j+(m+1)from by omega];exact hB (m+1) u (by simpa[D6,J3]using hm)) (fun m p hm=>by rw[show j+1+m=j+(m+1)from by omega];exact hU (m+1) p (by simpa[M6,J3]using hm)) (by simpa using hl) hy⟩;rcases hf with hf|hf
  . exact g2.mono fun _ _=>C7.mono hf (fun _ _=>rfl)
  . simp only[List.all_cons,Bool.and_eq_true]at hf;exact g2.mono fun _ _ hh=>C7.flat hf.1 hh
 | .box T t::r,v::vs,o,j,hf,hB,hU,hl,ho=>by
  simp only[NS,bind_some,Option.map_eq_some_iff]at ho;obtain⟨x,hx,y,hy,rfl⟩:=ho;have hBj:B j=v:=hB 0 v (by simp[D6,J3]);obtain⟨cs,hc,hp⟩:=Qi hx;have hL:=h.locs j;rw[hc]at hL;obtain⟨b,us,g1,_,_,g4,g5⟩:=hL;rw[hBj]at g1;refine⟨⟨b,us,g1,g4, ?_⟩,Mw (as:=r) h (hf.imp id fun hh=>by simp only[List.all_cons,Bool.and_eq_true]at hh;exact hh.2) (fun m u hm=>by rw[show j+1+m=j+(m+1)from by omega];exact hB (m+1) u (by simpa[D6,J3]using hm)) (fun m p hm=>by rw[show j+1+m=j+(m+1)from by omega];exact hU (m+1) p (by simpa[M6,J3]using hm)) (by simpa using hl) hy⟩;have:=Da g5 hp;rcases hf with hf|hf
  . exact C7.mono hf (fun _ _=>rfl) this
  . simp only[List.all_cons,Bool.and_eq_true]at hf;exact C7.flat hf.1 this
 | .rows t e e'::r,v::vs,o,j,hf,hB,hU,hl,ho=>by
  simp only[NS,bind_some,Option.map_eq_some_iff]at ho;obtain⟨x,hx,y,hy,rfl⟩:=ho;have hBj:B j=v:=hB 0 v (by simp[D6,J3]);have hL:=h.locs j;obtain⟨al,ha⟩:=T1 hx;rw[ha]at hL;have hR:=hL.rowsR;rw[hBj]at hR;refine⟨⟨?_,fun b hb=> ?_⟩,Mw (as:=r) h (hf.imp id fun hh=>by simp only[List.all_cons,Bool.and_eq_true]at hh;exact hh.2) (fun m u hm=>by rw[show j+1+m=j+(m+1)from by omega];exact hB (m+1) u (by simpa[D6,J3]using hm)) (fun m p hm=>by rw[show j+1+m=j+(m+1)from by omega];exact hU (m+1) p (by simpa[M6,J3]using hm)) (by simpa using hl) hy⟩
  . rcases hf with hf|hf
    . exact hR.mono hf
    . simp only[List.all_cons,Bool.and_eq_true]at hf;obtain⟨xs,h1,h3,h4,h5⟩:=hR;exact⟨xs,h1,fun i l x hl hx=>(h3 i l x hl hx).imp fun ys hy=>⟨hy.1,hy.2.mono fun _ _ hh=>C7.flat hf.1 hh⟩,h4,h5⟩
  . have hb':A6 w (B j) (st.L j) b:=by rw[ha,hBj];exact(P8 fun _ _=>rfl).1 hb
    exact hU 0 (.rows t e e',v) (by simp[M6,J3]) b ((h.locs j).root hb').1
variable {P:Program}
theorem Ej {n:Nat} :∀ {as:List AM} {vs:List Value} {x:A5 as} {i j s:Nat},S8 P w Z as vs x->i<=s->(∀m u,(D6 as vs)[m]? =some u->B (j+m)=u)->j+Fu as<=n->RD w Z B E (find (0, .dead) s (Ea P as x i j)).2 ((vs[s-i]?).getD undef)/\AH n (find (0, .dead) s (Ea P as x i j)).2
 | [],_,_,_,_,_,_,_,_,_=>⟨trivial,trivial⟩
 |a::r,_,x,i,j,s,⟨v,vs',e,h1,h2⟩,hi,hB,hn=>by
  subst e;by_cases his:i=s
  . subst his;cases a with
    |val a t=>
     simp only[Ea,find,Nat.beq_refl,cond_true,Nat.sub_self];exact⟨Q3.explode h1,D7⟩
    |row t e=>
     simp only[Ea,find,Nat.beq_refl,cond_true,Nat.sub_self];have hBj:B j=v:=hB 0 v (by simp[D6,J3]);exact⟨⟨v,[],rfl,hBj.symm,rfl⟩,fun c hc=>by simp at hc;subst hc;simp only[Fu]at hn;show j<n;omega⟩
    |box T t=>
     simp only[Ea,find,Nat.beq_refl,cond_true,Nat.sub_self];have hBj:B j=v:=hB 0 v (by simp[D6,J3]);obtain⟨b,us,g1,_⟩:=h1;exact⟨⟨v,[],rfl,⟨b,hBj.trans g1,g1⟩,rfl⟩,fun c hc=>by simp at hc;subst hc;simp only[Fu]at hn;show j<n;omega⟩
    |rows t e e'=>
     simp only[Ea,find,Nat.beq_refl,cond_true,Nat.sub_self];have hBj:B j=v:=hB 0 v (by simp[D6,J3]);exact⟨⟨v,[],rfl,hBj.symm,rfl⟩,fun c hc=>by simp at hc;subst hc;simp only[Fu]at hn;show j<n;omega⟩
    |fn as' r'=>
     simp only[Ea,find,Nat.beq_refl,cond_true,Nat.sub_self];exact⟨⟨v,[],rfl,h1,rfl⟩,fun c hc=>by simp at hc;subst hc;trivial⟩
  . have he:s-i=(s-(i+1))+1:=by omega
    rw[he];cases a with
    |val a t=>
     simp only[Ea,find,D8 his,cond_false,List.getElem?_cons_succ];exact Ej (i:=i+1) (s:=s) h2 (by omega) hB hn
    |fn as' r'=>
     simp only[Ea,find,D8 his,cond_false,List.getElem?_cons_succ];exact Ej (i:=i+1) (s:=s) h2 (by omega) hB hn
    |row t e=>
     simp only[Ea,find,D8 his,cond_false,List.getElem?_cons_succ];exact Ej (i:=i+1) (s:=s) h2 (by omega) (fun m u hm=>by rw[show j+1+m=j+(m+1)from by omega];exact hB (m+1) u (by simpa[D6,J3]using hm)) (by simp only[Fu]at hn;omega)
    |box t e=>
     simp only[Ea,find,D8 his,cond_false,List.getElem?_cons_succ];exact Ej (i:=i+1) (s:=s) h2 (by omega) (fun m u hm=>by rw[show j+1+m=j+(m+1)from by omega];exact hB (m+1) u (by simpa[D6,J3]using hm)) (by simp only[Fu]at hn;omega)
    |rows t e e'=>
     simp only[Ea,find,D8 his,cond_false,List.getElem?_cons_succ];exact Ej (i:=i+1) (s:=s) h2 (by omega) (fun m u hm=>by rw[show j+1+m=j+(m+1)from by omega];exact hB (m+1) u (by simpa[D6,J3]using hm)) (by simp only[Fu]at hn;omega)
theorem bD {n:Nat} {U:Nat->Nat->Prop} :∀ {as:List AM} {vs:List Value} {x:A5 as} {j k:Nat},S8 P w Z as vs x->(∀m p,(M6 as vs)[m]? =some p->B (j+m)=p.2/\∀b,A6 w p.2 (iX p.1) b->U (j+m) b)->
 RL (U k) w Z B k (find (0, .none) k (Az as x j)).2/\Pr n (find (0, .none) k (Az as x j)).2/\(live (find (0, .none) k (Az as x j)).2->j<=k/\∃p,(M6 as vs)[k-j]? =some p/\∀b,A6 w (B k) (find (0, .none) k (Az as x j)).2 b->A6 w p.2 (iX p.1) b):=by
 intro as
 induction as with
 |nil=>intro _ _ _ _ _ _;exact⟨trivial,trivial,fun h=>h.elim⟩
 |cons a r ih=>
  intro vs x j k h hB;obtain⟨v,vs',e,h1,h2⟩:=h;subst e;have hrest:J3 a=true->j≠k->RL (U k) w Z B k (find (0, .none) k (Az r x.2 (j+1))).2/\Pr n (find (0, .none) k (Az r x.2 (j+1))).2/\(live (find (0, .none) k (Az r x.2 (j+1))).2->j<=k/\∃p,(M6 (a::r) (v::vs'))[k-j]? =some p/\∀b,A6 w (B k) (find (0, .none) k (Az r x.2 (j+1))).2 b->A6 w p.2 (iX p.1) b):=fun hm hjk=>by
   obtain⟨q1,q2,q3⟩:=ih (vs:=vs') (x:=x.2) (j:=j+1) (k:=k) h2 (fun m p hp=>by rw[show j+1+m=j+(m+1)from by omega];exact hB (m+1) p (by simpa[M6,hm]using hp));refine⟨q1,q2,fun hl=>⟨by have:=(q3 hl).1;omega, ?_⟩⟩;obtain⟨q4,p,q5,q6⟩:=q3 hl;refine⟨p, ?_,q6⟩;rw[show k-j=(k-(j+1))+1 from by omega];simpa[M6,hm]using q5
  cases a with
  |val a t=>exact ih (x:=x.2) h2 hB
  |fn a t=>exact ih (x:=x.2) h2 hB
  |row t e0=>
   simp only[Az,find];by_cases hjk:j=k
   . subst hjk;simp only[Nat.beq_refl,cond_true];obtain⟨hBj,hUj⟩:=hB 0 (.row t e0,v) (by simp[M6,J3]);obtain⟨xs,g1,g2,g3⟩:=h1;have hBj:B j=v:=hBj;refine⟨⟨xs,by rw[hBj];exact g1,g2,fun b hb=> ?_⟩,trivial,fun _=>⟨Nat.le_refl _,(.row t e0,v),by simp[M6,J3],fun b hb=>by rw[hBj]at hb;exact hb⟩⟩;rw[hBj]at hb;exact⟨hUj b ((E2 g1).trans hb),g3 b hb⟩
   . simp only[D8 hjk,cond_false];exact hrest rfl hjk
  |box T t=>
   simp only[Az,find];by_cases hjk:j=k
   . subst hjk;simp only[Nat.beq_refl,cond_true];obtain⟨hBj,hUj⟩:=hB 0 (.box T t,v) (by simp[M6,J3]);obtain⟨b,us,g1,g2,g3,g4⟩:=h1;have hBj:B j=v:=hBj;exact⟨⟨b,us,hBj.trans g1,hUj b (by rw[g1];rfl),g2,g3,O7 g4⟩,D7,fun _=>⟨Nat.le_refl _,(.box T t,v),by simp[M6,J3],fun b hb=>by rw[hBj]at hb;exact hb⟩⟩
   . simp only[D8 hjk,cond_false];exact hrest rfl hjk
  |rows t e0 e1=>
   simp only[Az,find];by_cases hjk:j=k
   . subst hjk;simp only[Nat.beq_refl,cond_true];obtain⟨hBj,hUj⟩:=hB 0 (.rows t e0 e1,v) (by simp[M6,J3]);obtain⟨g1,g2⟩:=h1;have hBj:B j=v:=hBj;refine⟨X8.rl (by rw[hBj];exact g1) fun b hb=> ?_,fun p hp=>(by cases hp),fun _=>⟨Nat.le_refl _,(.rows t e0 e1,v),by simp[M6,J3],fun b hb=>by rw[hBj]at hb;exact(P8 fun _ _=>rfl).1 hb⟩⟩;rw[hBj]at hb;exact⟨hUj b ((P8 fun _ _=>rfl).1 hb),g2 b hb⟩
   . simp only[D8 hjk,cond_false];exact hrest rfl hjk
theorem S8.len:∀ {as:List AM} {vs:List Value} {x:A5 as},S8 P w Z as vs x->vs.length=as.length
 | [],_,_,h=>by rw[show _= _ from h];rfl
 | _:: _,_,_,⟨v,vs',e,_,h2⟩=>by rw[e,List.length_cons,List.length_cons,S8.len h2]
theorem N9:∀ {as:List AM} {vs:List Value},vs.length=as.length->(D6 as vs).length=Fu as
 | [],vs,_=>by cases vs<;>rfl
 |a::r,[],h=>by simp at h
 | .val _ _::r,v::vs,h=>N9 (as:=r) (by simpa using h)
 | .fn _ _ _::r,v::vs,h=>N9 (as:=r) (by simpa using h)
 | .row _ _::r,v::vs,h=>by simp only[D6,J3,cond_true,List.length_cons,Fu];rw[N9 (as:=r) (by simpa using h)]
 | .box _ _::r,v::vs,h=>by simp only[D6,J3,cond_true,List.length_cons,Fu];rw[N9 (as:=r) (by simpa using h)]
 | .rows _ _ _::r,v::vs,h=>by simp only[D6,J3,cond_true,List.length_cons,Fu];rw[N9 (as:=r) (by simpa using h)]
theorem He:∀(as:List AM) (vs:List Value),D6 as vs=(M6 as vs).map (·.2)
 | [],vs=>by cases vs<;>rfl
 | _:: _,[]=>rfl
 |a::r,v::vs=>by
  simp only[D6,M6];cases J3 a
  . exact He r vs
  . simp only[cond_true,List.map_cons,He r vs]
theorem Dis.get:∀ {l:List (AM×Value)} {m m' b:Nat} {u u':AM×Value},Dis w l->m<m'->l[m]? =some u->l[m']? =some u'->A6 w u.2 (iX u.1) b->¬A6 w u'.2 (iX u'.1) b
 | [],_,_,_,_,_,_,_,h,_,_=>by simp at h
 |v::l,0,m'+1,b,u,u',hd,hm,h,h',hb=>by
  simp at h h';subst h;exact hd.1 b hb u' (List.mem_of_getElem? h')
 |v::l,m+1,m'+1,b,u,u',hd,hm,h,h',hb=>by
  simp at h h';exact Dis.get hd.2 (by omega) h h' hb
 |v::l,_,0,_,_,_,_,hm,_,_,_=>by omega
def KC (as:List AM) (vs:List Value):Nat->Value:=fun j=>((D6 as vs)[j]?).getD (.bool false)
theorem Ua:∀ {as:List AM} {vs:List Value} {x:A5 as},S8 P w Z as vs x->∀u∈D6 as vs,u.oneCell'=true
 | [],vs,_,_,u,hu=>by cases vs<;>cases hu
 | .val _ _::r,_,_,⟨v,vs',e,_,h2⟩,u,hu=>by subst e;exact Ua (as:=r) h2 u hu
 | .fn _ _ _::r,_,_,⟨v,vs',e,_,h2⟩,u,hu=>by subst e;exact Ua (as:=r) h2 u hu
 | .row t e0::r,_,_,⟨v,vs',e,⟨xs,g,_⟩,h2⟩,u,hu=>by
  subst e;simp only[D6,J3,cond_true,List.mem_cons]at hu;rcases hu with rfl|hu
  . rcases g.2 with⟨hv,_⟩ | ⟨_,_,_,hv,_⟩<;>rw[hv]<;>rfl
  . exact Ua (as:=r) h2 u hu
 | .rows t e0 e1::r,_,_,⟨v,vs',e,⟨⟨xs,g,_⟩,_⟩,h2⟩,u,hu=>by
  subst e;simp only[D6,J3,cond_true,List.mem_cons]at hu;rcases hu with rfl|hu
  . rcases g.2 with⟨hv,_⟩ | ⟨_,_,_,hv,_⟩<;>rw[hv]<;>rfl
  . exact Ua (as:=r) h2 u hu
 | .box t e0::r,_,_,⟨v,vs',e,⟨b,us,g,_⟩,h2⟩,u,hu=>by
  subst e;simp only[D6,J3,cond_true,List.mem_cons]at hu;rcases hu with rfl|hu
  . rw[g];rfl
  . exact Ua (as:=r) h2 u hu
theorem Ek:∀ {as:List AM} {x:A5 as} {j k:Nat},¬live (find (0, .none) k (Az as x j)).2->(find (0, .none) k (Az as x j)).2= .none
 | [],_,_,_,_=>rfl
 | .val _ _::r,x,j,k,h=>Ek (as:=r) (x:=x.2) (j:=j) h
 | .fn _ _ _::r,x,j,k,h=>Ek (as:=r) (x:=x.2) (j:=j) h
 | .row t e0::r,x,j,k,h=>by
  simp only[Az,find]at h⊢;cases hb:Nat.beq j k with
  |true=>rw[hb]at h;exact absurd trivial h
  |false=>rw[hb]at h;exact Ek (as:=r) h
 | .rows t e0 e1::r,x,j,k,h=>by
  simp only[Az,find]at h⊢;cases hb:Nat.beq j k with
  |true=>rw[hb]at h;exact absurd trivial h
  |false=>rw[hb]at h;exact Ek (as:=r) h
 | .box T t::r,x,j,k,h=>by
  simp only[Az,find]at h⊢;cases hb:Nat.beq j k with
  |true=>rw[hb]at h;exact absurd trivial h
  |false=>rw[hb]at h;exact Ek (as:=r) h
def A4r (w:World) (as:List AM) (vs:List Value):Nat->Nat->Prop:=fun k b=>∃p:AM×Value,(M6 as vs)[k]? =some p/\A6 w p.2 (iX p.1) b
def zn0 (w:World) (Z:Nat->Prop) (as:List AM) (vs:List Value):Zn:=⟨Z,YE w as vs,Fu as,KC as vs,0,0,A4r w as vs,fun _ _ ⟨p,hp,hb⟩=>⟨p,List.mem_of_getElem? hp,hb⟩,[]⟩
theorem dV {as:List AM} {vs:List Value} {x:A5 as} (hz:∀b,Z b->b<w.heap.size) (h:S8 P w Z as vs x) (hd:Dis w (M6 as vs)):B9 (zn0 w Z as vs) w (JL P as x) (EZ vs) w Z (KC as vs):=by
 have hlen:=N9 (S8.len h);have hB:∀m u,(D6 as vs)[m]? =some u->KC as vs (0+m)=u:=fun m u hm=>by simp only[KC,Nat.zero_add,hm,Option.getD_some]
 have hBp:∀(m:Nat) (p:AM×Value),(M6 as vs)[m]? =some p->(D6 as vs)[m]? =some p.2:=fun m p hm=>by rw[He,List.getElem?_map,hm];rfl
 have hT:=fun k=>bD (P:=P) (w:=w) (Z:=Z) (B:=KC as vs) (n:=Fu as) (U:=fun k b=>up (zn0 w Z as vs) w k b) (j:=0) (k:=k) h (fun m p hm=>⟨hB m p.2 (hBp m p hm),fun b hb=> .inr ⟨by have:=Vp (hBp m p hm);simp only[Nat.zero_add];show m<Fu as;omega,p,by simpa using hm,hb⟩⟩)
 have hS:=fun s=>Ej (P:=P) (w:=w) (Z:=Z) (B:=KC as vs) (E:=EZ vs) (n:=Fu as) (i:=0) (j:=0) (s:=s) h (Nat.zero_le _) hB (by omega)
 refine⟨Bg.of (N0.refl w),hz,fun s=>(hS s).1,fun k=>(hT k).1,fun k k' b hne l1 l2=> ?_,fun s=>(hS s).2,fun k=>(hT k).2.1,fun k hk=> ?_,fun k=> ?_,fun b hb=> .inl hb,⟨rfl,Nat.le_refl _⟩,fun _ _=>rfl,⟨Nat.zero_le _,fun _ _ _ _=>Nat.zero_le _⟩,trivial,fun f hf=>(by cases hf)⟩
 . obtain⟨_,p,a1,f1⟩:=(hT k).2.2 l1.live;obtain⟨_,p',a2,f2⟩:=(hT k').2.2 l2.live;simp only[Nat.sub_zero]at a1 a2;rcases Nat.lt_or_ge k k' with hlt|hge
   . exact hd.get hlt a1 a2 (f1 b l1) (f2 b l2)
   . exact hd.get (by omega:k'<k) a2 a1 (f2 b l2) (f1 b l1)
 . by_cases hl:live ((JL P as x).L k)
   . obtain⟨_,p,a1,_⟩:=(hT k).2.2 hl;simp only[Nat.sub_zero]at a1;have:=Vp (hBp k p a1);have hk:Fu as<=k:=hk;omega
   . exact Ek hl
 . simp only[KC];cases hm:(D6 as vs)[k]? with
   |none=>rfl
   |some u=>exact Ua h u (List.mem_of_getElem? hm)
theorem mA {f:FuncId} {fn:Func} {c:Code} {s:A9} (hf:cx.P.funcs[f]? =some fn) (hb:fn.body=some c) (hn:s.args.length<=fn.ntmps) (hok:N8 fn.ntmps c=true) (hty:F9 cx.P cx.tys=true) (hsp:Kr cx.P sp)
 (hv:∀x,awf s.args x->s.pre x->A3q cx sp an s fn.results.toList c x):B8 cx.P f s:=by
 intro w Z vs x hz hre hdis hpre;have hlen:vs.length=s.args.length:=hre.len;have hsem:=hv x hre.awf hpre;generalize hza:zn0 w Z s.args vs=za;have hinit:=dV hz hre hdis;rw[hza]at hinit;refine Qk hf hb (by rw[hlen];exact hn) hok (fun E w'=>Nx za w (fin cx s fn.results.toList x) E w') ?_ ⟨fun hok' a hr=> ?_⟩
 . rintro E w' tmps ht ⟨st,Z',B',h,hfin⟩;unfold fin at hfin;split at hfin
   . rename_i ss hss;split at hfin
     . rename_i ss1 hss1;split at hfin
       . rename_i r o hr ho;obtain⟨hnd,hpost⟩:=B7 hfin;simp only[Bool.and_eq_true]at hnd;obtain⟨Z0,h0⟩:=B9.settleR (rs:=s.res) (ss:=ss) h;obtain⟨Z1,h1⟩:=B9.settleM (as:=s.args) (j:=0) h0;obtain⟨us,g1,g2⟩:=Rr hty h1 ht hss1;have hres:(results fn tmps).run cx.P w'= .ok (Oi us) w':=by
          have hm:(fn.results.mapM (NT tmps)).run cx.P w'= .ok us.toArray w':=by
           rw[Array.mapM_eq_mapM_toList];simp[g1]
          have e:results fn tmps=(do let vs<-fn.results.mapM (NT tmps);pure (if h:vs.size=1 then vs[0]else .tuple vs)):=by
           unfold results;congr 1
          rw[e];simp only[Sem.run_bind,hm,Result.andThen_ok,Sem.run_pure]
          match us with
          | []=>rfl
          | [u]=>rfl
          |u::u'::r=>rfl
         have hpost':s.post x r/\(L2 s.args=true->s.mpost x r o):=by
          unfold A2k at hpost;cases hm:L2 s.args with
          |true=>simp only[hm,cond_true]at hpost;exact⟨hpost.1,fun _=>hpost.2⟩
          |false=>simp only[hm,cond_false]at hpost;exact⟨hpost,fun hh=>by cases hh⟩
         refine⟨_,hres, ?_,r,o,us,(fun b=>s.shared=true/\Z1 b),hpost'.1,hpost'.2,rfl,fun b hb=> ?_, ?_, ?_⟩
         . have:=h.ext;rw[<-hza]at this;exact this
         . rcases h1.zin b hb.2 with hh|hh
           . rw[<-hza]at hh;exact .inr ⟨hb.1,hh⟩
           . exact .inl ⟨hh,h1.zlt b hb.2⟩
         . refine(Hl h1 (Zn:=fun b=>s.shared=true/\Z1 b) (fun b hb=>hb.2) ?_ g2 hr (Ci hnd.1.1) hnd.1.2).1;cases hsh:s.shared with
           |true=>exact .inl fun b hb=>⟨rfl,hb⟩
           |false=>rw[hsh]at hnd;simp only[Bool.false_or,Bool.and_eq_true]at hnd;exact .inr hnd.2.1
         . refine Mw (Zn:=fun b=>s.shared=true/\Z1 b) h1 (j:=0) ?_ (fun m u hm=> ?_) (fun m p hm b hu=> ?_) hlen ho
           . cases hsh:s.shared with
             |true=>exact .inl fun b hb=>⟨rfl,hb⟩
             |false=>rw[hsh]at hnd;simp only[Bool.false_or,Bool.and_eq_true]at hnd;exact .inr hnd.2.2
           . have hlt:=Vp hm;rw[N9 hlen]at hlt;have:=h1.bfix m (by rw[<-hza];exact hlt);rw[Nat.zero_add,this, <-hza];show KC s.args vs m=u;simp only[KC,hm,Option.getD_some]
           . rw[<-hza,Nat.zero_add]at hu;rcases hu with⟨hu,_⟩ | ⟨_,p',hp',hb⟩
             . have hlt:=Vp (show(D6 s.args vs)[m]? =some p.2 by rw[He,List.getElem?_map,hm];rfl);rw[N9 hlen]at hlt;have hu:Fu s.args<=m:=hu;omega
             . rw[hm]at hp';cases hp';exact hb
       . exact hfin.elim
     . exact hfin.elim
   . exact hfin.elim
 . refine wp_mono (Gl hty hsp (by rw[<-hza];rfl) hinit hsem hok' a hr) ?_;rintro e a' w' ⟨E',hr',st',Z',B',h',hq⟩;refine⟨E',hr', ?_⟩;cases e with
   |normal=>exact⟨st',Z',B',h',hq⟩
   |ret=>exact⟨st',Z',B',h',hq⟩
   | _=>exact hq.elim
theorem mB {f:FuncId} {fn:Func} {c:Code} {s:A9} {vc:A5 s.args->Prop} (hf:cx.P.funcs[f]? =some fn) (hb:fn.body=some c) (hn:s.args.length<=fn.ntmps) (hok:N8 fn.ntmps c=true) (hty:F9 cx.P cx.tys=true) (hsp:Kr cx.P sp)
 (he:∀x,A3q cx sp an s fn.results.toList c x=vc x) (hv:∀x,awf s.args x->s.pre x->vc x):B8 cx.P f s:=
 mA hf hb hn hok hty hsp fun x hw hp=>by rw[he];exact hv x hw hp
def A5i (P:Program) (tys:List (Nat×TI)) (sp:I7) (an:An) (s:A9) (fn:Func) (x:A5 s.args):Prop:=A3q ⟨P,tys⟩ sp an s fn.results.toList (fn.body.getD .skip) x
theorem mC {P:Program} {tys:List (Nat×TI)} {sp:I7} {an:An} {f:FuncId} {fn:Func} {s:A9} {vc:A5 s.args->Prop} (hf:P.funcs[f]? =some fn) (hb:fn.body.isSome=true) (hn:Nat.ble s.args.length fn.ntmps=true) (hok:N8 fn.ntmps (fn.body.getD .skip)=true) (hty:F9 P tys=true) (hsp:Kr P sp)
 (he:∀x,A5i P tys sp an s fn x=vc x) (hv:∀x,awf s.args x->s.pre x->vc x):B8 P f s:=by
 cases hbb:fn.body with
 |none=>rw[hbb]at hb;cases hb
 |some c=>
  have hc:fn.body.getD .skip=c:=by rw[hbb];rfl
  refine mB (cx:=⟨P,tys⟩) (an:=an) (c:=c) hf hbb (Nat.le_of_ble_eq_true hn) (by rw[<-hc];exact hok) hty hsp (fun x=> ?_) hv;rw[<-he x, <-hc];rfl
def Uf (ct:Nat):Nat->List SV->List (Nat×Nat×DV)
 | _,[]=> []
 |i,s::ss=>(i,ct, .one s)::Uf ct (i+1) ss
def UQ (st:St) (ss:List SV):St:=⟨Uf (st.ct+1) 0 ss,st.lc,st.nx,st.ct+1,st.nm,st.sl::st.fr⟩
def cE (cx:Cx) (vars:List ResultVar) (b:Nat) (k:St->List SV->Prop) (st:St):Prop:=
 match st.fr with
 |f::fr=>(match Rq cx st vars with
  |some ss=>k ⟨f,st.lc,max st.nx b,st.ct,st.nm,fr⟩ ss
  |none=>False)
 | []=>False
def CQ (cx:Cx) (ans:List (Nat×I7×An)) (vars:List ResultVar) (c:Code) (n d:Nat) (st:St) (ss:List SV) (k:St->List SV->Prop):Prop:=
 match Ay d ans with
 |some (sp,an)=>bif Nat.ble ss.length n then Dn cx sp an c ⟨cE cx vars an.bump k,fun _ _=>False,cE cx vars an.bump k⟩ (UQ st ss)else False
 |none=>False
theorem RG {vars:List ResultVar} {b:Nat} {k k':St->List SV->Prop} {ss:List SV} {st':St} (ev:C4 (UQ st ss) st') (h:cE cx vars b k st') (hk:∀st' ss',C4 st st'->k st' ss'->k' st' ss'):cE cx vars b k' st':=by
 unfold cE at h⊢;cases hf:st'.fr with
 |nil=>rw[hf]at h;exact h
 |cons f fr=>
  rw[hf]at h;simp only at h⊢;split at h
  . have e:=ev.f;rw[hf]at e;have e:L5 (st.ct+1) st.sl f/\U8 (st.ct+1) st.fr fr:=e;refine hk _ _ ⟨Nat.le_trans (Nat.le_succ _) ev.ct,fun s h0 h1=> ?_,fun q h0 h1=>ev.l q h0 (Nat.le_succ_of_le h1),e.2.le (Nat.le_succ _)⟩ h;exact L5.find s e.1 (Nat.le_succ_of_le h1)
  . exact h
theorem lJ (ans:List (Nat×I7×An)) (vars:List ResultVar) (c:Code) (n:Nat) {st:St} {d:Nat} {ss:List SV} {k k':St->List SV->Prop} (h:CQ cx ans vars c n d st ss k) (hk:∀st' ss',C4 st st'->k st' ss'->k' st' ss'):CQ cx ans vars c n d st ss k':=by
 unfold CQ at h⊢;split at h
 . obtain⟨hb,h⟩:=B7 h;simp only[hb,cond_true];refine EG h fun e st' ev hh=> ?_
   cases e with
   |normal=>exact RG ev hh hk
   |ret=>exact RG ev hh hk
   | _=>exact hh
 . exact h
def YD (cx:Cx) (ans:List (Nat×I7×An)) (vars:List ResultVar) (c:Code) (n:Nat):Inl:= {run:=CQ cx ans vars c n,step:=lJ ans vars c n}
theorem AK {ct s:Nat} :∀ {ss:List SV} {i:Nat},(find (0, .dead) s (Uf ct i ss)).2=if i<=s then(match ss[s-i]? with|some v=> .one v|none=> .dead)else .dead
 | [],i=>by simp[Uf,find]
 |v::ss,i=>by
  simp only[Uf,find];cases hb:Nat.beq i s with
  |true=>
   have:=Nat.eq_of_beq_eq_true hb;subst this;simp
  |false=>
   have hne:i≠s:=Nat.ne_of_beq_eq_false hb;simp only[cond_false,AK (ss:=ss) (i:=i+1)];by_cases h1:i+1<=s
   . rw[if_pos h1,if_pos (by omega),show s-i=(s-(i+1))+1 from by omega,List.getElem?_cons_succ]
   . rw[if_neg h1,if_neg (by omega)]
theorem Kq.len {w:World} {Z:Nat->Prop} {B:Nat->Value} :∀ {ss:List SV} {vs:List Value},Kq w Z B ss vs->vs.length=ss.length
 | [],_,h=>by rw[show _= _ from h];rfl
 | _:: _,_,⟨v,vs',e,_,h2⟩=>by rw[e,List.length_cons,List.length_cons,Kq.len h2]
theorem EB (h:B9 za w0 st E w Z B):∀ {vars:List ResultVar} {ss:List SV},Rq cx st vars=some ss->∀s∈ss,Hm st.nx s
 | [],_,hs=>by cases hs;intro s hs;cases hs
 | .tmp t::r,ss,hs=>by
  simp only[Rq]at hs;split at hs
  . rename_i s1 hs1;simp only[Option.map_eq_some_iff]at hs;obtain⟨ss',hs',rfl⟩:=hs;intro s hm;rcases List.mem_cons.1 hm with rfl|hm
    . have:=h.refs t;rw[hs1]at this;exact this
    . exact EB h hs' s hm
  . cases hs
 | .cell a t::r,ss,hs=>by
  simp only[Rq,Option.bind_eq_bind,bind_some]at hs;obtain⟨ti,_,hs⟩:=hs;split at hs
  . rename_i k _;split at hs
    . rename_i T cs hk;obtain⟨_,hs⟩:=D9 hs;simp only[Option.map_eq_some_iff]at hs;obtain⟨ss',hs',rfl⟩:=hs;intro s hm;rcases List.mem_cons.1 hm with rfl|hm
      . have:=h.refl k;rw[hk]at this;exact this
      . exact EB h hs' s hm
    . cases hs
  . cases hs
def dB (P:Program) (ans:List (Nat×I7×An)):Prop:=∀x∈ans,Kr P x.2.1
theorem PT {α:Type} {d:Nat} {x:α} :∀ {l:List (Nat×α)},Ay d l=some x->(d,x)∈l
 | [],h=>by cases h
 | (t,y)::l,h=>by
  simp only[Ay]at h;cases hb:Nat.beq t d with
  |true=>
   rw[hb]at h;have:=Nat.eq_of_beq_eq_true hb;subst this;cases h;simp
  |false=>rw[hb]at h;exact List.mem_cons_of_mem _ (PT h)
theorem TO {f:FuncId} {fn:Func} {c:Code} {ans:List (Nat×I7×An)} (hf:cx.P.funcs[f]? =some fn) (hb:fn.body=some c) (hok:N8 fn.ntmps c=true) (hty:F9 cx.P cx.tys=true) (hsp:dB cx.P ans):Yr cx.P f (YD cx ans fn.results.toList c fn.ntmps):=by
 refine {go:= ?_};intro za w0 st E w Z B d ss vs k hb0 h hrs href hs;have hs:CQ cx ans fn.results.toList c fn.ntmps d st ss k:=hs;unfold CQ at hs;split at hs
 . rename_i sp an hfo;have hsp:=hsp _ (PT hfo);simp only at hsp;obtain⟨hle,hs⟩:=B7 hs;have hle:=Nat.le_of_ble_eq_true hle;have hlen:=hrs.len;have hS:∀s,(UQ st ss).S s=match ss[s]? with|some v=> .one v|none=> .dead:=fun s=>by
    show(find (0, .dead) s (Uf (st.ct+1) 0 ss)).2= _;rw[AK,if_pos (Nat.zero_le _)];rfl
   have h1:B9 {za with es:=E::za.es} w0 (UQ st ss) (EZ vs) w Z B:=by
    refine⟨h.ext,h.zlt,fun s=> ?_,h.locs,h.disj,fun s=> ?_,h.refl,h.fresh,h.bone,h.zin,h.nms,h.bfix,h.mrk,⟨h.slots,h.frs⟩,fun g hg s=> ?_⟩
    . rw[hS];cases hv:ss[s]? with
      |none=>trivial
      |some v=>
       obtain⟨u,h3,h4⟩:=hrs.get hv;show RS w Z B v (EZ vs s);simp only[EZ,h3,Option.getD_some];exact h4
    . rw[hS];cases hv:ss[s]? with
      |none=>trivial
      |some v=>exact href v (List.mem_of_getElem? hv)
    . rcases List.mem_cons.1 hg with rfl|hg
      . exact h.refs s
      . exact h.frf g hg s
   refine Qk hf hb (by rw[hlen];exact hle) hok (fun E' w'=>Nx {za with es:=E::za.es} w0 (cE cx fn.results.toList an.bump k) E' w') ?_ ⟨fun hok' a hr=> ?_⟩
   . rintro E' w' tmps ht ⟨st',Z',B',h',hp⟩;unfold cE at hp;have hfr:=h'.frs;have hff:=h'.frf;cases hfe:st'.fr with
     |nil=>rw[hfe]at hp;exact hp.elim
     |cons fl fr=>
      rw[hfe]at hp hfr hff;simp only at hp;obtain⟨hf1,hf2⟩:=hfr;split at hp
      . rename_i ss' hss;obtain⟨us,g1,g2⟩:=Rr hty h' ht hss;have hres:(results fn tmps).run cx.P w'= .ok (Oi us) w':=by
         have hm:(fn.results.mapM (NT tmps)).run cx.P w'= .ok us.toArray w':=by
          rw[Array.mapM_eq_mapM_toList];simp[g1]
         have e:results fn tmps=(do let vs<-fn.results.mapM (NT tmps);pure (if h:vs.size=1 then vs[0]else .tuple vs)):=by
          unfold results;congr 1
         rw[e];simp only[Sem.run_bind,hm,Result.andThen_ok,Sem.run_pure]
         match us with
         | []=>rfl
         | [u]=>rfl
         |u::u'::r=>rfl
        have hb:=Nat.le_max_left st'.nx an.bump;exact⟨_,hres,⟨fl,st'.lc,max st'.nx an.bump,st'.ct,st'.nm,fr⟩,Z',B',ss',us,⟨h'.ext,h'.zlt,hf1,h'.locs,h'.disj,fun s=>(hff fl (by simp) s).le hb,fun q=>(h'.refl q).le hb,fun q hq=>h'.fresh q (Nat.le_trans hb hq),h'.bone,h'.zin,⟨h'.nms.1,Nat.le_trans h'.nms.2 hb⟩,h'.bfix,h'.mrk,hf2,fun g hg s=>(hff g (by simp[hg]) s).le hb⟩,rfl,g2,fun s hs c hc=>(EB h' hss s hs c hc).le hb,hp⟩
      . exact hp.elim
   . refine wp_mono (Gl hty hsp (by exact hb0) h1 hs hok' a hr) ?_;rintro e a' w' ⟨E',hr',st',Z',B',h',hq⟩;refine⟨E',hr', ?_⟩;cases e with
     |normal=>exact⟨st',Z',B',h',hq⟩
     |ret=>exact⟨st',Z',B',h',hq⟩
     | _=>exact hq.elim
 . exact hs.elim
def Gi (run:Inl):A9:= {args:= [],res:= [],pre:=fun _=>False,post:=fun _ _=>True,inl:=some run}
end
end Go.Vc
namespace Go.Proofs.YtdlnpbmmdnmkaaaGreat
def nv:List Int->Nat
 | []=>0
 |a::l=>a.toNat+4294967296*nv l
def nc (n:Nat):List Int:=if h:n=0 then []else((n%4294967296:Nat):Int)::nc (n/4294967296)
termination_by n
decreasing_by omega
def TY (x:Int):Prop:=0<=x/\x<=4294967295
def A7 (l:List Int):Prop:=∀x∈l,TY x
theorem L9:nc 0= []:=by rw[nc];rfl
theorem DO {n:Nat} (h:n≠0):nc n=((n%4294967296:Nat):Int)::nc (n/4294967296):=by rw[nc];simp[h]
theorem E8 (n:Nat):nv (nc n)=n:=by
 induction n using Nat.strongRecOn with
 | _ n ih=>
  by_cases h:n=0
  . subst h;rw[L9];rfl
  . rw[DO h];simp only[nv,ih (n/4294967296) (by omega)];omega
theorem H9 (n:Nat):A7 (nc n):=by
 induction n using Nat.strongRecOn with
 | _ n ih=>
  by_cases h:n=0
  . subst h;rw[L9];intro x hx;cases hx
  . rw[DO h];intro x hx;rcases List.mem_cons.1 hx with rfl|hx
    . unfold TY;omega
    . exact ih (n/4294967296) (by omega) x hx
theorem Qz {n:Nat} :nc n= []↔n=0:=by
 constructor
 . intro h;by_cases h0:n=0
   . exact h0
   . rw[DO h0]at h;cases h
 . rintro rfl;exact L9
theorem eI (a:Int) (m:Nat) (ha:TY a) (h:a≠0\/m≠0):nc (a.toNat+4294967296*m)=a::nc m:=by
 unfold TY at ha;rw[DO (by omega)];congr 1
 . omega
 . congr 1;omega
theorem Lc (a b:List Int):nv (a++b)=nv a+4294967296^a.length*nv b:=by
 induction a with
 |nil=>simp[nv]
 |cons x a ih=>
  simp only[List.cons_append,nv,ih,List.length_cons,Nat.pow_succ];rw[Nat.mul_add, <-Nat.add_assoc, <-Nat.mul_assoc,Nat.mul_comm 4294967296 (4294967296^a.length)]
theorem Ld (n:Nat):nv (List.replicate n 0)=0:=by
 induction n with
 |zero=>rfl
 |succ n ih=>simp[List.replicate_succ,nv,ih]
theorem JP {a:Int} {l:List Int} :A7 (a::l)↔TY a/\A7 l:=by simp[A7]
theorem Cu {l:List Int} (h:A7 l):nv l<4294967296^l.length:=by
 induction l with
 |nil=>simp[nv]
 |cons a l ih=>
  rw[JP]at h;have:=ih h.2;have h1:=h.1;unfold TY at h1;simp only[nv,List.length_cons,Nat.pow_succ];omega
theorem A5e {l:List Int} (h:A7 l) (hl:∀x,l.getLast? =some x->x≠0):nc (nv l)=l:=by
 induction l with
 |nil=>exact L9
 |cons a l ih=>
  rw[JP]at h;simp only[nv];cases l with
  |nil=>
   have:=hl a rfl;rw[eI a _ h.1 (.inl this)];simp only[nv,L9]
  |cons b l=>
   have ih:=ih h.2 (fun x hx=>hl x (by rw[List.getLast?_cons_cons];exact hx));have hn:nv (b::l)≠0:=by
    intro h0;rw[h0,L9]at ih;cases ih
   rw[eI a _ h.1 (.inr hn),ih]
theorem eJ {l:List Int} (h:A7 l) {n:Nat} (hn:n<=l.length) (hz:∀i x,n<=i->l[i]? =some x->x=0) (hl:n=0\/∃x,l[n-1]? =some x/\x≠0):l.take n=nc (nv l):=by
 have e:nv l=nv (l.take n):=by
  conv=>lhs;rw[<-List.take_append_drop n l]
  rw[Lc];have:l.drop n=List.replicate (l.length-n) 0:=by
   apply List.ext_getElem?;intro i;rw[List.getElem?_drop];by_cases hi:n+i<l.length
   . rw[List.getElem?_eq_getElem hi,List.getElem?_replicate,if_pos (by omega)];rw[hz (n+i) l[n+i] (by omega) (List.getElem?_eq_getElem hi)]
   . rw[List.getElem?_eq_none (by omega),List.getElem?_eq_none (by simp;omega)]
  rw[this,Ld];simp
 rw[e]
 symm
 apply A5e
 . intro x hx;exact h x (List.mem_of_mem_take hx)
 . intro x hx;rw[List.getLast?_eq_getElem?,List.length_take,Nat.min_eq_left hn]at hx;rcases hl with h0| ⟨y,hy,hy0⟩
   . subst h0;simp at hx
   . rw[List.getElem?_take_of_lt (by
      rcases Nat.eq_zero_or_pos n with h0|h0
      . subst h0;simp at hx
      . omega),hy]at hx
     cases hx;exact hy0
theorem Ct {n k:Nat} (h:n<4294967296^k):(nc n).length<=k:=by
 induction k generalizing n with
 |zero=>have:n=0:=by simpa using h
        subst this;rw[L9];exact Nat.le_refl _
 |succ k ih=>
  by_cases h0:n=0
  . subst h0;rw[L9];exact Nat.zero_le _
  . rw[DO h0,List.length_cons];have:n/4294967296<4294967296^k:=by
     rw[Nat.div_lt_iff_lt_mul (by decide)];rw[Nat.pow_succ]at h;exact h
    have:=ih this;omega
theorem D3 {l:List Int} (h:A7 l):(nc (nv l)).length<=l.length:=Ct (Cu h)
theorem mI {n k:Nat} (h:k<(nc n).length):4294967296^k<=n:=by
 rcases Nat.lt_or_ge n (4294967296^k)with h1|h1
 . have:=Ct h1;omega
 . exact h1
theorem I2 {m n:Nat} (h:m<=n):(nc m).length<=(nc n).length:=by
 apply Ct;have:=Cu (H9 n);rw[E8]at this;omega
theorem Gt (n:Nat):n<4294967296^(nc n).length:=by
 have:=Cu (H9 n);rwa[E8]at this
theorem Kd (m n:Nat):(nc (m*n)).length<=(nc m).length+(nc n).length:=by
 apply Ct;rw[Nat.pow_add];have h1:=Gt m;have h2:=Gt n;exact Nat.mul_lt_mul'' h1 h2
theorem DN (m n:Nat):(nc (m+n)).length<=max (nc m).length (nc n).length+1:=by
 apply Ct;have h1:=Gt m;have h2:=Gt n;have h3:4294967296^(nc m).length<=4294967296^(max (nc m).length (nc n).length):=Nat.pow_le_pow_right (by decide) (Nat.le_max_left ..);have h4:4294967296^(nc n).length<=4294967296^(max (nc m).length (nc n).length):=Nat.pow_le_pow_right (by decide) (Nat.le_max_right ..);rw[Nat.pow_succ];omega
abbrev Iu:=Bool×List Int
abbrev G3:=Iu×List Int
def Cc (a b:Nat):Int:=if a<b then -1 else if b<a then 1 else 0
def Cb (a b:Int):Int:=if a<b then -1 else if b<a then 1 else 0
def iv (x:Iu):Int:=if x.1=true then -(nv x.2:Int)else(nv x.2:Int)
def ic (v:Int):Iu:=(decide (v<0),nc v.natAbs)
def A3p (x:G3):Int:=if nv x.2=0 then 0 else(iv x.1).sign
def rv (x:G3):Rat:=mkRat (iv x.1) (nv x.2)
def rc (q:Rat):G3:=(ic q.num,nc q.den)
def K2 (x:G3):Prop:=nv x.1.2<2147483648/\nv x.2<2147483648
instance (x:G3):Decidable (K2 x):=by unfold K2;infer_instance
def Pm (x:G3):Int:=if nv x.2=0 then 0 else iv x.1
def Kw (x:G3):Int:=if nv x.2=0 then 1 else(nv x.2:Int)
def zi:Iu:=(false,[])
def zr:G3:=((false,[]),[])
def ri (k:Int):G3:=(ic k,[1])
abbrev Dw (l:List Int):Prop:=l.length<=35184372088832
abbrev E3 (l:List Int):Prop:=l.length<=17592186044416
abbrev S0 (l:List Int):Prop:=l.length<=8796093022208
def I9 (x:G3):Prop:=x.1.2.length<=2199023255552/\x.2.length<=2199023255552
def Cp (a b:Iu):Rat:=Rat.divInt (iv a) (iv b)
def I3 (n:Nat):Nat:=if n=0 then 0 else Nat.log2 n+1
def A2x (A B u0 u1 v0 v1:Int) (ev:Bool):Prop:=v0=0\/∃A' B':Int,A'=(if ev then u0*A-v0*B else v0*B-u0*A)/\B'=(if ev then v1*B-u1*A else u1*A-v1*B)/\0<=B'/\B'<=A'/\A=v1*A'+v0*B'/\B=u1*A'+u0*B'/\1<=v0/\1<=v1/\0<=u0/\0<=u1
def Ig (l:List Int):Prop:=l.getD (l.length-1) 0≠0
end Go.Proofs.YtdlnpbmmdnmkaaaGreat
namespace Go.Proofs.YtdlnpbmmdnmkaaaGreat
open Go.Vc Go.Gw
theorem L3 (a b:Bool):E5 a true b=(a||b):=by cases a<;>rfl
theorem J1 (a b:Bool):E5 a b false=(a&&b):=by cases a<;>rfl
theorem wr {a:Int} (h1: -9223372036854775808<=a) (h2:a<=9223372036854775807):IntKind.i64.wrap a=a:=IntWalk.i64_in _ ⟨h1,h2⟩
theorem L6 {α:Type} {d:α} {l:List α} {i:Int} (h0:0<=i) (h1:i<(l.length:Int)):gx d l i∈l:=List.mem_of_getElem? (H2 h0 h1)
theorem P7 {α:Type} {d:α} {l:List α} {i:Int} (h0:0<=i) (h1:i<(l.length:Int)):gx d l i=l.getD i.toNat d:=by
 have:=H2 (d:=d) h0 h1;rw[List.getD_eq_getElem?_getD,this];rfl
theorem Cf {α:Type} {d:α} {l:List α} {q:α->Prop} {i:Int} (h0:0<=i) (h1:i<(l.length:Int)) (hb:∀x∈l.take i.toNat,q x) (hq:q (gx d l i)):∀x∈l.take (i+1).toNat,q x:=by
 intro x hx;rw[show(i+1).toNat=i.toNat+1 from by omega,List.take_add_one,H2 (d:=d) h0 h1]at hx;simp at hx;rcases hx with hx|rfl
 . exact hb x hx
 . exact hq
theorem F6 {α:Type} {l:List α} {i:Int} (h:(l.length:Int)<=i):l.take i.toNat=l:=List.take_of_length_le (by omega)
theorem HQ:IntKind.u32.max=4294967295:=by decide
theorem HR:IntKind.u32.min=0:=by decide
theorem Ul:IntKind.u64.max=18446744073709551615:=by decide
theorem VA:IntKind.u64.min=0:=by decide
theorem Tv:IntKind.i64.max=9223372036854775807:=by decide
theorem Mx:IntKind.i64.min= -9223372036854775808:=by decide
theorem A4 {l:List Int} (h:∀x∈l,IntKind.u32.min<=x/\x<=IntKind.u32.max):A7 l:=fun x hx=>by
 have:=h x hx;rw[HR,HQ]at this;exact this
theorem R5 {a:Int} (h0:0<=a) (h1:a<=18446744073709551615):IntKind.u64.wrap a=a:=IntWalk.u64_in _ ⟨h0,h1⟩
theorem iS {a:Int} (h0:0<=a) (h1:a<=4294967295):IntKind.u32.wrap a=a:=IntWalk.u32_in _ ⟨h0,h1⟩
theorem Y2 (a:Int):IntKind.u32.wrap a=a%4294967296:=IntKind.wrap_u32 a
theorem Y3 (a:Int):IntKind.u64.wrap a=a%18446744073709551616:=IntKind.wrap_u64 a
theorem Nf {l:List Int} (h:A7 l) {i:Int} (h0:0<=i) (h1:i<(l.length:Int)):0<=gx 0 l i/\gx 0 l i<=4294967295:=h _ (L6 h0 h1)
theorem FD {v:Int} (h0:0<=v) (h1:v<18446744073709551616):(BitVec.ofInt 64 v).toNat=v.toNat:=by
 rw[BitVec.toNat_ofInt];congr 1;omega
theorem KV {v b:Int} {k:Nat} (v0:0<=v) (v1:v<2^k) (b0:0<=b) (hb:b*2^k<18446744073709551616) (hv:v<18446744073709551616):(((BitVec.ofInt 64 v|||BitVec.ofInt 64 (b*2^k)).toNat:Nat):Int)=v+b*2^k:=by
 have hb0:0<=b*2^k:=Int.mul_nonneg b0 (Int.pow_nonneg (by decide));rw[BitVec.toNat_or,FD v0 hv,FD hb0 hb];have e:(b*2^k).toNat=b.toNat<<<k:=by
  rw[Nat.shiftLeft_eq,Int.toNat_mul b0 (Int.pow_nonneg (by decide)),Int.toNat_pow_of_nonneg (by decide)];rfl
 have hv2:v.toNat<2^k:=by
  have:(v.toNat:Int)<((2^k:Nat):Int):=by rw[Int.toNat_of_nonneg v0,Int.natCast_pow];exact v1
  exact Int.ofNat_lt.1 this
 rw[e,Nat.or_comm, <-Nat.shiftLeft_add_eq_or_of_lt hv2, <-e,Int.natCast_add,Int.toNat_of_nonneg v0,Int.toNat_of_nonneg hb0,Int.add_comm]
theorem Zt {l:List Int} {i:Int} (h0:0<=i) (h1:i<(l.length:Int)):nv (l.take (i+1).toNat)=nv (l.take i.toNat)+4294967296^i.toNat*(gx 0 l i).toNat:=by
 rw[show(i+1).toNat=i.toNat+1 from by omega,List.take_add_one,H2 (d:=(0:Int)) h0 h1,Option.toList_some,Lc,List.length_take,Nat.min_eq_left (by omega)];simp[nv]
theorem Q4 {l:List Int} {i:Int} (h0:0<=i) (h1:i<(l.length:Int)):l.drop i.toNat=gx 0 l i::l.drop (i+1).toNat:=by
 have h:=H2 (d:=(0:Int)) h0 h1;have hlt:i.toNat<l.length:=by omega
 rw[List.getElem?_eq_getElem hlt]at h;rw[List.drop_eq_getElem_cons hlt,show(i+1).toNat=i.toNat+1 from by omega];congr 1;exact Option.some.inj h
theorem UH {a b:List Int} (ha:A7 a) (_:A7 b) (hl:a.length=b.length) {i:Int} (h0:0<=i) (h1:i<(a.length:Int)) (he:a.drop (i+1).toNat=b.drop (i+1).toNat) (hlt:gx 0 a i<gx 0 b i):nv a<nv b:=by
 have ea:nv a=nv (a.take i.toNat)+4294967296^i.toNat*nv (a.drop i.toNat):=by
  conv=>lhs;rw[<-List.take_append_drop i.toNat a,Lc,List.length_take,Nat.min_eq_left (by omega)]
 have eb:nv b=nv (b.take i.toNat)+4294967296^i.toNat*nv (b.drop i.toNat):=by
  conv=>lhs;rw[<-List.take_append_drop i.toNat b,Lc,List.length_take,Nat.min_eq_left (by omega)]
 have hlim:=Nf ha h0 h1;have h2:nv (a.drop i.toNat)+1<=nv (b.drop i.toNat):=by
  rw[Q4 h0 h1,Q4 h0 (by omega),he];simp only[nv];omega
 have h3:nv (a.take i.toNat)<4294967296^i.toNat:=by
  have:=Cu (l:=a.take i.toNat) fun x hx=>ha x (List.mem_of_mem_take hx)
  rwa[List.length_take,Nat.min_eq_left (by omega)]at this
 have h4:=Nat.mul_le_mul_left (4294967296^i.toNat) h2;rw[Nat.mul_add,Nat.mul_one]at h4;omega
theorem Ub {m n:Nat} (h:(nc m).length<(nc n).length):m<n:=by
 rcases Nat.lt_or_ge m n with h1|h1
 . exact h1
 . have:=I2 h1;omega
theorem Ra:nc 1= [1]:=by rw[DO (by decide)];simp[L9]
theorem A3d:nv [1]=1:=rfl
theorem UG:nv []=0:=rfl
theorem QP (n:Nat):Cc n n=0:=by simp[Cc]
theorem Jb {m n:Nat} (h:m<n):Cc m n= -1:=by simp[Cc,h]
theorem HL {m n:Nat} (h:n<m):Cc m n=1:=by
 unfold Cc;rw[if_neg (by omega),if_pos h]
theorem KD {m n:Nat} :Cc m n=0↔m=n:=by
 unfold Cc;split
 . omega
 . split<;>omega
theorem U9 (v:Int):iv (ic v)=v:=by
 unfold iv ic;simp only[decide_eq_true_eq,E8];split<;>omega
theorem lD {neg:Bool} {m:Nat} :ic (iv (neg,nc m))=(neg&&decide (m≠0),nc m):=by
 unfold ic iv;simp only[E8];cases neg
 . simp
 . simp only[Bool.true_and,if_true,Prod.mk.injEq,decide_eq_decide];constructor
   . omega
   . congr 1;omega
theorem A4w {x:Iu} :ic (iv x)=(x.1&&decide (nv x.2≠0),nc (nv x.2)):=by
 have:iv x=iv (x.1,nc (nv x.2)):=by unfold iv;simp only[E8]
 rw[this,lD]
theorem cG (k:Int):rc (k:Rat)=ri k:=by
 unfold rc ri;rw[Rat.num_intCast,Rat.den_intCast,Ra]
theorem W5 (q:Rat):rv (rc q)=q:=by
 unfold rv rc;simp only[U9,E8];exact Rat.mkRat_self q
theorem A0g (x:G3):A3p x=(rv x).num.sign:=by
 unfold A3p rv;split
 . rename_i h;rw[h,Rat.mkRat_zero];rfl
 . rename_i h;rw[Rat.num_mkRat,if_neg h];have hg:(0:Int)<(((nv x.2).gcd (iv x.1).natAbs:Nat):Int):=by
    have:=Nat.gcd_pos_of_pos_left (iv x.1).natAbs (Nat.pos_of_ne_zero h);omega
   have hd:(((nv x.2).gcd (iv x.1).natAbs:Nat):Int)∣iv x.1:=Int.ofNat_dvd_left.2 (Nat.gcd_dvd_right ..);obtain⟨c,hc⟩:=hd;generalize (((nv x.2).gcd (iv x.1).natAbs:Nat):Int)=g at hg hc;rw[hc,Int.mul_ediv_cancel_left _ (by omega),Int.sign_mul,Int.sign_eq_one_of_pos hg,Int.one_mul]
theorem Ja {x:Int} {d:Nat} (hd:d≠0):(mkRat x d).num=x/((d.gcd x.natAbs:Nat):Int)/\(mkRat x d).den=d/d.gcd x.natAbs:=by
 rw[Rat.num_mkRat,Rat.den_mkRat,if_neg hd,if_neg hd];exact⟨rfl,rfl⟩
def dg (l:List Int) (i:Nat):Nat:=(l.getD i 0).toNat
theorem H3 (l:List Int) (i:Nat):nv (l.take (i+1))=nv (l.take i)+4294967296^i*dg l i:=by
 unfold dg;by_cases h:i<l.length
 . have:=Zt (l:=l) (i:=(i:Int)) (by omega) (by omega);rw[show((i:Int)+1).toNat=i+1 from by omega,Int.toNat_natCast]at this;rw[this,P7 (by omega) (by omega),Int.toNat_natCast]
 . rw[List.take_of_length_le (by omega),List.take_of_length_le (by omega),List.getD_eq_getElem?_getD,List.getElem?_eq_none (by omega)];simp
theorem K3 {l:List Int} (h:A7 l) (i:Nat):dg l i<=4294967295:=by
 unfold dg;by_cases hi:i<l.length
 . rw[List.getD_eq_getElem?_getD,List.getElem?_eq_getElem hi];have:=h l[i] (List.getElem_mem hi);unfold TY at this;simp only[Option.getD_some];omega
 . rw[List.getD_eq_getElem?_getD,List.getElem?_eq_none (by omega)];simp
theorem Ch {l:List Int} (h:A7 l) {i:Int} (h0:0<=i) (h1:i<(l.length:Int)):gx 0 l i=(dg l i.toNat:Int):=by
 have:=Nf h h0 h1;unfold dg;rw[<-P7 (d:=(0:Int)) h0 h1];omega
theorem S7 {l:List Int} (h:A7 l) {i:Nat} :l.getD i 0=(dg l i:Int):=by
 unfold dg;by_cases hi:i<l.length
 . have:=h l[i] (List.getElem_mem hi);unfold TY at this;rw[List.getD_eq_getElem?_getD,List.getElem?_eq_getElem hi];simp only[Option.getD_some];omega
 . rw[List.getD_eq_getElem?_getD,List.getElem?_eq_none (by omega)];rfl
theorem Jz {l:List Int} {i:Nat} (h:l.length<=i):dg l i=0:=by
 unfold dg;rw[List.getD_eq_getElem?_getD,List.getElem?_eq_none h];rfl
theorem O1 {l:List Int} {i:Nat} {v:Int} (h:i<l.length):nv ((l.set i v).take (i+1))=nv (l.take i)+4294967296^i*v.toNat:=by
 rw[H3,List.take_set_of_le (Nat.le_refl _)];unfold dg;rw[List.getD_eq_getElem?_getD,List.getElem?_set_self h];rfl
theorem Fv:∀ {l:List Int} {k:Nat} {v:Int},k<l.length->nv (l.set k v)+4294967296^k*dg l k=nv l+4294967296^k*v.toNat
 | [],_,_,h=>by simp at h
 |a::l,0,v,_=>by simp[nv,dg];omega
 |a::l,k+1,v,h=>by
  have ih:=Fv (l:=l) (k:=k) (v:=v) (by simpa using h);have e:dg (a::l) (k+1)=dg l k:=by simp[dg]
  rw[e];simp only[List.set_cons_succ,nv,Nat.pow_succ];generalize nv (l.set k v)=A at*;have e1:4294967296^k*4294967296*dg l k=4294967296*(4294967296^k*dg l k):=by rw[Nat.mul_comm (4294967296^k) 4294967296,Nat.mul_assoc]
  have e2:4294967296^k*4294967296*v.toNat=4294967296*(4294967296^k*v.toNat):=by rw[Nat.mul_comm (4294967296^k) 4294967296,Nat.mul_assoc]
  rw[e1,e2,Nat.add_assoc,Nat.add_assoc, <-Nat.mul_add, <-Nat.mul_add,ih]
theorem QF {l:List Int} {k:Nat} {v:Int} (h:A7 l) (hv:TY v):A7 (l.set k v):=fun x hx=>by
 rcases List.mem_or_eq_of_mem_set hx with hx|hx
 . exact h x hx
 . rw[hx];exact hv
theorem Qo {l:List Int} {k i:Nat} {v:Int} (hk:k<l.length):dg (l.set k v) i=if i=k then v.toNat else dg l i:=by
 unfold dg;rw[List.getD_eq_getElem?_getD,List.getElem?_set];by_cases h:k=i
 . subst h;rw[if_pos rfl,if_pos hk,if_pos rfl];rfl
 . rw[if_neg h,if_neg (fun e=>h e.symm),List.getD_eq_getElem?_getD]
theorem Zg (n i:Nat):dg (List.replicate n 0) i=0:=by
 unfold dg;rw[List.getD_eq_getElem?_getD,List.getElem?_replicate];split<;>rfl
theorem FC {l:List Int} {i:Nat} (h:∀j,i<=j->dg l j=0):nv (l.take i)=nv l:=by
 have key:∀k,nv (l.take (i+k))=nv (l.take i):=by
  intro k
  induction k with
  |zero=>rfl
  |succ k ih=>rw[<-Nat.add_assoc,H3,ih,h (i+k) (by omega),Nat.mul_zero,Nat.add_zero]
 rw[<-key l.length,List.take_of_length_le (by omega)]
theorem QV {P A B o c a b s c':Nat} (h:o+P*c=A+B) (hs:s+4294967296*c'=c+a+b):(o+P*s)+(P*4294967296)*c'=(A+P*a)+(B+P*b):=by
 have:=congrArg (P* ·) hs;simp only[Nat.mul_add, <-Nat.mul_assoc]at this;omega
theorem KE {P A B o c a b s c':Nat} (h:A+P*c=o+B) (hs:a+4294967296*c'=s+b+c):(A+P*a)+(P*4294967296)*c'=(o+P*s)+(B+P*b):=by
 have:=congrArg (P* ·) hs;simp only[Nat.mul_add, <-Nat.mul_assoc]at this;omega
theorem gV {a b:List Int} (ha:A7 a) (hb:A7 b):nv a+nv b<4294967296^(max a.length b.length+1):=by
 have hA:=Cu ha;have hB:=Cu hb;have hA':4294967296^a.length<=4294967296^(max a.length b.length):=Nat.pow_le_pow_right (by decide) (Nat.le_max_left ..);have hB':4294967296^b.length<=4294967296^(max a.length b.length):=Nat.pow_le_pow_right (by decide) (Nat.le_max_right ..);rw[Nat.pow_succ];generalize 4294967296^(max a.length b.length)=P at*;omega
theorem Xa {P c x:Nat} (h:P*c<=x) (hx:x<P):c=0:=by
 rcases Nat.eq_zero_or_pos c with h1|h1
 . exact h1
 . have:=Nat.mul_le_mul_left P h1;omega
theorem Kc (l:List Int):iv (false,l)=(nv l:Int):=rfl
theorem JO (l:List Int):iv (true,l)= -(nv l:Int):=rfl
theorem lR (b:Bool) (l:List Int):iv (!b,l)= -iv (b,l):=by
 cases b
 . rfl
 . show(nv l:Int)= - -(nv l:Int);omega
theorem Cr (v:Int):(ic v).2.length=(nc v.natAbs).length:=rfl
theorem bB:ic 1=(false,[1]):=by unfold ic;rw[show(1:Int).natAbs=1 from rfl,Ra];rfl
theorem TL:ic 0=(false,[]):=by unfold ic;rw[show(0:Int).natAbs=0 from rfl,L9];rfl
theorem eT:rc 0=((false,[]),[1]):=by
 unfold rc;rw[Rat.zero_num,Rat.zero_den,TL,Ra]
theorem WI {a:Iu} {b:Iu} (h:iv b=1):Cp a b=((iv a:Int):Rat):=by
 unfold Cp;rw[h];have:=Rat.divInt_ofNat (iv a) 1;rw[show((1:Nat):Int)=1 from rfl]at this;rw[this];exact Rat.mkRat_one _
theorem fW {a:Iu} {b:Iu} (h:iv b=0):Cp a b=0:=by
 unfold Cp;rw[h,Rat.divInt_zero]
theorem A0h (x:G3):Cp x.1 (false,x.2)=rv x:=by
 unfold Cp rv;rw[Kc,Rat.divInt_ofNat]
end Go.Proofs.YtdlnpbmmdnmkaaaGreat
namespace Go.Proofs.YtdlnpbmmdnmkaaaGreat
structure NC (U V v1 v2 t u2 P:Nat):Prop where
 pos:0<P
 v1p:0<v1
 v1b:v1<4294967296
 v2b:v2<4294967296
 u2b:u2<4294967296
 vlo:(v1*4294967296+v2)*P<=V
 vhi:V<(v1*4294967296+v2+1)*P
 ulo:(t*4294967296+u2)*P<=U
 uhi:U<(t*4294967296+u2+1)*P
 lt:U<V*4294967296
variable {U V v1 v2 t u2 P:Nat}
theorem NC.vpos (h:NC U V v1 v2 t u2 P):0<V:=by
 have h1:=h.vlo;have h2:0<(v1*4294967296+v2)*P:=Nat.mul_pos (by have:=h.v1p;omega) h.pos;omega
theorem NC.quo (h:NC U V v1 v2 t u2 P):U/V<4294967296:=by
 rw[Nat.div_lt_iff_lt_mul h.vpos,Nat.mul_comm];exact h.lt
theorem eC {a b c P Q:Nat} (hP:0<P) (h:a*P<=Q) (hq:Q<(b+1)*P) (hc:c<=a):c<=b:=by
 have h1:c*P<=a*P:=Nat.mul_le_mul_right _ hc;have h2:c*P<(b+1)*P:=by omega
 have:=Nat.lt_of_mul_lt_mul_right h2;omega
theorem NC.top (h:NC U V v1 v2 t u2 P):t*4294967296+u2<(v1*4294967296+v2+1)*4294967296:=by
 have h1:=h.ulo;have h2:=h.lt;have h3:=Nat.mul_le_mul_right 4294967296 (Nat.le_of_lt h.vhi);have h4:(t*4294967296+u2)*P<((v1*4294967296+v2+1)*4294967296)*P:=by
  have h5:V*4294967296<(v1*4294967296+v2+1)*P*4294967296:=Nat.mul_lt_mul_of_pos_right h.vhi (by decide);rw[Nat.mul_right_comm];omega
 exact Nat.lt_of_mul_lt_mul_right h4
theorem NC.t_le (h:NC U V v1 v2 t u2 P):t<=v1*4294967296+v2:=by
 have:=h.top;omega
theorem NC.est (h:NC U V v1 v2 t u2 P):U/V*v1<=t:=by
 have h1:U/V*V<=U:=Nat.div_mul_le_self U V;have h2:U/V*(v1*4294967296+v2)*P<=U:=by
  rw[Nat.mul_assoc];exact Nat.le_trans (Nat.mul_le_mul_left _ h.vlo) h1
 have h3:U/V*(v1*4294967296+v2)<=t*4294967296+u2:=eC h.pos h2 h.uhi (Nat.le_refl _);rw[Nat.mul_add, <-Nat.mul_assoc]at h3;have:=h.u2b;omega
theorem NC.dec (h:NC U V v1 v2 t u2 P) {d r:Nat} (ht:t=d*v1+r) (hq:U/V<=d) (hb:4294967296<=d\/r*4294967296+u2<d*v2):U/V+1<=d:=by
 rcases Nat.lt_or_ge (U/V) d with h1|h1
 . omega
 . exfalso;have he:U/V=d:=by omega
   rcases hb with hb|hb
   . have:=h.quo;omega
   . have h1:d*V<=U:=by rw[<-he];exact Nat.div_mul_le_self U V
     have h2:d*(v1*4294967296+v2)*P<=U:=by
      rw[Nat.mul_assoc];exact Nat.le_trans (Nat.mul_le_mul_left _ h.vlo) h1
     have h3:d*(v1*4294967296+v2)<=t*4294967296+u2:=eC h.pos h2 h.uhi (Nat.le_refl _);rw[Nat.mul_add, <-Nat.mul_assoc,ht,Nat.add_mul]at h3;omega
theorem NC.near (h:NC U V v1 v2 t u2 P) {d r:Nat} (ht:t=d*v1+r) (hd:d<4294967296) (hok:d*v2<=r*4294967296+u2):d<=U/V+1:=by
 have h1:=h.ulo;have h2:d*(v1*4294967296+v2)<=t*4294967296+u2:=by
  rw[ht,Nat.add_mul,Nat.mul_add, <-Nat.mul_assoc];omega
 have h3:d*(v1*4294967296+v2)*P<=U:=Nat.le_trans (Nat.mul_le_mul_right _ h2) h1;have h4:d*V<=d*((v1*4294967296+v2+1)*P):=Nat.mul_le_mul_left _ (Nat.le_of_lt h.vhi);have h5:d*((v1*4294967296+v2+1)*P)=d*(v1*4294967296+v2)*P+d*P:=by
  rw[<-Nat.mul_assoc,Nat.mul_add d,Nat.mul_one,Nat.add_mul]
 have h6:d*P<V:=by
  have h7:d*P<4294967296*P:=Nat.mul_lt_mul_of_pos_right hd h.pos;have h8:4294967296*P<=(v1*4294967296+v2)*P:=Nat.mul_le_mul_right _ (by have:=h.v1p;omega);have:=h.vlo;omega
 have h9:d*V<U+V:=Nat.lt_of_le_of_lt (Nat.le_trans h4 (Nat.le_of_eq h5)) (Nat.add_lt_add_of_le_of_lt h3 h6);rcases Nat.eq_zero_or_pos d with h0|h0
 . rw[h0];exact Nat.zero_le _
 . have h10:(d-1)*V<U:=by
    have:d*V=(d-1)*V+V:=by
     conv=>lhs;rw[show d=d-1+1 from by omega,Nat.add_mul,Nat.one_mul]
    omega
   have:=(Nat.le_div_iff_mul_le h.vpos).2 (Nat.le_of_lt h10);omega
theorem NC.out (h:NC U V v1 v2 t u2 P) {d r:Nat} (ht:t=d*v1+r) (hr:4294967296<=r) (hd:U/V<=d):d<4294967296/\d*v2<=r*4294967296+u2:=by
 have h1:=h.t_le;have h2:=h.v2b;have hlt:d<4294967296:=by
  rcases Nat.lt_or_ge d 4294967296 with h3|h3
  . exact h3
  . have:=Nat.mul_le_mul_right v1 h3;rw[Nat.mul_comm 4294967296]at this;omega
 refine⟨hlt, ?_⟩;have h3:d*v2<=4294967295*4294967295:=Nat.mul_le_mul (by omega) (by omega);omega
end Go.Proofs.YtdlnpbmmdnmkaaaGreat
namespace Go.Proofs.YtdlnpbmmdnmkaaaGreat
open Go.Vc Go.Gw
theorem Tk:I3 0=0:=rfl
theorem SP (n:Nat):n<2^I3 n:=by
 unfold I3;split
 . rename_i h;subst h;decide
 . exact Nat.lt_log2_self
theorem Tj {n:Nat} (h:n≠0):2^(I3 n-1)<=n/\1<=I3 n:=by
 unfold I3;rw[if_neg h,Nat.add_sub_cancel];exact⟨Nat.log2_self_le h,by omega⟩
theorem oL {n k:Nat} (h0:2^k<=n) (h1:n<2^(k+1)):I3 n=k+1:=by
 have hp:0<2^k:=Nat.pow_pos (by decide);unfold I3;rw[if_neg (by omega)];congr 1;exact(Nat.log2_eq_iff (by omega)).2 ⟨h0,h1⟩
theorem Zf {n k:Nat} (h:2^k<=n):I3 n=I3 (n/2^k)+k:=by
 have hp:0<2^k:=Nat.pow_pos (by decide);have hm:n/2^k≠0:=by
  have:1<=n/2^k:=(Nat.le_div_iff_mul_le hp).2 (by omega);omega
 obtain⟨h1,h2⟩:=Tj hm;have h3:=SP (n/2^k);have e:I3 (n/2^k)+k=(I3 (n/2^k)-1+k)+1:=by omega
 rw[e];apply oL
 . rw[Nat.pow_add];have:=(Nat.le_div_iff_mul_le hp).1 h1;exact this
 . rw[show I3 (n/2^k)-1+k+1=I3 (n/2^k)+k from by omega,Nat.pow_add];exact(Nat.div_lt_iff_lt_mul hp).1 h3
theorem J4 (x:Iu):(iv x).natAbs=nv x.2:=by
 unfold iv;split<;>omega
theorem Xj {a b:List Int} (ha:A7 a) (hb:A7 b):(nc (nv a*nv b)).length<=a.length+b.length:=by
 have h1:=Kd (nv a) (nv b);have h2:=D3 ha;have h3:=D3 hb;omega
theorem Xc {x y:Iu} (hx:A7 x.2) (hy:A7 y.2):(ic (iv x*iv y)).2.length<=x.2.length+y.2.length:=by
 rw[Cr,Int.natAbs_mul,J4,J4];exact Xj hx hy
theorem JI {x y:Iu} {k:Nat} (hx:A7 x.2) (hy:A7 y.2) (h1:x.2.length<=k) (h2:y.2.length<=k):(ic (iv x+iv y)).2.length<=k+1:=by
 rw[Cr];have e:(iv x+iv y).natAbs<=nv x.2+nv y.2:=by
  have:=Int.natAbs_add_le (iv x) (iv y);rwa[J4,J4]at this
 have h:=DN (nv x.2) (nv y.2);have a:=D3 hx;have b:=D3 hy;have c:=I2 e;omega
theorem XJ (v:Int):A7 (ic v).2:=H9 _
theorem UT {V:Int} {D:Nat} (hD:D≠0):rc (mkRat V D)=((decide (V<0),nc (V.natAbs/Nat.gcd V.natAbs D)),nc (D/Nat.gcd V.natAbs D)):=by
 obtain⟨hn,hdn⟩:=Ja (x:=V) (d:=D) hD;unfold rc;rw[hn,hdn,Nat.gcd_comm V.natAbs D];unfold ic;have hdvd:((D.gcd V.natAbs:Nat):Int)∣V:=Int.ofNat_dvd_left.2 (Nat.gcd_dvd_right ..);have hgN:0<D.gcd V.natAbs:=Nat.gcd_pos_of_pos_left _ (Nat.pos_of_ne_zero hD);generalize D.gcd V.natAbs=G at hdvd hgN;obtain⟨c,rfl⟩:=hdvd;rw[Int.mul_ediv_cancel_left _ (by omega)];have hsgn:(G:Int)*c<0↔c<0:=by
  constructor
  . intro h;rcases Int.lt_or_le c 0 with h1|h1
    . exact h1
    . have:=Int.mul_nonneg (Int.le_of_lt (Int.ofNat_lt.2 hgN)) h1;omega
  . intro h;exact Int.mul_neg_of_pos_of_neg (by omega) h
 rw[Int.natAbs_mul,Int.natAbs_natCast,Nat.mul_div_cancel_left _ hgN];simp only[hsgn]
theorem A0d {V:Int} {D:Nat} (hD:D≠0) (h:Nat.gcd V.natAbs D=1):rc (mkRat V D)=(ic V,nc D):=by
 rw[UT hD,h,Nat.div_one,Nat.div_one];rfl
theorem DJ {a b:Int} {c d:Nat} (hc:c≠0) (hd:d≠0):mkRat a c+mkRat b d=mkRat (a*d+b*c) (c*d):=Rat.mkRat_add_mkRat a b hc hd
theorem bO {a b:Int} {c:Nat} (hc:c≠0):mkRat a c+mkRat b c=mkRat (a+b) c:=by
 rw[DJ hc hc, <-Int.add_mul,Rat.mkRat_mul_right hc]
theorem Rn {x:G3} {n:Iu} {d:List Int} (h:(nv x.2=0->n=zi/\d= [1])/\(nv x.2≠0->n=x.1/\d=x.2)):nv d≠0/\rv x=mkRat (iv n) (nv d):=by
 rcases Decidable.em (nv x.2=0)with h0|h0
 . obtain⟨rfl,rfl⟩:=h.1 h0;refine⟨by decide, ?_⟩;unfold rv;rw[h0,Rat.mkRat_zero];exact(Rat.zero_mkRat _).symm
 . obtain⟨rfl,rfl⟩:=h.2 h0;exact⟨h0,rfl⟩
theorem Lj {x:G3} {n:Iu} {d:List Int} {k:Nat} (h:(nv x.2=0->n=zi/\d= [1])/\(nv x.2≠0->n=x.1/\d=x.2)) (h1:x.1.2.length<=k) (h2:x.2.length<=k) (hk:1<=k):n.2.length<=k/\d.length<=k:=by
 rcases Decidable.em (nv x.2=0)with h0|h0
 . obtain⟨rfl,rfl⟩:=h.1 h0;exact⟨by simp[zi],by simpa using hk⟩
 . obtain⟨rfl,rfl⟩:=h.2 h0;exact⟨h1,h2⟩
theorem A2j (A B:Nat):(A:Int)/(B:Int)=((A/B:Nat):Int)/\(A:Int)%(B:Int)=((A%B:Nat):Int):=⟨rfl,rfl⟩
theorem A2i {A B:Nat} (hB:B≠0):(A%B=0-> -(A:Int)/(B:Int)= -((A/B:Nat):Int)/\ -(A:Int)%(B:Int)=0)/\(A%B≠0-> -(A:Int)/(B:Int)= -((A/B:Nat):Int)-1/\ -(A:Int)%(B:Int)=(B:Int)-((A%B:Nat):Int)):=by
 have h1:=Nat.div_add_mod A B;have h2:=Nat.mod_lt A (Nat.pos_of_ne_zero hB);have h3:(A:Int)=(B:Int)*((A/B:Nat):Int)+((A%B:Nat):Int):=by
  rw[<-Int.natCast_mul, <-Int.natCast_add,h1]
 generalize A/B=Q at*;generalize A%B=M at*;refine⟨fun h=> ?_,fun h=> ?_⟩
 . subst h;refine(Int.ediv_emod_unique (by omega)).2 ⟨?_,by omega,by omega⟩;rw[h3];grind
 . refine(Int.ediv_emod_unique (by omega)).2 ⟨?_,by omega,by omega⟩;rw[h3];grind
theorem A2h {sa sb:Bool} {A B:Nat} (hB:B≠0) {a b q m:Int} (ha:a=if sa=true then -(A:Int)else A) (hb:b=if sb=true then -(B:Int)else B) (hq:q=if(sa !=sb)=true then -((A/B:Nat):Int)else((A/B:Nat):Int)) (hm:m=if sa=true then -((A%B:Nat):Int)else((A%B:Nat):Int)):
 (m<0->a%b=m+B/\(sb=true->a/b=q+1)/\(sb=false->a/b=q-1))/\(¬m<0->a%b=m/\a/b=q):=by
 obtain⟨n1,n2⟩:=A2i (A:=A) hB;obtain⟨p1,p2⟩:=A2j A B;generalize hQ:A/B=Q at*;generalize hM:A%B=M at*;cases sa<;>cases sb<;>simp at ha hb hq hm<;>subst ha hb hq hm<;>simp only[Int.ediv_neg,Int.emod_neg]
 . exact⟨fun h=>by omega,fun h=>⟨p2,p1⟩⟩
 . exact⟨fun h=>by omega,fun h=>⟨p2,by rw[p1]⟩⟩
 . refine⟨fun h=> ?_,fun h=> ?_⟩
   . obtain⟨e1,e2⟩:=n2 (by omega);exact⟨by rw[e2];omega,⟨fun h=>absurd h (by decide),fun _=>e1⟩⟩
   . obtain⟨e1,e2⟩:=n1 (by omega);exact⟨by rw[e2];omega,e1⟩
 . refine⟨fun h=> ?_,fun h=> ?_⟩
   . obtain⟨e1,e2⟩:=n2 (by omega);exact⟨by rw[e2];omega,⟨fun _=>by rw[e1];omega,fun h=>by cases h⟩⟩
   . obtain⟨e1,e2⟩:=n1 (by omega);exact⟨by rw[e2];omega,by rw[e1];omega⟩
theorem Nq {q:G3} {k:Nat} (h1:A7 q.1.2) (h2:A7 q.2) (l1:q.1.2.length<=k) (l2:q.2.length<=k) (hk:1<=k):(ic (rv q).num).2.length<=k/\(nc (rv q).den).length<=k:=by
 unfold rv;rcases Decidable.em (nv q.2=0)with h0|h0
 . rw[h0,Rat.mkRat_zero];have a1:(0:Rat).num=0:=rfl;have a2:(0:Rat).den=1:=rfl;rw[a1,a2,TL,Ra];exact⟨Nat.zero_le _,hk⟩
 . obtain⟨e1,e2⟩:=Ja (x:=iv q.1) (d:=nv q.2) h0;have b1:=D3 h1;have b2:=D3 h2;rw[e1,e2,Cr];refine⟨?_,Nat.le_trans (I2 (Nat.div_le_self _ _)) (by omega)⟩;refine Nat.le_trans (I2 ?_) (Nat.le_trans b1 l1);rw[<-J4];exact Int.natAbs_ediv_le_natAbs _ _
theorem JH {A:Int} {G:Nat} (hG:0<G) (hd:(G:Int)∣A):ic (A/(G:Int))=(decide (A<0),nc (A.natAbs/G)):=by
 obtain⟨c,rfl⟩:=hd;rw[Int.mul_ediv_cancel_left _ (by omega)];have hsgn:(G:Int)*c<0↔c<0:=by
  constructor
  . intro h;rcases Int.lt_or_le c 0 with h1|h1
    . exact h1
    . have:=Int.mul_nonneg (Int.le_of_lt (Int.ofNat_lt.2 hG)) h1;omega
  . intro h;exact Int.mul_neg_of_pos_of_neg (by omega) h
 unfold ic;rw[Int.natAbs_mul,Int.natAbs_natCast,Nat.mul_div_cancel_left _ hG];simp only[hsgn]
theorem IS {A B:Int} (hB:0<B):Rat.divInt A B=mkRat A B.natAbs:=by
 rw[<-Rat.divInt_ofNat,show((B.natAbs:Nat):Int)=B from by omega]
theorem WJ {A B:Int} (hB:B<0):Rat.divInt A B=mkRat (-A) B.natAbs:=by
 rw[<-Rat.divInt_ofNat,show((B.natAbs:Nat):Int)= -B from by omega,Rat.neg_divInt_neg]
theorem lZ {A B:Int} (hB:B≠0) {G:Nat} (hG:G=Nat.gcd A.natAbs B.natAbs):0<G/\(B/(G:Int)<0↔B<0)/\(B<0->(ic (-(A/(G:Int))),(ic (-(B/(G:Int)))).2)=rc (Rat.divInt A B))/\(¬B<0->(ic (A/(G:Int)),(ic (B/(G:Int))).2)=rc (Rat.divInt A B)):=by
 have hBn:B.natAbs≠0:=by omega
 have hGp:0<G:=by rw[hG];exact Nat.gcd_pos_of_pos_right _ (by omega)
 have hdA:(G:Int)∣A:=by rw[hG];exact Int.ofNat_dvd_left.2 (Nat.gcd_dvd_left ..)
 have hdB:(G:Int)∣B:=by rw[hG];exact Int.ofNat_dvd_left.2 (Nat.gcd_dvd_right ..)
 refine⟨hGp, ?_,fun h=> ?_,fun h=> ?_⟩
 . have:=congrArg (·.1) (JH hGp hdB);exact decide_eq_decide.1 this
 . rw[<-Int.neg_ediv_of_dvd hdA, <-Int.neg_ediv_of_dvd hdB,JH hGp (Int.dvd_neg.2 hdA),JH hGp (Int.dvd_neg.2 hdB),WJ h,UT hBn,Int.natAbs_neg,Int.natAbs_neg,hG]
 . rw[JH hGp hdA,JH hGp hdB,IS (by omega),UT hBn,hG]
theorem aU (p q:Rat):Rat.divInt (p.num*q.den+q.num*p.den) (p.den*q.den)=p+q:=by
 have h1:=Rat.den_pos p;have h2:=Rat.den_pos q;rw[<-Rat.divInt_add_divInt _ _ (by omega) (by omega),Rat.num_divInt_den,Rat.num_divInt_den]
end Go.Proofs.YtdlnpbmmdnmkaaaGreat
