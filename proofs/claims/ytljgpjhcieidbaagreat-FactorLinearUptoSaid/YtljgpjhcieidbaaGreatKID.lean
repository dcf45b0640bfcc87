/- Part. -/
import Derived.Test.YtljgpjhcieidbaaGreatKIC
set_option linter.all false
namespace Go.Vc
open Go Go.RowKit Go.Gw
open Go.IntKind (i64 u64 u32)
def C3.trans {a b c:St} (h:C3 a b) (k:C3 b c):C3 a c:=by
 refine⟨qV h.ct k.ct,fun s d g=> ?_,fun q d g=> ?_, ?_⟩
 . have e:=k.s s d (qV g h.ct);rw[e]at d g⊢;exact h.s s d g
 . have e:=k.l q d (qV g h.ct);rw[e]at d g⊢;exact h.l q d g
 . exact h.f.trans h.ct k.f
def C3.setS (b:St) (d:Nat) (x:DV):C3 b (b.setS d x):=by
 refine⟨uS _,fun s c a=> ?_,fun _ _ _=>rfl,X9.refl _ _⟩;rw[St.eS_setS]at c a⊢;split at a
 . simp only at a;omega
 . rename_i g;rw[qH g];cases f:BH d (b.S s)with
   |true=>simp only[f,qT]at a;omega
   |false=>rfl
def C3.setL (b:St) (k:Nat) (x:LC):C3 b (b.setL k x):=by
 refine⟨uS _,fun _ _ _=>rfl,fun q c a=> ?_,X9.refl _ _⟩;rw[St.eL_setL]at c a⊢;split at a
 . simp only at a;omega
 . rename_i d;rw[qH d]
def C3.newL (b:St) (x:LC):C3 b (b.newL x):=by
 refine⟨uS _,fun _ _ _=>rfl,fun q c a=> ?_,X9.refl _ _⟩;rw[St.eL_newL]at c a⊢;split at a
 . simp only at a;omega
 . rename_i d;rw[qH d]
def N4.mapV (n:Nat) (p:DV->Bool) (f:DV->DV):∀l,N4 n l (Vc.mapV p f (n+1) l)
 | []=>trivial
 | (s,x)::l=>by
  refine⟨rfl,fun h=> ?_,N4.mapV n p f l⟩;cases a:p x.2 with
  |true=>simp only[a,qT]at h;omega
  |false=>rfl
def X9.mapV (n:Nat) (p:DV->Bool) (f:DV->DV):∀l,X9 n l (l.map (Vc.mapV p f (n+1)))
 | []=>trivial
 |x::l=>⟨N4.mapV n p f x,X9.mapV n p f l⟩
def C3.freeze (b:St) (k:Nat) (c:C):C3 b (b.freeze k c):=by
 refine⟨uS _,fun s f a=> ?_,fun q f a=> ?_,X9.mapV _ _ _ _⟩
 . rw[St.eS_freeze]at f a⊢;cases d:Vu k (b.S s)with
   |true=>simp only[d,qT]at a;omega
   |false=>rfl
 . rw[St.eL_freeze]at f a⊢;cases d:YB k (if q=k then(b.ct+1,LC.none)else b.eL q).2 with
   |true=>simp only[d,qT]at a;omega
   |false=>
    simp only[d,rD]at a⊢;split at a
    . simp only at a;omega
    . rename_i g;rw[qH g]
def C3.settle (a:St) (cs:List C):C3 a (settle a cs):=by
 induction cs generalizing a with
 |nil=>exact C3.refl _
 |cons c cs b=>
  cases c with
  |row k=>
   simp only[Vc.settle];cases g:a.L k with
   |row t e l=>
    cases Nat.ble a.nm k with
    |true=>exact(C3.freeze a k _).trans (b _)
    |false=>exact b a
   |rows t e f h al d=>
    cases d with
    |some _=>exact b a
    |none=>
     cases Nat.ble a.nm k with
     |true=>exact(C3.freeze a k _).trans (b _)
     |false=>exact b a
   | _=>exact b a
  |win k _ _ _=>
   simp only[Vc.settle];cases d:a.L k with
   |row t e l=>
    cases Nat.ble a.nm k with
    |true=>exact(C3.freeze a k _).trans (b _)
    |false=>exact b a
   | _=>exact b a
  |mp k=>
   simp only[Vc.settle];cases d:a.L k with
   |map _ _ _ _ _=>
    cases Nat.ble a.nm k with
    |true=>exact(C3.freeze a k _).trans (b _)
    |false=>exact b a
   | _=>exact b a
  | _=>exact b a
def C3.settleO (a:St) (x:Operand):C3 a (settleO a x):=by
 unfold Vc.settleO;split
 . exact C3.settle _ _
 . exact C3.refl _
def C3.settleP (a:St) (b:List (Nat×Operand)):C3 a (settleP a b):=by
 induction b generalizing a with
 |nil=>exact C3.refl _
 |cons x b c=>exact(C3.settleO a x.2).trans (c _)
def C3.thawS (a:St) (s:SV):C3 a (thawS a s):=by
 unfold Vc.thawS;split
 . unfold thaw;split
   . cases Nat.ble a.nm _ with
     |true=>exact(C3.setL a _ _).trans (C3.setL _ _ _)
     |false=>exact C3.refl a
   . exact C3.refl a
 . exact C3.refl a
def C3.stillB (cx:Cx) (a:St) (k:Nat):C3 a (stillB cx a k):=by
 unfold Vc.stillB;split
 . rename_i T b _;cases Nat.ble a.nm k with
   |false=>exact C3.refl _
   |true=>
    simp only[qT];split
    . split
      . split
        . exact((C3.settle a b).trans (C3.setL _ _ _)).trans (C3.setL _ _ _)
        . exact C3.refl _
      . exact C3.refl _
    . exact C3.refl _
 . exact C3.refl _
def C3.stillL (cx:Cx):∀(b:List Nat) (a:St),C3 a (b.foldl (Vc.stillB cx) a)
 | [],a=>C3.refl a
 |k::b,a=>(C3.stillB cx a k).trans (C3.stillL cx b _)
def C3.stillF (cx:Cx):∀(a:St) (as:List AM) (ss:List SV),C3 a (stillF cx a as ss)
 |a,[],_=>C3.refl a
 |a,_:: _,[]=>C3.refl a
 |a,b::as,s::ss=>by
  simp only[Vc.stillF];split
  . exact(C3.stillL cx _ a).trans (C3.stillF cx _ as ss)
  . exact C3.stillF cx a as ss
def C3.settleA:∀(as:List AM) (ss:List SV) (a:St),C3 a (settleA a as ss)
 | [],_,a=>C3.refl a
 | .val _ _::as,s::ss,a=>(C3.settle a s.cs).trans (C3.settleA as ss _)
 | .row _ _::as,s::ss,a=>(C3.thawS a s).trans (C3.settleA as ss _)
 | .rows _ _ _::as,_::ss,a=>C3.settleA as ss a
 | .rows _ _ _:: _,[],a=>C3.refl a
 | .box _ _::as,_::ss,a=>C3.settleA as ss a
 | .fn _ _ _::as,_::ss,a=>C3.settleA as ss a
 | .val _ _:: _,[],a=>C3.refl a
 | .row _ _:: _,[],a=>C3.refl a
 | .box _ _:: _,[],a=>C3.refl a
 | .fn _ _ _:: _,[],a=>C3.refl a
def C3.dropM:∀(b:List Nat) (a:St),C3 a (dropM a b)
 | [],a=>C3.refl a
 |k::b,a=>(C3.setL a k _).trans (C3.dropM b _)
def C3.addM:∀(as:List AM) (o:La as) (b:List Nat) (a:St),C3 a (addM as o b a)
 | [],_,b,a=>by cases b<;>exact C3.refl a
 | .row t e::as,o,[],a=>C3.refl a
 | .box t e::as,o,[],a=>C3.refl a
 | .row t e::as,o,k::b,a=>(C3.setL a k _).trans (C3.addM as o.2 b _)
 | .box t e::as,o,k::b,a=>(C3.setL a k _).trans (C3.addM as o.2 b _)
 | .val _ _::as,o,b,a=>C3.addM as o b a
 | .fn _ _ _::as,o,b,a=>C3.addM as o b a
 | .rows _ _ _::as,o,[],a=>C3.refl a
 | .rows _ _ _::as,o,k::b,a=>(C3.setL a k _).trans (C3.addM as o.2 b _)
def C3.place:∀(rs:List RT) (r:Aa rs) (a:St),C3 a (F5 rs r a).2
 | [],_,a=>C3.refl a
 | .val _ _::rs,r,a=>C3.place rs r.2 a
 | .own t e::rs,r,a=>(C3.newL a (.row t e r.1)).trans (C3.place rs r.2 _)
 | .obox T t::rs,r,a=>(C3.newL a (.box T (explode t r.1))).trans (C3.place rs r.2 _)
 | .rows t e b::rs,r,a=>(C3.newL a (.rows t e b r.1 [] none)).trans (C3.place rs r.2 _)
def C3.boxS (a:St) (d:Tmp) (T:TypeId) (cs:List C):C3 a (boxS a d T cs):=(C3.newL _ _).trans (C3.setS _ _ _)
def C3.rowS (a:St) (d:Tmp) (t:Ty) (e:TypeId) (l:List t.den):C3 a (rowS a d t e l):=(C3.newL _ _).trans (C3.setS _ _ _)
def C3.dropR (a:St) (c:C):C3 a (dropR a c):=by
 cases c with
 |row k=>exact C3.setL _ _ _
 | _=>exact C3.refl _
section
variable {cx:Cx} {sp:G4} {all:List Oper} {k k':St->Prop} {st:St}
def C3.detO (st:St) (x:Operand):C3 st (detO st x):=by
 have c:∀(b:Bool) (a:St),C3 st a->C3 st (bif b then a else st):=by
  intro b a h;cases b
  . exact C3.refl _
  . exact h
 unfold Vc.detO;split
 . unfold A9k;split
   . split
     . split
       . split
         . exact c _ _ ((C3.setL _ _ _).trans (C3.setL _ _ _))
         . exact C3.refl _
       . exact C3.refl _
     . exact C3.refl _
   . exact C3.refl _
 . exact C3.refl _
def YP {d:Tmp} {T:TypeId} {x:Operand} {a:St} (h:YO cx st d T x=some a):C3 st a:=by
 simp only[YO,qG,bind_some]at h;obtain⟨ti,_,c,_,h⟩:=h;split at h
 . split at h
   . obtain⟨_,h⟩:=D8 h;cases h;exact((C3.newL _ _).trans (C3.setL _ _ _)).trans (C3.setS _ _ _)
   . cases h
 . cases h
def A0y {d:Tmp} {T:TypeId} {x y:Operand} {a:St} (h:fF cx st d T x y=some a):C3 st a:=by
 simp only[fF,qG,bind_some]at h;obtain⟨ti,_,t,_,b,_,c,_,f,_,h⟩:=h;cases b with
 |row k=>
  simp only at h;split at h
  . split at h
    . obtain⟨_,h⟩:=D8 h;cases h;exact(C3.setL _ _ _).trans (C3.setS _ _ _)
    . cases h
  . cases h
 | _=>simp at h
def A4u {d:Tmp} {op:Op} {φ:Option Prop} {f:St} (h:A4t cx st d op=some (φ,f)):C3 st f:=by
 unfold A4t at h;split at h
 . simp only[qG,bind_some]at h;obtain⟨s,_,h⟩:=h;obtain⟨_,h⟩:=D8 h;cases h;exact C3.boxS _ _ _ _
 . simp only[qG,bind_some]at h;obtain⟨s,_,h⟩:=h;cases h;exact C3.boxS _ _ _ _
 . simp only[qG,bind_some]at h;obtain⟨ti,_,t,_,n,_,o,_,h⟩:=h;obtain⟨_,h⟩:=D8 h;cases h;exact(C3.settleP _ _).trans (C3.rowS _ _ _ _ _)
 . simp only[qG,bind_some]at h;obtain⟨ti,_,t,_,l,_,k,_,h⟩:=h;cases c:ti.rows with
   |true=>
    simp only[c,qT,qJ]at h;obtain⟨g,a,h⟩:=h;cases h;unfold SB at a;split at a
    . simp only[qJ]at a;obtain⟨_,_,a⟩:=a;subst a;exact(C3.newL _ _).trans (C3.setS _ _ _)
    . cases a
   |false=>
    simp only[c,rD]at h;obtain⟨_,h⟩:=D8 h;cases h;exact C3.rowS _ _ _ _ _
 . split at h
   . obtain⟨_,h⟩:=D8 h;simp only[B2z,qG,bind_some]at h;obtain⟨ti,_,t,_,i,_,j,_,l,_,r,_,h⟩:=h;obtain⟨_,h⟩:=D8 h;cases h;exact(C3.detO _ _).trans ((C3.dropR _ _).trans (C3.rowS _ _ _ _ _))
   . cases h
 . simp only[qG,bind_some]at h;obtain⟨ti,_,h⟩:=h;split at h
   . cases h;exact(C3.newL _ _).trans (C3.setS _ _ _)
   . simp only[qJ]at h;obtain⟨_,_,h⟩:=h;cases h;exact(C3.newL _ _).trans (C3.setS _ _ _)
   . cases h
 . split at h
   . simp only[qG,bind_some]at h;obtain⟨ti,_,h⟩:=h;split at h
     . simp only[bind_some]at h;obtain⟨_,_,_,_,h⟩:=h;cases h;exact C3.setS _ _ _
     . cases h
   . cases h
 . simp only[qJ]at h;obtain⟨g,b,h⟩:=h;cases h;exact YP b
 . simp only[qG,bind_some]at h;obtain⟨ti,_,h⟩:=h;split at h
   . simp only[bind_some]at h;obtain⟨_,_,_,_,h⟩:=h;cases h;exact(C3.settleO _ _).trans ((C3.newL _ _).trans (C3.setS _ _ _))
   . cases h
 . simp only[qG,bind_some]at h;obtain⟨_,_,h⟩:=h;split at h
   . split at h
     . obtain⟨_,h⟩:=D8 h;cases h;exact C3.setS _ _ _
     . cases h
   . cases h
 . split at h
   . simp only[qJ]at h;obtain⟨g,b,h⟩:=h;cases h;exact A0y b
   . cases h
 . cases h
def lG {T:TypeId} {x:Operand} {a:St} (h:QJ cx st T x=some a):C3 st a:=by unfold QJ at h;cases h
def SD {T:TypeId} {m x y:Operand} {a:St} (h:JY cx st T m x y=some a):C3 st a:=by
 simp only[JY,qG,bind_some]at h;obtain⟨ti,_,c,_,b,_,d,_,h⟩:=h;split at h
 . simp only[bind_some]at h;obtain⟨_,_,_,_,_,_,h⟩:=h;cases h;exact(C3.settleO _ _).trans (C3.setL _ _ _)
 . cases h
def nL {ti:TI} {s:SV} {k sz i off:Nat} {a:St} (h:cV ti st s k sz i off=some a):C3 st a:=by
 unfold cV at h;split at h
 . obtain⟨_,h⟩:=D8 h;split at h
   . cases h;exact C3.setL _ _ _
   . cases h
 . split at h
   . split at h
     . obtain⟨_,h⟩:=D8 h;split at h
       . cases h;exact C3.setL _ _ _
       . cases h
     . cases h
   . cases h
 . cases h
def nN {T:TypeId} {p v:Operand} {φ:Option Prop} {a:St} (h:UD cx st T p v=some (φ,a)):C3 st a:=by
 simp only[UD,qG,bind_some]at h;obtain⟨ti,_,c,_,h⟩:=h;split at h
 . simp only[bind_some]at h;obtain⟨s,_,h⟩:=h;split at h
   . obtain⟨_,h⟩:=D8 h;cases h;exact C3.setL _ _ _
   . cases h
 . split at h
   . split at h
     . obtain⟨_,h⟩:=D8 h;unfold Vc.attach at h;split at h
       . split at h
         . obtain⟨_,h⟩:=D8 h;cases h;exact(((C3.setL _ _ _).trans (C3.setL _ _ _)).trans (C3.setL _ _ _)).trans (C3.setL _ _ _)
         . cases h
       . cases h
     . cases h
   . simp only[bind_some,qJ]at h;obtain⟨s,_,d,b,h⟩:=h;cases h;exact(C3.settleO _ _).trans (nL b)
 . cases h
def V2 {sh:Bool} {mu:List Nat} :∀ {as:List AM} {ss:List SV} {k k':A5 as->Prop},K6 cx sp st mu sh as ss k->(∀x,k x->k' x)->K6 cx sp st mu sh as ss k'
 | [],[],_,_,h,b=>b _ h
 | [],_:: _,_,_,h,_=>h.elim
 |a::r,[],_,_,h,_=>by cases a<;>exact h.elim
 | .val a t::r,s::ss,_,_,h,b=>by
  simp only[K6]at h⊢;split at h
  . exact V2 h fun y=>b _
  . exact h.elim
 | .row t d::r,s::ss,_,_,h,c=>by
  simp only[K6]at h⊢;split at h
  . split at h
    . obtain⟨b,h⟩:=B7 h;simp only[b,qT];exact V2 h fun y=>c _
    . exact h.elim
  . exact h.elim
 | .box t d::r,s::ss,_,_,h,c=>by
  simp only[K6]at h⊢;split at h
  . split at h
    . obtain⟨b,h⟩:=B7 h;simp only[b,qT];exact V2 h fun y=>c _
    . exact h.elim
  . exact h.elim
 | .rows t d f::r,s::ss,_,_,h,c=>by
  simp only[K6]at h⊢;split at h
  . split at h
    . obtain⟨b,h⟩:=B7 h;simp only[b,qT];exact V2 h fun y=>c _
    . exact h.elim
  . exact h.elim
 | .fn j n l::r,s::ss,_,_,h,b=>by
  simp only[K6]at h⊢;split at h
  . split at h
    . obtain⟨c,h⟩:=B7 h;simp only[c,qT];obtain⟨g,i,f,h⟩:=h;exact⟨g,i,f,V2 h fun y=>b _⟩
    . exact h.elim
  . split at h
    . rename_i d;rw[dif_pos d];exact⟨h.1,h.2.1,V2 h.2.2 fun y=>b _⟩
    . exact h.elim
  . exact h.elim
def LK {d:Tmp} {s:A9} {ss:List SV} (h:CU cx sp st d s ss k) (g:∀f,C3 st f->k f->k' f):CU cx sp st d s ss k':=by
 unfold CU at h⊢;split at h
 . obtain⟨i,h⟩:=B7 h;simp only[i,qT];cases j:O4 s.args<;>simp only[j,rD,qT]at h⊢
   . exact V2 h fun x a=>⟨a.1,fun r c b=>g _ ((C3.place _ _ _).trans (C3.setS _ _ _)) (a.2 r c b)⟩
   . exact V2 h fun x a=>⟨a.1,fun r o c l b n=>g _ ((C3.dropM _ _).trans ((C3.place _ _ _).trans ((C3.addM _ _ _ _).trans (C3.setS _ _ _)))) (a.2 r o c l b n)⟩
 . exact h
def aR {d:Tmp} {f:Operand} {args:List Operand} (h:Yr cx sp st d f args k) (b:∀a,C3 st a->k a->k' a):Yr cx sp st d f args k':=by
 unfold Yr at h⊢;split at h
 . split at h
   . split at h
     . exact⟨h.1,h.2.1,fun n=>b _ (C3.setS _ _ _) (h.2.2 n)⟩
     . exact h
   . exact h
 . split at h
   . split at h
     . obtain⟨g,h⟩:=B7 h;simp only[g,qT];rename_i s _ _;cases c:s.inl with
       |some o=>
        simp only[c]at h⊢;exact o.step h fun a r ev j=>b _ (ev.trans (C3.setS _ _ _)) j
       |none=>
       simp only[c]at h⊢;cases l:s.shared<;>simp only[l,rD,qT]at h⊢
       . exact LK h b
       . split at h
         . obtain⟨i,h⟩:=B7 h;simp only[i,qT];exact LK h fun a ev=>b a (((C3.stillF _ _ _ _).trans (C3.settleA _ _ _)).trans ev)
         . exact h
     . exact h
   . exact h
def WH {ctx:Ha} {t:Tmp} {b:Bool} {d:Tmp} {f:Operand} {args:List Operand} (h:Oa cx sp st ctx t b d f args k) (a:∀l,C3 st l->k l->k' l):Oa cx sp st ctx t b d f args k':=by
 unfold Oa at h⊢;split at h
 . split at h
   . split at h
     . exact⟨h.1,h.2.1,fun x=>a _ (C3.setS _ _ _) (h.2.2 x)⟩
     . exact h
   . exact h
 split at h
 . split at h
   . split at h
     . split at h
       . obtain⟨g,h⟩:=B7 h;simp only[g,qT];exact a _ (C3.setS _ _ _) h
       . exact h
     obtain⟨g,h⟩:=B7 h;simp only[g,qT];rename_i z _ _ _ _;cases s:O4 z.args<;>simp only[s,rD,qT]at h⊢
     case true=>
      obtain⟨o,h⟩:=B7 h;simp only[o,qT];unfold aQ at h⊢;split at h
      . obtain⟨n,h⟩:=B7 h;simp only[n,qT];refine V2 h fun A j=>⟨fun c=>⟨(j.1 c).1,fun r y i u v w=> ?_⟩,fun c=> ?_⟩
        . have:=(j.1 c).2 r y i u v w;split at this
          . exact a _ ((C3.dropM _ _).trans ((C3.place _ _ _).trans ((C3.addM _ _ _ _).trans (C3.setS _ _ _)))) this
          . exact this
        . have:=j.2 c;split at this
          . exact a _ (C3.setS _ _ _) this
          . exact this
      . exact h
     refine V2 h fun A h=>⟨h.1,fun r i=> ?_⟩
     have:=h.2 r i;split at this
     . exact a _ (C3.setS _ _ _) this
     . exact this
   . exact h
 . exact h
def mD {d:Tmp} {T:TypeId} {m x:Operand} {a:St} (h:SC cx st d T m x=some a):C3 st a:=by unfold SC at h;cases h
def lN {m s y:Operand} {a:St} (h:QX st m s y=some a):C3 st a:=by unfold QX at h;cases h
def N0 {α:Type} {c:Bool} {a:Option α} {x:α} (h:(bif c then a else none)=some x):a=some x:=by
 cases c with
 |true=>exact h
 |false=>cases h
def C3.giveS (st:St) (k:Nat):C3 st (giveS st k):=by
 unfold Vc.giveS;split
 . split
   . cases Nat.ble st.nm k&&Nat.ble st.nm _ && !(Nat.beq _ k)with
     |true=>exact(C3.setL _ _ _).trans (C3.setL _ _ _)
     |false=>exact C3.refl _
   . exact C3.setL _ _ _
 . exact C3.refl _
def A2q {φ:Option Prop} {b:St} {d:Tmp} {p i:Nat} (a:ZT st d p i=some (φ,b)):C3 st b:=by
 unfold ZT at a;split at a
 . have a:=N0 a;cases a;exact(((C3.setL _ _ _).trans (C3.newL _ _)).trans (C3.setL _ _ _)).trans (C3.setS _ _ _)
 . cases a
def A1z {φ:Option Prop} {b:St} {p r i:Nat} (a:TQ st p r i=some (φ,b)):C3 st b:=by
 unfold TQ at a;split at a
 . split at a
   . have a:=N0 a;split at a
     . cases a;exact((C3.setL _ _ _).trans (C3.setL _ _ _)).trans (C3.setL _ _ _)
     . split at a
       . cases a;exact((C3.setL _ _ _).trans (C3.setL _ _ _)).trans (C3.setL _ _ _)
       . cases a
     . cases a
   . cases a
 . cases a
def iK {φ:Option Prop} {b:St} {op:Op} {f:Option Tmp} (a:Lk cx st f op=some (φ,b)):C3 st b:=by
 unfold Lk at a;split at a
 . simp only[qG,bind_some]at a;obtain⟨d,_,ti,_,a⟩:=a;have a:=N0 a;simp only[bind_some]at a;obtain⟨t,_,n,_,l,_,c,_,a⟩:=a;have a:=N0 a;cases a;exact(C3.newL _ _).trans (C3.setS _ _ _)
 . simp only[qG,bind_some]at a;obtain⟨d,_,ti,_,c,_,a⟩:=a;split at a
   . have a:=N0 a;exact(C3.giveS _ _).trans (A2q a)
   . cases a
 . split at a
   . simp only[qG,bind_some]at a;obtain⟨ti,_,c,_,r,_,a⟩:=a;split at a
     . have a:=N0 a;exact A1z a
     . cases a
   . cases a
 . simp only[qG,bind_some]at a;obtain⟨d,_,ti,_,c,_,a⟩:=a;split at a
   . simp only[bind_some]at a;obtain⟨g,_,a⟩:=a;have a:=N0 a;cases a;exact((C3.setL _ _ _).trans (C3.newL _ _)).trans (C3.setS _ _ _)
   . cases a
 . simp only[qG,bind_some]at a;obtain⟨d,_,c,_,a⟩:=a;split at a
   . split at a
     . have a:=N0 a;cases a;exact C3.setS _ _ _
     . cases a
   . cases a
 . split at a
   . simp only[qG,bind_some]at a;obtain⟨ti,_,c,_,k,_,a⟩:=a;split at a
     . simp only[bind_some]at a;obtain⟨g,_,j,_,a⟩:=a;cases a;exact C3.setL _ _ _
     . cases a
   . cases a
 . split at a
   . simp only[qG,bind_some]at a;obtain⟨ti,_,t,_,h,_,i,_,o,_,a⟩:=a;split at a
     . simp only[bind_some]at a;obtain⟨l,_,a⟩:=a;have a:=N0 a;cases a;exact((C3.setL _ _ _).trans (C3.newL _ _)).trans (C3.setS _ _ _)
     . cases a
   . cases a
 . cases a
def A1p {φ:Option Prop} {b:St} {q r i:Nat} (a:SH st q r i=some (φ,b)):C3 st b:=by
 unfold SH at a;split at a
 . split at a
   . split at a
     . have a:=N0 a;cases a;exact((C3.setL _ _ _).trans (C3.setL _ _ _)).trans (C3.setL _ _ _)
     . cases a
   . cases a
 . cases a
def nE {φ:Option Prop} {b:St} {op:Op} {d:Option Tmp} (a:Wn cx st d op=some (φ,b)):C3 st b:=by
 unfold Wn at a;split at a
 . split at a
   . simp only[qG,bind_some]at a;obtain⟨ti,_,a⟩:=a;have a:=N0 a;simp only[bind_some]at a;obtain⟨t,_,f,_,c,_,a⟩:=a;split at a
     . simp only[bind_some]at a;obtain⟨l,_,a⟩:=a;have a:=N0 a;cases a;exact((C3.setL _ _ _).trans (C3.newL _ _)).trans (C3.setS _ _ _)
     . cases a
   . cases a
 . split at a
   . simp only[qG,bind_some]at a;obtain⟨ti,_,c,_,r,_,a⟩:=a;split at a
     . exact A1p (N0 a)
     . cases a
   . cases a
 . split at a
   . simp only[qG,bind_some]at a;obtain⟨ti,_,a⟩:=a;have a:=N0 a;simp only[bind_some]at a;obtain⟨t,_,f,_,g,_,h,_,i,_,a⟩:=a;split at a
     . simp only[bind_some]at a;obtain⟨j,_,a⟩:=a;have a:=N0 a;cases a;exact(((C3.dropR _ _).trans (C3.setL _ _ _)).trans (C3.newL _ _)).trans (C3.setS _ _ _)
     . cases a
   . cases a
 . cases a
def mH {φ:Option Prop} {b:St} {op:Op} {c:Option Tmp} (a:DL cx st c op=some (φ,b)):C3 st b:=by
 unfold DL at a;split at a
 . rename_i y d;cases a;exact iK d
 . exact nE a
def YN {ctx:Ha} {s d:Tmp} {b:Bool} {T:TypeId} {x:Operand} {c:St} (a:YM cx st ctx s b d T x=some c):C3 st c:=by
 simp only[YM,qG,bind_some]at a;obtain⟨ti,_,f,_,a⟩:=a;split at a
 . split at a
   . have a:=N0 a;cases a;exact((C3.newL _ _).trans (C3.setL _ _ _)).trans (C3.setS _ _ _)
   . cases a
 . cases a
def mI {d:Tmp} {p:Nat} (h:YV st d p k) (b:∀a,C3 st a->k a->k' a):YV st d p k':=by
 unfold YV at h⊢;split at h
 . obtain⟨a,h⟩:=XL h;rw[a];exact⟨fun a=>b _ (((C3.setL _ _ _).trans (C3.setL _ _ _)).trans (C3.setS _ _ _)) (h.1 a),fun c y f a=>b _ ((C3.setL _ _ _).trans (C3.setS _ _ _)) (h.2 c y f a)⟩
 . exact h
def bW {d:Tmp} {x:Operand} (h:Zk st d x k) (b:∀a,C3 st a->k a->k' a):Zk st d x k':=by
 unfold Zk at h⊢;split at h
 . split at h
   . exact mI h b
   . exact h
 . exact h
def EG {o:Oper} (h:BQ cx sp all o k st) (a:∀d,C3 st d->k d->k' d):BQ cx sp all o k' st:=by
 obtain⟨t,w,y,x,r,u⟩:=o;unfold BQ at h⊢;simp only at h⊢;split at h
 . split at h
   . split at h
     . exact E6.2 ⟨(E6.1 h).1,a _ (C3.setS _ _ _) (E6.1 h).2⟩
     . exact h
   split at h
   . rename_i b;exact E6.2 ⟨(E6.1 h).1,a _ (mH b) (E6.1 h).2⟩
   . rename_i j;clear j;split at h
     . split at h
       . split at h
         . rename_i b;exact E6.2 ⟨(E6.1 h).1,a _ (nN b) (E6.1 h).2⟩
         . exact h
       . exact h
     . split at h
       . split at h
         . rename_i b;exact a _ (SD b) h
         . exact h
       . exact h
     . split at h
       . split at h
         . rename_i b;exact a _ (SD b) h
         . exact h
       . exact h
     . split at h
       . exact aR h a
       . exact h
     . split at h
       . rename_i z str v A s;cases str with
         |true=>exact h
         |false=>exact bW h a
       . exact h
     . split at h
       . split at h
         . rename_i b;exact a _ (mD b) h
         . exact h
       . exact h
     . split at h
       . split at h
         . rename_i b;exact a _ (lN b) h
         . exact h
       . exact h
     . split at h
       . split at h
         . rename_i b;exact a _ (lG b) h
         . exact h
       . exact h
     . split at h
       . split at h
         . rename_i f;exact E6.2 ⟨(E6.1 h).1,a _ (A4u f) (E6.1 h).2⟩
         . exact h
       . exact h
 . split at h
   . obtain⟨g,h⟩:=B7 h;simp only[g,qT];split at h
     . obtain⟨n,h⟩:=B7 h;simp only[n,qT];split at h
       . obtain⟨l,h⟩:=B7 h;simp only[l,qT];exact E6.2 ⟨(E6.1 h).1,a _ (C3.setS _ _ _) (E6.1 h).2⟩
       . exact h
       . split at h
         . exact WH h a
         . split at h
           . rename_i c;refine a _ ?_ h;simp only[aM,qG,bind_some]at c;obtain⟨_,_,_,_,_,_,_,_,c⟩:=c;obtain⟨_,c⟩:=D8 c;cases c;exact C3.setS _ _ _
           . exact h
         . split at h
           . rename_i i;exact a _ (YN i) h
           . exact h
         . exact h
     . exact h
   . exact h
def ME:∀ {ops:List Oper} {k k':St->Prop} {st:St},TZ cx sp all ops k st->(∀a,C3 st a->k a->k' a)->TZ cx sp all ops k' st
 | [],_,_,st,h,a=>a st (C3.refl st) h
 | _:: _,_,_,_,h,f=>EG h fun b a c=>ME c fun g b d=>f g (a.trans b) d
end
inductive Su where
 |val (t:Ty)
 |own (t:Ty) (e:TypeId)
 |ownR (t:Ty) (e e':TypeId)
 |fix (k:Nat)
 |fixB (k:Nat)
def Su.pin:Su->Option Nat
 | .fix k=>some k
 | .fixB k=>some k
 | _=>none
@[reducible] def shD:List Su->Type->Type
 | [],T=>T
 | .val t::r,T=>t.den×shD r T
 | .own t _::r,T=>List t.den×shD r T
 | .ownR t _ _::r,T=>List (List t.den)×shD r T
 | .fix _::r,T=>shD r T
 | .fixB _::r,T=>shD r T
inductive LT where
 |row (t:Ty) (e:TypeId)
 |map (ka:Bool) (kt:Ty) (va:Bool) (vt:Ty)
 |rows (t:Ty) (e e':TypeId)
 |iter (ka:Bool) (kt:Ty) (va:Bool) (vt:Ty)
 |nest (t:Ty) (e e':TypeId)
 |itM (ka:Bool) (kt:Ty) (va:Bool) (vt:Ty) (q:Nat)
@[reducible] def LT.den:LT->Type
 | .row t _=>List t.den
 | .map _ a _ b=>List (a.den×b.den)
 | .rows t _ _=>List (List t.den)
 | .iter _ a _ b=>List (a.den×b.den)
 | .nest t _ _=>List t.den×List Nat
 | .itM _ a _ b _=>List (a.den×b.den)×List (a.den×b.den)
def LT.wf:(l:LT)->l.den->Prop
 | .row t _,x=>(Ty.sl t).wf x
 | .map a b c d,x=>(Ty.mp a b c d).wf x
 | .rows t _ _,x=>(Ty.sl (Ty.sl t)).wf x
 | .iter a b c d,x=>(Ty.mp a b c d).wf x
 | .nest _ _ _,x=>x.1.length<=9223372036854775807
 | .itM a b c d _,x=>(Ty.mp a b c d).wf x.2
def LT.lc:(l:LT)->l.den->LC
 | .row t e,x=> .row t e x
 | .map a b c d,x=> .map a b c d x
 | .rows t e a,x=> .rows t e a x [] none
 | .iter a b c d,x=> .iter a b c d x none
 | .nest t e a,x=> .nest t e a x.1 [] x.2
 | .itM a b c d q,x=> .itM a b c d x.1 x.2 none q
def plugL:List (Nat×LT)->St->St
 | [],a=>a
 | (k, .nest _ _ _)::r,a=>plugL r (giveS a k)
 | (k, .row _ _)::r,a=>plugL r (thaw a k)
 | _::r,a=>plugL r a
def LT.need:LT->Option Nat
 | .itM _ _ _ _ q=>some q
 | _=>none
def mF (a:St) (t:Ty) (e e':TypeId) (k:Nat):Option (List t.den×List Nat):=match a.L k with
 | .nest f d a c [] b=>if h:f=t then(bif Nat.beq d e&&Nat.beq a e' then some (h▸c,b)else none)else none
 | _=>none
def mB (a:St) (k:Nat):(l:LT)->Option l.den
 | .row t e=>Ta a t e k
 | .map b c d f=>mapM a b c d f k
 | .rows t e b=>rowsAt a t e b k
 | .iter b d g i=>match a.L k with
  | .iter c f h j n _=>if o:Ty.mp c f h j=Ty.mp b d g i then some (o▸(show(Ty.mp c f h j).den from n):(Ty.mp b d g i).den)else none
  | _=>none
 | .nest t e b=>mF a t e b k
 | .itM b c f h q=>match a.L k with
  | .itM a d g i j left _ o=>bif Nat.beq q o&&Nat.blt q k then(if n:Ty.mp a d g i=Ty.mp b c f h then some (n▸(show(Ty.mp a d g i).den×(Ty.mp a d g i).den from(j,left)):(Ty.mp b c f h).den×(Ty.mp b c f h).den)else none)else none
  | _=>none
@[reducible] def iZ:List (Nat×LT)->Type
 | []=>Unit
 | (_,t)::r=>t.den×iZ r
structure CG where
 keepS:List Nat
 keepL:List Nat
 modS:List (Nat×Bool×List Su)
 boxL:List (Nat×TypeId×List Su)
 rowL:List (Nat×LT)
def B7a:List (Nat×Bool×List Su)->List Su->List Su
 | [],r=>r
 | (_,_,a)::l,r=>a++B7a l r
def B6z:List (Nat×TypeId×List Su)->List Su
 | []=> []
 | (_,_,a)::l=>a++B6z l
def CG.shs (A:CG):List Su:=B7a A.modS (B6z A.boxL)
@[reducible] def CG.den (A:CG):Type:=shD A.shs (iZ A.rowL)
def shW:(shs:List Su)-> {T:Type} ->(T->Prop)->shD shs T->Prop
 | [],_,q,x=>q x
 | .val t::r,_,q,x=>t.wf x.1/\shW r q x.2
 | .own t _::r,_,q,x=>(Ty.sl t).wf x.1/\shW r q x.2
 | .ownR t _ _::r,_,q,x=>(Ty.sl (Ty.sl t)).wf x.1/\shW r q x.2
 | .fix _::r,_,q,x=>shW r q x
 | .fixB _::r,_,q,x=>shW r q x
def B4v:(l:List (Nat×LT))->iZ l->Prop
 | [],_=>True
 | (_,t)::r,x=>t.wf x.1/\B4v r x.2
def CG.wf (A:CG) (p:A.den):Prop:=shW A.shs (B4v A.rowL) p
def aU (b:St):List (Nat×Bool×List Su)->List C->Option (List C)
 | [],r=>some r
 | (s,d,shs)::l,r=>match b.S s with
  | .one ⟨c,a⟩=>bif(c==d)&&Nat.beq a.length shs.length then(aU b l r).map (a++ ·)else none
  | _=>none
def aT (b:St):List (Nat×TypeId×List Su)->Option (List C)
 | []=>some []
 | (k,T,shs)::l=>match b.L k with
  | .box T' a=>bif Nat.beq T' T&&Nat.beq a.length shs.length then(aT b l).map (a++ ·)else none
  | _=>none
def CG.cells (A:CG) (a:St):Option (List C):=(aT a A.boxL).bind (aU a A.modS)
def settleSh:St->List Su->List C->St
 |b, .val _::r,c::a=>settleSh (settle b [c]) r a
 |b, .own _ _::r,c::a=>settleSh (thawS b ⟨false,[c]⟩) r a
 |b, .ownR _ _ _::r,_::a=>settleSh b r a
 |b, .fix _::r,_::a=>settleSh b r a
 |b, .fixB _::r,_::a=>settleSh b r a
 |a,_,_=>a
def B6q (k:Nat):C->Bool
 | .row j=>Nat.beq j k
 | _=>false
def B6o (k:Nat):C->Bool
 | .box j 0=>Nat.beq j k
 | _=>false
def V9 (a:St):(shs:List Su)-> {T:Type} ->T->List C->Option (shD shs T)
 | [],_,x,[]=>some x
 | .val t::r,_,x,c::b=>(QG t c).bind fun y=>(V9 a r x b).map fun z=>(y,z)
 | .own t e::r,_,x,c::b=>(KQ a t e c).bind fun y=>(V9 a r x b).map fun z=>(y,z)
 | .ownR t e d::r,_,x,c::b=>(ZJ a t e d c).bind fun y=>(V9 a r x b).map fun z=>(y,z)
 | .fix k::r,_,x,c::b=>bif B6q k c then V9 a r x b else none
 | .fixB k::r,_,x,c::b=>bif B6o k c then V9 a r x b else none
 | _,_,_,_=>none
def A5a (l:List (Nat×LT)) (bl:List (Nat×TypeId×List Su)):Su->Bool
 | .fixB k=>bl.any fun x=>Nat.beq x.1 k
 | .fix k=>l.any fun x=>Nat.beq x.1 k
 | _=>true
def A2d (a:St):(l:List (Nat×LT))->Option (iZ l)
 | []=>some ()
 | (k,t)::r=>(mB a k t).bind fun y=>(A2d a r).map fun z=>(y,z)
def L9:List Su->List C->List Nat
 | .own _ _::r, .row k::a=>k::L9 r a
 | .ownR _ _ _::r, .row k::a=>k::L9 r a
 | _::r,_::a=>L9 r a
 | _,_=> []
def gX {α:Type} (d:α) (l:List (Nat×α)):List Nat->List (Nat×α)
 | []=> []
 |s::r=>(s,find d s l)::gX d l r
def gath (A:CG) (b:St):Option (St×A.den):=do
 let c<-A.cells (plugL A.rowL b)
 let a:=settleSh (plugL A.rowL b) A.shs c
 let b<-A.cells a
 let tl<-A2d a A.rowL
 let p<-V9 a A.shs tl b
 bif DN (A.keepL++(L9 A.shs b++((A.rowL.map fun x=>x.1)++(A.boxL.map fun x=>x.1))))&&A.shs.all (A5a A.rowL A.boxL)then some (a,p)else none
def B4p:(t:Ty)->t.den->C
 | .ptr t,x=> .pf t x 0
 |t,x=> .val t x
def placeSh:(shs:List Su)-> {T:Type} ->shD shs T->St->List C×St×T
 | [],_,x,a=>([],a,x)
 | .val t::r,_,x,a=>(fun p=>(B4p t x.1::p.1,p.2)) (placeSh r x.2 a)
 | .own t e::r,_,x,a=>(fun p=>(C.row a.nx::p.1,p.2)) (placeSh r x.2 (a.newL (.row t e x.1)))
 | .ownR t e b::r,_,x,a=>(fun p=>(C.row a.nx::p.1,p.2)) (placeSh r x.2 (a.newL (.rows t e b x.1 [] none)))
 | .fix k::r,_,x,a=>(fun p=>(C.row k::p.1,p.2)) (placeSh r x a)
 | .fixB k::r,_,x,a=>(fun p=>(C.box k 0::p.1,p.2)) (placeSh r x a)
def putRows:(l:List (Nat×LT))->iZ l->St->St
 | [],_,a=>a
 | (k,t)::r,x,a=>putRows r x.2 (a.setL k (t.lc x.1))
def putS:List (Nat×Bool×List Su)->List C->St->List C×St
 | [],a,b=>(a,b)
 | (s,b,shs)::r,a,c=>putS r (a.drop shs.length) (c.setS s (.one ⟨b,a.take shs.length⟩))
def putB:List (Nat×TypeId×List Su)->List C->St->St
 | [],_,a=>a
 | (k,T,shs)::r,a,b=>putB r (a.drop shs.length) (b.setL k (.box T (a.take shs.length)))
def A2r:List (Nat×TypeId×List Su)->Nat->Nat
 | [],n=>n
 |y::r,n=>A2r r (bif Nat.blt y.1 n then n else y.1+1)
def Lw:∀(l:List (Nat×TypeId×List Su)) (n:Nat),n<=A2r l n
 | [],n=>qP n
 |y::r,n=>by
  refine qV ?_ (Lw r _);cases a:Nat.blt y.1 n with
  |true=>exact qP n
  |false=>
   have:¬y.1<n:=fun h=>by rw[show Nat.blt y.1 n=true from by rw[Nat.blt_eq];exact h]at a;cases a
   show n<=y.1+1;omega
def UH:∀ {l:List (Nat×TypeId×List Su)} {n:Nat},∀y∈l,y.1<A2r l n
 |y::r,n,z,a=>by
  rcases qS.1 a with rfl|a
  . refine rC ?_ (Lw r _);cases b:Nat.blt z.1 n with
    |true=>rw[Nat.blt_eq]at b;exact b
    |false=>exact rK _
  . exact UH (l:=r) z a
def kept (A:CG) (a:St):St:=⟨gX (0, .dead) a.sl A.keepS,gX (0, .none) a.lc A.keepL,A2r A.boxL a.nx,a.ct+1,a.nm,a.fr⟩
def reflect (A:CG) (a:St) (p:A.den):St:=
 (fun q=>(fun r=>putB A.boxL r.1 r.2) (putS A.modS q.1 (putRows A.rowL q.2.2 q.2.1))) (placeSh A.shs p (kept A a))
def bG (n:Nat) (g:Nat):Bool:=Nat.ble 1 g&&Nat.ble g n
def A5w (A:CG) (a b:St):Bool:=(A.keepS.all fun s=>bG a.ct (b.eS s).1)&&(A.keepL.all fun k=>bG a.ct (b.eL k).1)&&(A.rowL.all fun x=>Nat.blt x.1 a.nx)&&B4o a.ct b.fr
def JF (A:CG) (b:St) (J:A.den->Prop) (a:St):Prop:=
 match gath A a with
 |some (a,p)=>bif A5w A b a then J p else False
 |none=>False
section
variable {za:Zn} {w0 w:World} {Z:Nat->Prop} {B:Nat->Value} {st st0:St} {E:G5}
def C3.plugL:∀(l:List (Nat×LT)) (st:St),C3 st (plugL l st)
 | [],st=>C3.refl st
 | (k, .nest _ _ _)::r,st=>(C3.giveS st k).trans (C3.plugL r _)
 | (k, .row _ _)::r,st=>(C3.thawS st ⟨false,[.row k]⟩).trans (C3.plugL r _)
 | (_, .map _ _ _ _)::r,st=>C3.plugL r st
 | (_, .rows _ _ _)::r,st=>C3.plugL r st
 | (_, .iter _ _ _ _)::r,st=>C3.plugL r st
 | (_, .itM _ _ _ _ _)::r,st=>C3.plugL r st
def C2.plugL (a:za.b0=0):∀ {l:List (Nat×LT)} {st:St} {Z:Nat->Prop},C2 za w0 st E w Z B->∃Z',C2 za w0 (plugL l st) E w Z' B
 | [],_,Z,h=>⟨Z,h⟩
 | (k, .nest _ _ _)::r,_,_,h=>C2.plugL a (l:=r) (h.giveS a k)
 | (k, .row _ _)::r,_,_,h=>by
  obtain⟨Z1,b⟩:=h.thaw k;exact C2.plugL a (l:=r) b
 | (_, .map _ _ _ _)::r,_,_,h=>C2.plugL a (l:=r) h
 | (_, .rows _ _ _)::r,_,_,h=>C2.plugL a (l:=r) h
 | (_, .iter _ _ _ _)::r,_,_,h=>C2.plugL a (l:=r) h
 | (_, .itM _ _ _ _ _)::r,_,_,h=>C2.plugL a (l:=r) h
def C3.settleSh:∀(shs:List Su) (cs:List C) (st:St),C3 st (settleSh st shs cs)
 | .val _::r,c::cs,st=>(C3.settle st [c]).trans (C3.settleSh r cs _)
 | .own _ _::r,c::cs,st=>(C3.thawS st ⟨false,[c]⟩).trans (C3.settleSh r cs _)
 | .ownR _ _ _::r,_::cs,st=>C3.settleSh r cs st
 | .ownR _ _ _:: _,[],st=>C3.refl st
 | .fix _::r,_::cs,st=>C3.settleSh r cs st
 | .fixB _::r,_::cs,st=>C3.settleSh r cs st
 | .fixB _:: _,[],st=>C3.refl st
 | [],_,st=>C3.refl st
 | .val _:: _,[],st=>C3.refl st
 | .own _ _:: _,[],st=>C3.refl st
 | .fix _:: _,[],st=>C3.refl st
def C2.settleSh:∀ {shs:List Su} {cs:List C} {st:St} {Z:Nat->Prop},C2 za w0 st E w Z B->∃Z',C2 za w0 (settleSh st shs cs) E w Z' B
 | .val _::r,c::cs,st,Z,h=>by
  obtain⟨Z1,a⟩:=h.settle [c];exact C2.settleSh (shs:=r) (cs:=cs) a
 | .own _ _::r,c::cs,st,Z,h=>by
  obtain⟨Z1,a⟩:=h.thawS ⟨false,[c]⟩;exact C2.settleSh (shs:=r) (cs:=cs) a
 | .ownR _ _ _::r,_::cs,st,Z,h=>C2.settleSh (shs:=r) (cs:=cs) h
 | .ownR _ _ _:: _,[],st,Z,h=>⟨Z,h⟩
 | .fix _::r,_::cs,st,Z,h=>C2.settleSh (shs:=r) (cs:=cs) h
 | .fixB _::r,_::cs,st,Z,h=>C2.settleSh (shs:=r) (cs:=cs) h
 | .fixB _:: _,[],st,Z,h=>⟨Z,h⟩
 | [],_,st,Z,h=>⟨Z,h⟩
 | .val _:: _,[],st,Z,h=>⟨Z,h⟩
 | .own _ _:: _,[],st,Z,h=>⟨Z,h⟩
 | .fix _:: _,[],st,Z,h=>⟨Z,h⟩
def C3.putRows:∀(l:List (Nat×LT)) (x:iZ l) (st:St),C3 st (putRows l x st)
 | [],_,st=>C3.refl st
 | (k,t)::r,x,st=>(C3.setL st k _).trans (C3.putRows r x.2 _)
def C3.placeSh:∀(shs:List Su) {T:Type} (x:shD shs T) (st:St),C3 st (placeSh shs x st).2.1
 | [],_,_,st=>C3.refl st
 | .val t::r,_,x,st=>C3.placeSh r x.2 st
 | .own t e::r,_,x,st=>(C3.newL st (.row t e x.1)).trans (C3.placeSh r x.2 _)
 | .ownR t e a::r,_,x,st=>(C3.newL st (.rows t e a x.1 [] none)).trans (C3.placeSh r x.2 _)
 | .fix _::r,_,x,st=>C3.placeSh r x st
 | .fixB _::r,_,x,st=>C3.placeSh r x st
def C3.putS:∀(l:List (Nat×Bool×List Su)) (cs:List C) (st:St),C3 st (putS l cs st).2
 | [],_,st=>C3.refl st
 | (s,a,shs)::r,cs,st=>(C3.setS st s _).trans (C3.putS r _ _)
def C3.putB:∀(l:List (Nat×TypeId×List Su)) (cs:List C) (st:St),C3 st (putB l cs st)
 | [],_,st=>C3.refl st
 | (k,T,shs)::r,cs,st=>(C3.setL st k _).trans (C3.putB r _ _)
def C3.reflect (A:CG) (st0:St) (p:A.den):C3 (kept A st0) (reflect A st0 p):=
 (C3.placeSh A.shs p _).trans ((C3.putRows _ _ _).trans ((C3.putS _ _ _).trans (C3.putB _ _ _)))
def CY {α:Type} (d:α) (l:List (Nat×α)) (q:Nat):∀b:List Nat,find d q (gX d l b)=if q∈b then find d q l else d
 | []=>rfl
 |s::r=>by
  simp only[gX,find,CY d l q r];cases a:Nat.beq s q with
  |true=>have:=qD a;subst this;simp
  |false=>
   have:q≠s:=fun h=>by subst h;simp at a
   simp[this]
def bO (A:CG) (st:St) (s:Nat):(kept A st).eS s=if s∈A.keepS then st.eS s else(0, .dead):=CY ..
def bN (A:CG) (st:St) (k:Nat):(kept A st).eL k=if k∈A.keepL then st.eL k else(0, .none):=CY ..
def iY {A:CG} {p:A.den} {s:Nat} (a:((reflect A st0 p).eS s).1≠0) (b:((reflect A st0 p).eS s).1<=st0.ct):(reflect A st0 p).eS s=st0.eS s:=by
 have e:=(C3.reflect A st0 p).s s a (xF b);rw[e]at a⊢;rw[bO]at a⊢;split
 . rfl
 . rename_i b;rw[qH b]at a;exact absurd rfl a
def cP {A:CG} {p:A.den} {k:Nat} (a:((reflect A st0 p).eL k).1≠0) (b:((reflect A st0 p).eL k).1<=st0.ct):(reflect A st0 p).eL k=st0.eL k:=by
 have e:=(C3.reflect A st0 p).l k a (xF b);rw[e]at a⊢;rw[bN]at a⊢;split
 . rfl
 . rename_i b;rw[qH b]at a;exact absurd rfl a
structure A8x (n:Nat) (st:St):Prop where
 nms:st.nm=n/\n<=st.nx
 refs:∀s,HI st.nx (st.S s)
 refl:∀k,AR st.nx (st.L k)
 fresh:∀k,st.nx<=k->st.L k= .none
 frf:dU st.nx st.fr
def C2.pure (h:C2 za w0 st E w Z B):A8x za.n st:=⟨h.nms,h.refs,h.refl,h.fresh,h.frf⟩
structure Gz (za:Zn) (w0:World) (st2:St) (E:G5) (w:World) (Z:Nat->Prop) (B:Nat->Value) (used:List Nat) (st:St) (BX:Nat->Value):Prop where
 rel:C2 za w0 st E w Z BX
 own:∀j b,A8 w (BX j) (st.L j) b->∃q,q∈used/\A8 w (B q) (st2.L q) b
def Gz.disj {a:St} {d:List Nat} {BX:Nat->Value} (f:C2 za w0 a E w Z B) (c:Gz za w0 a E w Z B d st BX) {q:Nat} (h:q∉d):∀k b,A8 w (B q) (a.L q) b->¬A8 w (BX k) (st.L k) b:=fun k b a d=>by
 obtain⟨j,i,g⟩:=c.own k b d;exact f.disj q j b (fun d=>h (d▸i)) a g
end
section
variable {za:Zn} {w0 w:World} {Z:Nat->Prop} {B:Nat->Value} {st st0 st2:St} {E:G5}
def C2.setSame (h:C2 za w0 st E w Z B) (s:Nat) {x:DV} (c:RD w Z B E x (E s)) (b:HI st.nx x):C2 za w0 (st.setS s x) E w Z B:=by
 have e:upd E s (E s)=E:=by
  funext t;by_cases a:t=s
  . subst a;exact B9 _ _ _
  . exact C4 _ _ _ _ a
 have:=h.setS s (x:=x) (v:=E s) (by rw[e];exact c) b;rwa[e]at this
def B3g {A:CG} (a:C2 za w0 st2 E w Z B) (d:A8x za.n st0) (c:∀s∈A.keepS,st2.eS s=st0.eS s) (b:∀k∈A.keepL,st2.eL k=st0.eL k) (j:st2.fr=st0.fr):Gz za w0 st2 E w Z B A.keepL (kept A st0) B:=by
 have eS:∀s,(kept A st0).S s=if s∈A.keepS then st2.S s else .dead:=fun s=>by
  show((kept A st0).eS s).2= _;rw[bO];split
  . rename_i f;rw[<-c s f];rfl
  . rfl
 have eL:∀k,(kept A st0).L k=if k∈A.keepL then st2.L k else .none:=fun k=>by
  show((kept A st0).eL k).2= _;rw[bN];split
  . rename_i c;rw[<-b k c];rfl
  . rfl
 have i:∀s,(kept A st0).S s=if s∈A.keepS then st0.S s else .dead:=fun s=>by
  show((kept A st0).eS s).2= _;rw[bO];split<;>rfl
 have g:∀k,(kept A st0).L k=if k∈A.keepL then st0.L k else .none:=fun s=>by
  show((kept A st0).eL s).2= _;rw[bN];split<;>rfl
 have f:∀k b,A8 w (B k) ((kept A st0).L k) b->k∈A.keepL/\A8 w (B k) (st2.L k) b:=fun k b c=>by
  rw[eL]at c;split at c
  . rename_i h;exact⟨h,c⟩
  . exact c.elim
 refine⟨⟨a.ext,a.zlt,fun s=> ?_,fun k=> ?_,fun k h b l o r=>a.disj k h b l (f k b o).2 (f h b r).2,fun s=> ?_,fun k=> ?_,fun k c=> ?_,a.bone,a.zin,⟨d.nms.1,qV d.nms.2 (Lw _ _)⟩,a.bfix,⟨a.mrk.1,fun k b c h=>a.mrk.2 k b c (f k b h).2⟩,(by have:=a.frs;rw[j]at this;exact this),d.frf.le (Lw _ _)⟩,fun j b h=>⟨j,(f j b h).1,(f j b h).2⟩⟩
 . rw[eS];split
   . exact a.slots s
   . trivial
 . rw[eL];split
   . exact a.locs k
   . trivial
 . rw[i];split
   . exact(d.refs s).le (Lw _ _)
   . trivial
 . rw[g];split
   . exact(d.refl k).le (Lw _ _)
   . trivial
 . rw[g];split
   . exact d.fresh k (qV (Lw _ _) c)
   . rfl
def KR (j:C2 za w0 st2 E w Z B) {t:Ty} {e:TypeId} {c:C} {l:List t.den} {v:Value} (o:RC w Z B c v) (a:KQ st2 t e c=some l):
 ∃xs,w.ownsRow w0.heap.size e t.size v l.length xs/\F7 (C5 t w Z) xs l/\(∀b,v.ownBlock=some b->¬Z b)/\((∃q,c= .row q/\live (st2.L q)/\v=B q)\/(root v=none/\∀q,c≠ .row q)):=by
 unfold KQ at a;split at a
 . rename_i q;split at a
   . rename_i G A F f;split at a
     . rename_i x;subst x;obtain⟨g,a⟩:=D8 a;cases a;simp only[qC]at g;have D:=qN g.2;have u:=qD g.1;subst u;have n:=j.locs q;rw[f]at n;obtain⟨xs,r,s,k⟩:=n;have h:v=B q:=o;subst h;have z:∀b,(B q).ownBlock=some b->w0.heap.size<=b:=fun b d=>by
        rcases(k b d).1 with i|i
        . exact i.2
        . have:=j.nms.1;omega
       exact⟨xs,cF r z,s,fun b d=>(k b d).2, .inl ⟨q,rfl,by rw[f];trivial,rfl⟩⟩
     . cases a
   . cases a
 . obtain⟨y,a⟩:=D8 a;cases a;have h:v= .slice none 0 0:=by rw[o.1];exact Eu y
   subst h;exact⟨[],World.ownsRow_nil _ _ _ _,rfl,fun b d=>(by cases d), .inr ⟨rfl,fun q f=>(by cases f)⟩⟩
 . cases a
def jC (j:C2 za w0 st2 E w Z B) {t:Ty} {e e':TypeId} {c:C} {ls:List (List t.den)} {v:Value} (k:RC w Z B c v) (a:ZJ st2 t e e' c=some ls):
 Aw w Z t e e' v ls/\v.oneCell'=true/\(∀b,A8 w v (.rows t e e' ls [] none) b->¬Z b/\w0.heap.size<=b/\b<w.heap.size)/\((∃q,c= .row q/\v=B q/\∀b,A8 w v (.rows t e e' ls [] none) b->A8 w (B q) (st2.L q) b)\/((∀b,¬A8 w v (.rows t e e' ls [] none) b)/\∀q,c≠ .row q)):=by
 unfold ZJ at a;split at a
 . rename_i q;obtain⟨h,a⟩:=D8 a;obtain⟨al,o⟩:=W0 a;obtain⟨n,g⟩:=j.rowsAt o (qN h);have f:v=B q:=k;subst f;exact⟨n,j.bone q,fun b d=>⟨(g b d).1,(g b d).2.1,(g b d).2.2.1⟩, .inl ⟨q,rfl,rfl,fun b d=>(g b d).2.2.2⟩⟩
 . obtain⟨s,a⟩:=D8 a;cases a;have f:v= .slice none 0 0:=by rw[k.1];exact Eu s
   exact⟨⟨[],by rw[f];exact World.ownsRow_nil _ _ _ _,fun l y u r=>(by simp at r),fun l x u v b _ i=>(by simp at i),fun l u b i=>(by simp at i)⟩,by rw[f];rfl,fun b d=>absurd d (SN f), .inr ⟨fun b=>SN f,fun q h=>(by cases h)⟩⟩
 . cases a
def B0l {t:Ty} {v:Value} {x:t.den} (h:C5 t w Z [v] x):RC w Z B (B4p t x) v:=by
 cases t with
 |ptr t=>
  obtain⟨b,o,a,e,r⟩:=h;simp only[sH,vM]at e;exact⟨b,o,a,by rw[e];rfl,r⟩
 | _=>exact h
def A7a {n:Nat} {t:Ty} {x:t.den} :Bl n (B4p t x):=by cases t<;>trivial
def Pd (l:za.b0=0) (f:C2 za w0 st2 E w Z B):∀ {shs:List Su} {T:Type} {tl:T} {cs:List C} {vs:List Value} {p:shD shs T} {st:St} {BX:Nat->Value} {a:List Nat},Gz za w0 st2 E w Z B a st BX->Cb w Z B cs vs->V9 st2 shs tl cs=some p->(∀q∈L9 shs cs,q∉a)->(L9 shs cs).Nodup->(∀c∈shs,∀k,c.pin=some k->k<st.nx/\BX k=B k)->
 ∃BX',Gz za w0 st2 E w Z B (L9 shs cs++a) (placeSh shs p st).2.1 BX'/\Cb w Z BX' (placeSh shs p st).1 vs/\(∀c∈(placeSh shs p st).1,Bl (placeSh shs p st).2.1.nx c)/\(∀k,k<st.nx->BX' k=BX k)/\st.nx<=(placeSh shs p st).2.1.nx/\(placeSh shs p st).2.2=tl
 | [],_,tl,[],vs,p,st,BX,a,c,d,b,_,_,_=>by
  simp only[V9,rA]at b;exact⟨BX,c,d,by simp[placeSh],fun _ _=>rfl,qP _,b.symm⟩
 | [],_,_,_:: _,_,_,_,_,_,_,_,b,_,_,_=>by cases b
 | .val t::r,_,_,[],_,_,_,_,_,_,_,b,_,_,_=>by cases b
 | .own t e::r,_,_,[],_,_,_,_,_,_,_,b,_,_,_=>by cases b
 | .ownR t e d::r,_,_,[],_,_,_,_,_,_,_,b,_,_,_=>by cases b
 | .fix k::r,_,_,[],_,_,_,_,_,_,_,b,_,_,_=>by cases b
 | .fixB k::r,_,_,[],_,_,_,_,_,_,_,b,_,_,_=>by cases b
 | .fix k::u,T,tl,d::cs,vs,p,st,BX,a,c,⟨v,I,e,G,H⟩,b,t,s,o=>by
  simp only[V9]at b;obtain⟨r,b⟩:=D8 b;have D:L9 (.fix k::u) (d::cs)=L9 u cs:=by cases d<;>rfl
  rw[D]at t s⊢;obtain⟨BX',x,y,z,i,n,A⟩:=Pd l f c H b t s (fun j F=>o j (qK _ F));subst e;have g:=o _ rG k rfl;cases d with
  |row j=>
   have:=qD r;subst this;refine⟨BX',x,⟨v,I,rfl, ?_,y⟩,fun q h=> ?_,i,n,A⟩
   . show v=BX' j;rw[i j g.1,g.2];exact G
   . rcases qS.1 h with rfl|h
     . exact rC g.1 n
     . exact z q h
  | _=>cases r
 | .fixB k::x,T,tl,d::cs,vs,p,st,BX,a,c,⟨v,O,e,M,N⟩,b,t,s,r=>by
  simp only[V9]at b;obtain⟨g,b⟩:=D8 b;have H:L9 (.fixB k::x) (d::cs)=L9 x cs:=by cases d<;>rfl
  rw[H]at t s⊢;obtain⟨BX',z,A,D,n,o,F⟩:=Pd l f c N b t s (fun j I=>r j (qK _ I));subst e;have h:=r _ rG k rfl;cases d with
  |box j u=>
   cases u with
   |succ u=>cases g
   |zero=>
   have:=qD g;subst this;refine⟨BX',z,⟨v,O,rfl, ?_,A⟩,fun q i=> ?_,n,o,F⟩
   . obtain⟨y,G,J⟩:=M;exact⟨y,by rw[n j h.1,h.2];exact G,J⟩
   . rcases qS.1 i with rfl|i
     . exact rC h.1 o
     . exact D q i
  | _=>cases g
 | .val I::r,T,tl,d::cs,vs,p,st,BX,a,c,⟨v,J,e,A,D⟩,h,i,g,x=>by
  simp only[V9,bind_some,qJ]at h;obtain⟨M,F,N,G,rfl⟩:=h;have y:L9 (.val I::r) (d::cs)=L9 r cs:=by cases d<;>rfl
  rw[y]at i g⊢;obtain⟨BX',j,n,o,s,t,u⟩:=Pd l f c D G i g (fun H z=>x H (qK _ z));subst e;refine⟨BX',j,⟨v,J,rfl,B0l (aK A F),n⟩,fun q b=> ?_,s,t,u⟩;rcases qS.1 b with rfl|b
  . exact A7a
  . exact o q b
 | .ownR t i j::r,T,tl,G::cs,vs,p,st,BX,a,c,⟨v,ag,e,a9,ab⟩,F,u,A,a3=>by
  simp only[V9,bind_some,qJ]at F;obtain⟨x,a5,ai,ac,rfl⟩:=F;subst e;obtain⟨ae,aa,O,af⟩:=jC f a9 a5;have ad:∃h,Gz za w0 st2 E w Z B h (st.newL (.rows t i j x [] none)) (upd BX st.nx v)/\(∀q∈L9 r cs,q∉h)/\(L9 r cs).Nodup/\(∀q,q∈L9 (.ownR t i j::r) (G::cs)++a↔q∈L9 r cs++h):=by
   have mk:∀h,(∀q∈a,q∈h)->(∀b,A8 w v (.rows t i j x [] none) b->∃q,q∈h/\A8 w (B q) (st2.L q) b)->(∀k b,A8 w v (.rows t i j x [] none) b->¬A8 w (BX k) (st.L k) b)->Gz za w0 st2 E w Z B h (st.newL (.rows t i j x [] none)) (upd BX st.nx v):=by
    intro h a7 s a2;refine⟨c.rel.new (v:=v) (lc:= .rows t i j x [] none) (Aw.rl (by rw[B9];exact ae) fun b d=>by rw[B9]at d;exact⟨.inl ⟨c.rel.nms.2,(O b d).2.1⟩,(O b d).1,(O b d).2.2⟩) a2 (fun p F=>by cases F) aa (fun b _ _=>by rw[l];exact rH _),fun o b g=> ?_⟩;rw[St.L_newL]at g;by_cases M:o=st.nx
    . subst M;rw[B9,qL rfl]at g;exact s b g
    . rw[qH M,C4 _ _ _ _ M]at g;obtain⟨q,H,I⟩:=c.own o b g;exact⟨q,a7 q H,I⟩
   rcases af with⟨q,rfl,ah,U⟩ | ⟨V,a6⟩
   . have J:L9 (.ownR t i j::r) (.row q::cs)=q::L9 r cs:=rfl;rw[J]at u A⊢;have D:=sI.1 A;refine⟨q::a,mk _ (fun y n=>qK _ n) (fun b d=>⟨q,by simp,U b d⟩) (fun k b d=> ?_),fun y n=> ?_,D.2,fun y=>by grind⟩
     . exact c.disj f (u q (by simp)) k b (U b d)
     . intro N;rcases qS.1 N with rfl|N
       . exact D.1 n
       . exact u y (qK _ n) N
   . have J:L9 (.ownR t i j::r) (G::cs)=L9 r cs:=by cases G<;>first|rfl|exact absurd rfl (a6 _)
     rw[J]at u A⊢;exact⟨a,mk _ (fun y n=>n) (fun b d=>absurd d (V b)) (fun k b d=>absurd d (V b)),u,A,fun y=>xL⟩
  obtain⟨h,W,a8,D,a4⟩:=ad;obtain⟨BX',P,X,Y,Q,R,a0⟩:=Pd l f W ab ac a8 D (fun o g k z=>by
   obtain⟨d,b⟩:=a3 o (qK _ g) k z;exact⟨uG d,(C4 _ _ _ _ (tV d)).trans b⟩)
  have a1:BX' st.nx=v:=by rw[Q st.nx (rK _),B9]
  refine⟨BX',⟨P.rel,fun o b g=> ?_⟩,⟨v,ag,rfl,a1.symm,X⟩,fun q s=> ?_,fun k z=> ?_,qV (uS _) R,a0⟩
  . obtain⟨q,H,I⟩:=P.own o b g;exact⟨q,(a4 q).2 H,I⟩
  . rcases qS.1 s with rfl|s
    . exact rC (rK _) R
    . exact Y q s
  . rw[Q k (uG z),C4 _ _ _ _ (tV z)]
 | .own t i::r,T,tl,D::cs,vs,p,st,BX,a,c,⟨v,ai,e,aa,ac⟩,U,s,y,a4=>by
  simp only[V9,bind_some,qJ]at U;obtain⟨M,a6,am,ad,rfl⟩:=U;subst e;obtain⟨aj,A,af,ag,ah⟩:=KR f aa a6;have ab:v.oneCell'=true:=by rcases A.2 with⟨V,_⟩ | ⟨_,_,_,V,_⟩<;>rw[V]<;>rfl
  have ak:=E1 A;have ae:∃h,Gz za w0 st2 E w Z B h (st.newL (.row t i M)) (upd BX st.nx v)/\(∀q∈L9 r cs,q∉h)/\(L9 r cs).Nodup/\(∀q,q∈L9 (.own t i::r) (D::cs)++a↔q∈L9 r cs++h):=by
   have mk:∀h,(∀q∈a,q∈h)->(∀b,root v=some b->∃q,q∈h/\A8 w (B q) (st2.L q) b)->(∀k b,root v=some b->¬A8 w (BX k) (st.L k) b)->Gz za w0 st2 E w Z B h (st.newL (.row t i M)) (upd BX st.nx v):=by
    intro h a8 o a3;refine⟨c.rel.new (v:=v) (lc:= .row t i M) ⟨aj,by rw[B9];exact Jt A (rH _),af,fun b d=>by rw[B9]at d;exact⟨.inl ⟨c.rel.nms.2,(World.ownsRow.lt A b d).1⟩,ag b d⟩⟩ a3 trivial ab (fun b _ _=>by rw[l];exact rH _),fun n b g=> ?_⟩;rw[St.L_newL]at g;by_cases I:n=st.nx
    . subst I;rw[B9,qL rfl]at g;exact o b g
    . rw[qH I,C4 _ _ _ _ I]at g;obtain⟨q,F,G⟩:=c.own n b g;exact⟨q,a8 q F,G⟩
   rcases ah with⟨q,rfl,Q,W⟩ | ⟨R,a7⟩
   . have H:L9 (.own t i::r) (.row q::cs)=q::L9 r cs:=rfl;rw[H]at s y⊢;have z:=sI.1 y;refine⟨q::a,mk _ (fun x j=>qK _ j) (fun b d=>⟨q,by simp,A8.of Q (by rw[<-W];exact d)⟩) (fun k b d=> ?_),fun x j=> ?_,z.2,fun x=>by grind⟩
     . rw[W]at d;exact c.disj f (s q (by simp)) k b (A8.of Q d)
     . intro J;rcases qS.1 J with rfl|J
       . exact z.1 j
       . exact s x (qK _ j) J
   . have H:L9 (.own t i::r) (D::cs)=L9 r cs:=by cases D<;>first|rfl|exact absurd rfl (a7 _)
     rw[H]at s y⊢;exact⟨a,mk _ (fun x j=>j) (fun b d=>by rw[R]at d;cases d) (fun k b d=>by rw[R]at d;cases d),s,y,fun x=>xL⟩
  obtain⟨h,X,a9,z,a5⟩:=ae;obtain⟨BX',N,Y,a0,O,P,a1⟩:=Pd l f X ac ad a9 z (fun n g k u=>by
   obtain⟨d,b⟩:=a4 n (qK _ g) k u;exact⟨uG d,(C4 _ _ _ _ (tV d)).trans b⟩)
  have a2:BX' st.nx=v:=by rw[O st.nx (rK _),B9]
  refine⟨BX',⟨N.rel,fun n b g=> ?_⟩,⟨v,ai,rfl,a2.symm,Y⟩,fun q o=> ?_,fun k u=> ?_,qV (uS _) P,a1⟩
  . obtain⟨q,F,G⟩:=N.own n b g;exact⟨q,(a5 q).2 F,G⟩
  . rcases qS.1 o with rfl|o
    . exact rC (rK _) P
    . exact a0 q o
  . rw[O k (uG u),C4 _ _ _ _ (tV u)]
end
section
variable {za:Zn} {w0 w:World} {Z:Nat->Prop} {B:Nat->Value} {st st0 st2:St} {E:G5}
def PP (E:G5):List (Nat×Bool×List Su)->List Value->List Value->Prop
 | [],b,a=>b=a
 | (s,b,shs)::l,f,d=>∃a c,f=a++c/\a.length=shs.length/\(b=true->E s= .agg a.toArray)/\(b=false->a= [E s])/\PP E l c d
def ZZ (za:Zn) (w0:World) (w:World) (Z:Nat->Prop) (B:Nat->Value) (st2:St):List (Nat×TypeId×List Su)->List Value->Prop
 | [],a=>a= []
 | (k,T,shs)::l,d=>∃a c,d=a++c/\a.length=shs.length/\live (st2.L k)/\(∃b,B k= .pointer (some ⟨b,0,none⟩)/\up za w0 k b/\¬Z b/\IT w b a.toArray T)/\ZZ za w0 w Z B st2 l c
def XQ (f:C2 za w0 st2 E w Z B):∀ {l:List (Nat×Bool×List Su)} {r cs:List C} {b:List Value},Cb w Z B r b->aU st2 l r=some cs->∃vs,Cb w Z B cs vs/\PP E l vs b
 | [],r,cs,b,a,h=>by cases h;exact⟨b,a,rfl⟩
 | (s,z,shs)::l,r,cs,b,x,h=>by
  simp only[aU]at h;split at h
  . rename_i n o y;obtain⟨c,h⟩:=D8 h;simp only[qJ]at h;obtain⟨A,t,rfl⟩:=h;simp only[qC,g0y]at c;obtain⟨u,c⟩:=c;subst u;have j:=qD c;obtain⟨d,g,i⟩:=XQ f x t;have a:=f.slots s;rw[y]at a;cases n with
    |true=>
     obtain⟨k,e,a⟩:=a;exact⟨k++d,a.append g,k,d,rfl,by rw[<-j,a.len],fun _=>e,fun v=>(by cases v),i⟩
    |false=>
     have a:Cb w Z B o [E s]:=a;exact⟨[E s]++d,a.append g,[E s],d,rfl,by rw[<-j,a.len],fun k=>(by cases k),fun _=>rfl,i⟩
  . cases h
def XP (b:C2 za w0 st2 E w Z B):∀ {l:List (Nat×TypeId×List Su)} {cs:List C},aT st2 l=some cs->∃vs,Cb w Z B cs vs/\ZZ za w0 w Z B st2 l vs
 | [],cs,h=>by cases h;exact⟨[],rfl,rfl⟩
 | (v,T,shs)::l,cs,h=>by
  simp only[aT]at h;split at h
  . rename_i T' x f;obtain⟨a,h⟩:=D8 h;simp only[qJ]at h;obtain⟨y,j,rfl⟩:=h;simp only[qC]at a;have t:=qD a.1;subst t;have u:=qD a.2;obtain⟨g,k,n⟩:=XP b j;have d:=b.locs v;rw[f]at d;obtain⟨i,vs,e,o,r,s,c⟩:=d;exact⟨vs.toList++g,c.append k,vs.toList,g,rfl,by rw[<-u,c.len],by rw[f];trivial,⟨i,e,o,r,by simpa using s⟩,n⟩
  . cases h
def YU {k:Nat} {t:Ty} {e e':TypeId} {x:List t.den×List Nat} (a:mF st2 t e e' k=some x):st2.L k= .nest t e e' x.1 [] x.2:=by
 unfold mF at a;split at a
 . rename_i j f g i h d;split at a
   . rename_i c;subst c;obtain⟨b,a⟩:=D8 a;cases a;simp only[qC]at b;rw[d,qD b.1,qD b.2]
   . cases a
 . cases a
def RR {k q:Nat} {c f:Bool} {d g:Ty} {x:(LT.itM c d f g q).den} (a:mB st2 k (.itM c d f g q)=some x):∃cur,st2.L k= .itM c d f g x.1 x.2 cur q/\q<k:=by
 simp only[mB]at a;split at a
 . rename_i l n r s j left cur o i;obtain⟨b,a⟩:=D8 a;simp only[qC]at b;split at a
   . rename_i h;cases h;cases a;have:=qD b.1;subst this;exact⟨cur,i,qN b.2⟩
   . cases a
 . cases a
def YK {k q:Nat} {t:LT} {x:t.den} (b:mB st2 k t=some x) (a:t.need=some q):q<k:=by
 cases t with
 |itM c d g h f=>cases a;exact(RR b).choose_spec.2
 | _=>cases a
def GN (b:C2 za w0 st2 E w Z B) {k:Nat} {t:LT} {x:t.den} (a:mB st2 k t=some x):live (st2.L k)/\RL (up za w0 k) w Z B k (t.lc x)/\t.wf x:=by
 cases t with
 |row t e=>
  have d:=Hk a;have c:=b.locs k;rw[d]at c;refine⟨by rw[d];trivial,c, ?_⟩;obtain⟨h,f,g,_⟩:=c;exact C5.wf (Ba (Z:=fun _=>True) f (g.mono fun _ _=>C5.mono (fun _ _=>trivial) (fun _ _=>rfl)) (fun _ _=>trivial))
 |map n o r s=>
  have d:=OX a;have c:=b.locs k;rw[d]at c;refine⟨by rw[d];trivial,c, ?_⟩;obtain⟨i,l,j,e,_,_,f,h,g⟩:=c;exact C5.wf (bQ (Z:=fun _=>True) f h (g.mono (fun _ _=>trivial) (fun _ _=>rfl)) trivial)
 |rows t e o=>
  obtain⟨al,d⟩:=W0 a;have f:=b.locs k;have c:=f;rw[d]at c;have c:=c.rowsR;refine⟨by rw[d];trivial,c.rl fun j l=> ?_,c.wf⟩;have n:A8 w (B k) (st2.L k) j:=by rw[d];exact(T1 fun _ _=>rfl).1 l
  obtain⟨g,h,i⟩:=f.root n;exact⟨g,i,h⟩
 |iter J N P R=>
  simp only[mB]at a;cases d:st2.L k with
  |iter M O Q T I H=>
   rw[d]at a;simp only at a;split at a
   . rename_i D;cases D;cases a;have l:=b.locs k;rw[d]at l;obtain⟨G,e,z,A,j⟩:=l;refine⟨trivial,⟨G,e,z,A,j.imp (fun h=>⟨h.1,h.2.1,rfl⟩) fun⟨m,seen,i,g,n,o,r,s,f,F⟩=>⟨m,seen,i,g,n,o,r,s,f,fun x c=>by cases c⟩⟩, ?_⟩;rcases j with⟨_,h,_⟩ | ⟨m,seen,i,g,n,o,r,s,f,F⟩
     . rw[h];intro x c;cases c
     . intro x c;obtain⟨m,_,u,v⟩:=R4.mem f c;exact⟨S0.wf' (fun _ _=>C5.wf) u,S0.wf' (fun _ _=>C5.wf) v⟩
   . cases a
  | _=>rw[d]at a;cases a
 |nest t e h=>
  have d:=YU a;have c:=b.locs k;rw[d]at c;refine⟨by rw[d];trivial,c, ?_⟩;obtain⟨l,g,_⟩:=c;rcases g.own.2 with⟨_,j⟩ | ⟨_,_,_,_,_,_,i,f,_⟩
  . show x.1.length<= _;omega
  . show x.1.length<= _;simp only[maxLen]at f;omega
 |itM D F G H q=>
  obtain⟨A,f,_⟩:=RR a;have d:=b.locs k;rw[f]at d;obtain⟨z,m,seen,j,g,h,i,c,o,r,s,u⟩:=d;refine⟨by rw[f];trivial,⟨z,m,seen,j,g,h,i,⟨c.it,c.mp,c.ok,c.all,c.rest,fun x v=>(by cases v)⟩,o,r,s,u⟩,fun y hy=> ?_⟩;obtain⟨m,_,l,n⟩:=R4.mem c.rest hy;exact⟨S0.wf' (fun _ _=>C5.wf) l,S0.wf' (fun _ _=>C5.wf) n⟩
def RL.setB {U:Nat->Prop} {B':Nat->Value} {k:Nat} {t:LT} {x:t.den} (h:RL U w Z B k (t.lc x)) (e:B' k=B k) (d:∀q,t.need=some q->B' q=B q):RL U w Z B' k (t.lc x):=by
 cases t with
 |nest t g i=>
  obtain⟨f,a,b⟩:=h;exact⟨f,⟨by rw[e];exact a.own,fun p c=>(by cases c),a.elt,a.dis,by rw[e];exact a.top⟩,by rw[e];exact b⟩
 |itM i j l n q=>
  obtain⟨r,m,seen,f,a,b,c,g⟩:=h;exact⟨r,m,seen,f,a,e.trans b,(d q rfl).trans c,g⟩
 |row t g=>obtain⟨f,a,b,c⟩:=h;exact⟨f,by rw[e];exact a,b,by rw[e];exact c⟩
 |map g i j l=>obtain⟨b,f,c,a,r⟩:=h;exact⟨b,f,c,e.trans a,r⟩
 |iter c f g i=>obtain⟨r,a,b⟩:=h;exact⟨r,e.trans a,b⟩
 |rows t l n=>
  obtain⟨j,a,⟨o,b,c⟩,f,g⟩:=h;exact⟨j,by rw[e];exact a,⟨fun p i=>(by cases i),b,c⟩,by rw[e];exact f,by rw[e];exact g⟩
def B0b (c:C2 za w0 st2 E w Z B) {k b:Nat} {t:LT} {x:t.den} (a:mB st2 k t=some x) (h:A8 w (B k) (t.lc x) b):A8 w (B k) (st2.L k) b:=by
 cases t with
 |row t e=>exact A8.of (GN c a).1 h
 |map d f g i=>exact A8.of (GN c a).1 h
 |iter d f g i=>exact A8.of (GN c a).1 h
 |rows t e f=>
  obtain⟨al,d⟩:=W0 a;rw[d];exact(T1 fun _ _=>rfl).1 h
 |nest t e d=>rw[YU a];exact h
 |itM g i j l q=>obtain⟨f,d,_⟩:=RR a;rw[d];exact h
def TP (d:C2 za w0 st2 E w Z B) {BX:Nat->Value} {n0:Nat} (s:∀k,k<n0->BX k=B k):∀ {l:List (Nat×LT)} {x:iZ l} {st:St} {c:List Nat},Gz za w0 st2 E w Z B c st BX->n0<=st.nx->A2d st2 l=some x->(∀y∈l,y.1<n0)->(∀y∈l,y.1∉c)->(l.map fun y=>y.1).Nodup->
 Gz za w0 st2 E w Z B ((l.map fun y=>y.1)++c) (putRows l x st) BX/\(putRows l x st).nx=st.nx
 | [],_,st,c,a,_,_,_,_,_=>⟨a,rfl⟩
 | (k,t)::Q,x,st,c,o,H,n,G,I,v=>by
  simp only[A2d,bind_some,qJ]at n;obtain⟨l,i,R,O,rfl⟩:=n;have h:=G (k,t) (by simp);have F:=I (k,t) (by simp);simp only at h F;obtain⟨P,J,_⟩:=GN d i;have D:BX k=B k:=s k h;simp only[rW,sI]at v;have u:∀b,A8 w (BX k) (t.lc l) b->A8 w (B k) (st2.L k) b:=fun b f=>B0b d i (by rw[<-D];exact f)
  have c1:Gz za w0 st2 E w Z B (k::c) (st.setL k (t.lc l)) BX:=by
   refine⟨o.rel.addL (by omega) (J.setB D fun q N=>s q (Nat.lt_trans (YK i N) h)) (fun j b _ f a=> ?_) (by cases t<;>first|trivial|exact fun p n=>(by cases n) |exact rC (Nat.lt_trans (YK i rfl) h) H) (fun b hk f=>d.mrk.2 k b hk (u b f)),fun j b a=> ?_⟩
   . exact o.disj d F j b (u b f) a
   . rw[St.L_setL]at a;by_cases g:j=k
     . subst g;rw[qL rfl]at a;exact⟨j,by simp,u b a⟩
     . rw[qH g]at a;obtain⟨q,A,r⟩:=o.own j b a;exact⟨q,qK _ A,r⟩
  obtain⟨z,M⟩:=TP d s c1 H O (fun y hy=>G y (qK _ hy)) (fun y hy=>by
   intro g;rcases qS.1 g with g|g
   . exact v.1 (g▸vN hy)
   . exact I y (qK _ hy) g) v.2
  refine⟨⟨z.rel,fun j b a=> ?_⟩,M⟩;obtain⟨q,A,r⟩:=z.own j b a;refine⟨q, ?_,r⟩;simp only[rW];grind
def pP {BX:Nat->Value} :∀ {l:List (Nat×Bool×List Su)} {cs:List C} {vs d:List Value} {st:St} {b:List Nat},Gz za w0 st2 E w Z B b st BX->Cb w Z BX cs vs->PP E l vs d->(∀c∈cs,Bl st.nx c)->
 Gz za w0 st2 E w Z B b (putS l cs st).2 BX/\Cb w Z BX (putS l cs st).1 d/\(∀c∈(putS l cs st).1,Bl st.nx c)/\(putS l cs st).2.nx=st.nx
 | [],cs,vs,d,st,b,c,a,g,f=>by rw[show vs=d from g]at a;exact⟨c,a,f,rfl⟩
 | (s,f,shs)::l,cs,vs,d,st,b,c,j,⟨t,u,e,h,n,o,r⟩,i=>by
  subst e;have a:=j.take shs.length;have g:=j.drop shs.length;rw[<-h,g2s]at a;rw[<-h,g2q]at g;rw[h]at a g;have k:RS w Z BX ⟨f,cs.take shs.length⟩ (E s):=by
   cases f with
   |true=>exact⟨t,n rfl,a⟩
   |false=>rw[o rfl]at a;exact a
  have c1:Gz za w0 st2 E w Z B b (st.setS s (.one ⟨f,cs.take shs.length⟩)) BX:=⟨c.rel.setSame s k (fun x hx=>i x (sB hx)),c.own⟩;have:=pP (l:=l) (cs:=cs.drop shs.length) c1 g r (fun x hx=>i x (vG hx));exact this
def pO (g:C2 za w0 st2 E w Z B) {BX:Nat->Value} {n0:Nat} (s:∀k,k<n0->BX k=B k):∀ {l:List (Nat×TypeId×List Su)} {cs:List C} {vs:List Value} {st:St} {f:List Nat},Gz za w0 st2 E w Z B f st BX->n0<=st.nx->Cb w Z BX cs vs->ZZ za w0 w Z B st2 l vs->(∀c∈cs,Bl st.nx c)->(∀y∈l,y.1<n0)->(∀y∈l,y.1∉f)->(l.map fun y=>y.1).Nodup->
 C2 za w0 (putB l cs st) E w Z BX
 | [],_,_,st,f,c,_,_,_,_,_,_,_=>c.rel
 | (k,T,shs)::l,cs,vs,st,f,c,Q,F,⟨W,X,e,i,P,⟨H,I,M,R,N⟩,U⟩,u,D,G,n=>by
  subst e;have b:=F.take shs.length;have d:=F.drop shs.length;rw[<-i,g2s]at b;rw[<-i,g2q]at d;rw[i]at b d;have z:=D (k,T,shs) (by simp);have A:=G (k,T,shs) (by simp);simp only at z A;have t:BX k=B k:=s k z;simp only[rW,sI]at n;have h:∀q,A8 w (BX k) (.box T (cs.take shs.length)) q->A8 w (B k) (st2.L k) q:=fun q o=>A8.of P (by rw[<-t];exact o)
  have c1:Gz za w0 st2 E w Z B (k::f) (st.setL k (.box T (cs.take shs.length))) BX:=by
   refine⟨c.rel.addL (by omega) ⟨H,W.toArray,t.trans I,M,R,N,by simpa using b⟩ (fun j q _ o a=> ?_) (fun x r=>u x (sB r)) (fun q O J=>g.mrk.2 k q O (h q J)),fun j q a=> ?_⟩
   . exact c.disj g A j q (h q o) a
   . rw[St.L_setL]at a;by_cases v:j=k
     . subst v;rw[qL rfl]at a;exact⟨j,by simp,h q a⟩
     . rw[qH v]at a;obtain⟨V,b,d⟩:=c.own j q a;exact⟨V,qK _ b,d⟩
  have:=pO (l:=l) (cs:=cs.drop shs.length) g s c1 Q d U (fun x r=>u x (vG r)) (fun y hy=>D y (qK _ hy)) (fun y hy=>by
   intro a;rcases qS.1 a with a|a
   . exact n.1 (a▸vN hy)
   . exact G y (qK _ hy) a) n.2
  exact this
def Ja (a:C2 za w0 st2 E w Z B):∀ {shs:List Su} {T:Type} {tl:T} {q:T->Prop} {cs:List C} {vs:List Value} {p:shD shs T},q tl->Cb w Z B cs vs->V9 st2 shs tl cs=some p->shW shs q p
 | [],_,tl,q,[],vs,p,c,_,b=>by simp only[V9,rA]at b;subst b;exact c
 | [],_,_,_,_:: _,_,_,_,_,b=>by cases b
 | .val t::r,_,_,_,[],_,_,_,_,b=>by cases b
 | .own t e::r,_,_,_,[],_,_,_,_,b=>by cases b
 | .ownR t e c::r,_,_,_,[],_,_,_,_,b=>by cases b
 | .fix k::r,_,_,_,[],_,_,_,_,b=>by cases b
 | .fixB k::r,_,_,_,[],_,_,_,_,b=>by cases b
 | .fixB k::r,_,tl,q,f::cs,vs,p,d,⟨v,h,_,g,c⟩,b=>by
  simp only[V9]at b;exact Ja (shs:=r) a d c (D8 b).2
 | .fix k::r,_,tl,q,f::cs,vs,p,d,⟨v,h,_,g,c⟩,b=>by
  simp only[V9]at b;exact Ja (shs:=r) a d c (D8 b).2
 | .val t::r,_,tl,q,i::cs,vs,p,f,⟨v,j,e,c,d⟩,b=>by
  simp only[V9,bind_some,qJ]at b;obtain⟨y,g,z,h,rfl⟩:=b;exact⟨C5.wf (aK c g),Ja a f d h⟩
 | .own t e::r,_,tl,q,k::cs,vs,p,g,⟨v,n,_,c,d⟩,b=>by
  simp only[V9,bind_some,qJ]at b;obtain⟨l,f,z,h,rfl⟩:=b;obtain⟨o,i,j,_⟩:=KR a c f;exact⟨C5.wf (Ba (Z:=fun _=>True) i (j.mono fun _ _=>C5.mono (fun _ _=>trivial) (fun _ _=>rfl)) (fun _ _=>trivial)),Ja a g d h⟩
 | .ownR t e j::r,_,tl,q,i::cs,vs,p,g,⟨v,k,_,c,d⟩,b=>by
  simp only[V9,bind_some,qJ]at b;obtain⟨l,f,z,h,rfl⟩:=b;exact⟨Aw.wf (jC a c f).1,Ja a g d h⟩
def pV (a:C2 za w0 st2 E w Z B):∀ {l:List (Nat×LT)} {x:iZ l},A2d st2 l=some x->B4v l x
 | [],_,_=>trivial
 | (k,t)::r,x,b=>by
  simp only[A2d,bind_some,qJ]at b;obtain⟨l,c,z,d,rfl⟩:=b;exact⟨(GN a c).2.2,pV a d⟩
def oX {A:CG} {p:A.den} {o:St} (F:za.b0=0) (h:C2 za w0 st E w Z B) (g:gath A st=some (o,p)) (ab:A8x za.n st0) (a0:∀s∈A.keepS,o.eS s=st0.eS s) (X:∀k∈A.keepL,o.eL k=st0.eL k) (Y:∀y∈A.rowL,y.1<st0.nx) (W:o.fr=st0.fr):
 A.wf p/\∃Z' B',C2 za w0 (reflect A st0 p) E w Z' B':=by
 simp only[gath,qG,bind_some]at g;obtain⟨u,_,cs,j,tl,I,af,G,g⟩:=g;obtain⟨f,g⟩:=D8 g;cases g;simp only[qC,tO]at f;obtain⟨f,a5⟩:=f;obtain⟨Z0,V⟩:=h.plugL F (l:=A.rowL);obtain⟨Z1,d⟩:=C2.settleSh (shs:=A.shs) (cs:=u) V;generalize settleSh (plugL A.rowL st) A.shs u=st2 at*;have f:=Hf f;simp only[CG.cells,bind_some]at j;obtain⟨ac,a4,j⟩:=j;obtain⟨ag,a2,a3⟩:=XP d a4;obtain⟨ah,H,a6⟩:=XQ d a2 j;refine⟨Ja d (pV d I) H G, ?_⟩;have O:=B3g d ab a0 X W;have D:∀y∈A.rowL,y.1<A2r A.boxL st0.nx:=fun y b=>rC (Y y b) (Lw _ _)
 rw[tJ]at f;obtain⟨ae,J,r⟩:=f;rw[tJ]at J;obtain⟨a7,M,N⟩:=J;rw[tJ]at M;obtain⟨a8,a9,aa⟩:=M;obtain⟨BX,P,Q,R,T,v,U⟩:=Pd F d O H G (fun q hq hk=>r q hk q (by simp[hq]) rfl) a7 (fun c hc k hk=>by
  have:=a5 _ hc;cases c with
  |fix ad=>
   cases hk;simp only[A5a,xM]at this;obtain⟨y,b,a1⟩:=this;have:=qD a1;subst this;exact⟨D y b,rfl⟩
  |fixB ad=>
   cases hk;simp only[A5a,xM]at this;obtain⟨y,b,a1⟩:=this;have:=qD a1;subst this;exact⟨UH y b,rfl⟩
  | _=>cases hk)
 have z:∀k,k<A2r A.boxL st0.nx->BX k=B k:=T;have t:=TP d z (x:=(placeSh A.shs p (kept A st0)).2.2) P v (by rw[U];exact I) D (fun y b a=>by
  rcases qZ.1 a with a|a
  . exact N y.1 a y.1 (by simp only[qZ,tU];exact .inl ⟨y,b,rfl⟩) rfl
  . exact r y.1 a y.1 (by simp only[qZ,tU];exact .inr (.inl ⟨y,b,rfl⟩)) rfl) a8
 have i:=pP (l:=A.modS) t.1 Q a6 (by rw[t.2];exact R);refine⟨Z1,BX, ?_⟩;exact pO d z i.1 (by rw[i.2.2.2,t.2];exact v) i.2.1 a3 (by rw[i.2.2.2];exact i.2.2.1) (fun y b=>UH y b) (fun y b a=>by
  rcases qZ.1 a with a|a
  . exact aa y.1 a y.1 (vN b) rfl
  . rcases qZ.1 a with a|a
    . exact N y.1 a y.1 (by simp only[qZ,tU];exact .inr ⟨y,b,rfl⟩) rfl
    . exact r y.1 a y.1 (by simp only[qZ,tU];exact .inr (.inr ⟨y,b,rfl⟩)) rfl) a9
end
def addA (a:St) (d:Tmp) (lc:LC) (mk:Nat->C):St:=(a.newL lc).setS d (one1 (mk a.nx))
def IX (cx:Cx) (a:St) (d:Tmp):Op->Option (Option Prop×LC×(Nat->C))
 | .alloc T=>do
  let ti<-cx.ti T
  some (none, .box T (Ym ti.ty),fun k=> .box k 0)
 | .makeSlice T c b=>do
  let ti<-cx.ti T
  let t<-slT ti.ty
  let l<-bJ a c
  let c<-bJ a b
  bif ti.nest.any (Nat.beq d)then do
   let a<-cx.ti ti.elem
   bif HE t then some (some (0<=l/\l<=c/\(ti.bytes:Int)*c<=281474976710656/\c<=9223372036854775807), .nest t ti.elem a.elem (List.replicate l.toNat t.dflt) [] (Mx t l.toNat), .row)else none
  else bif !ti.rows&&Ol t then some (some (0<=l/\l<=c/\(ti.bytes:Int)*c<=281474976710656/\c<=9223372036854775807), .row t ti.elem (List.replicate l.toNat t.dflt), .row)else none
 | _=>none
def A3p (lc:LC) (mk:Nat->C) (X:Obj) (f:Nat->Value):Prop:=
 ∀(d:Zn) (c w:World) (a:St) (E:G5) (Z:Nat->Prop) (B:Nat->Value) (h b:Nat),C2 d c a E w Z B->w.heap[b]? =some X->c.heap.size<=b->¬Z b->(∀k,¬A8 w (B k) (a.L k) b)->d.b0<=b->
  C2 d c (addA a h lc mk) (upd E h (f b)) w Z (upd B a.nx (f b))/\∀g,A8 w (f b) lc g->g=b
section
variable {za:Zn} {w0 w w':World} {st:St} {E:G5} {Z:Nat->Prop} {B:Nat->Value} {cx:Cx} {d:Tmp} {φ:Option Prop}
def C3.addA (st:St) (d:Tmp) (lc:LC) (mk:Nat->C):C3 st (addA st d lc mk):=(C3.newL _ _).trans (C3.setS _ _ _)
def A7e {a b e sz n c:Nat} {cs:Array Value} (h:w.heap[b]? =some (.cells cs e (0,0))) (g:a<=b) (d:cs.size=c*sz) (f:n<=c) (i:c<=maxLen):w.ownsRow a e sz (.slice (some ⟨b,0,none⟩) n c) n (cs.toList.take (n*sz)):=by
 refine⟨?_, .inr ⟨b,c,cs,rfl,g,h,f,i,d,rfl⟩⟩;rw[qY,sK,d];exact sY (rJ _ f)
def A0i {op:Op} {lc:LC} {mk:Nat->C} (h:C2 za w0 st E w Z B) (U:F8 cx.P cx.tys=true) (a:IX cx st d op=some (φ,lc,mk)) (Y:GT φ):
 ∃(X:Obj) (f:Nat->Value),(∀ty w',Gw.E5 cx.P E ty op w' (f w'.heap.size) (w'.alloc X))/\A3p lc mk X f:=by
 unfold IX at a;split at a
 . simp only[qG,bind_some]at a;obtain⟨ti,I,a⟩:=a;cases a;obtain⟨z,J,k⟩:=Eg (K3 (B8 U I)).2.2;rename_i T;refine⟨.cells z.cells T,fun b=> .pointer (some ⟨b,0,none⟩),fun ty w'=>A0c J,fun za w0 w st E Z B d b h i o A y s=> ?_⟩;have F:=Be (w:=w) (Z:=Z) (B:=B) (n:=st.nx) (Cn ti.ty);have G:∀c,A8 w (.pointer (some ⟨b,0,none⟩)) (.box T (Ym ti.ty)) c->c=b:=fun c g=>by
    simp only[A8,root,rA]at g;exact g.symm
   have a7:=h.new (v:= .pointer (some ⟨b,0,none⟩)) (lc:= .box T (Ym ti.ty)) ⟨b,z.cells,B9 _ _ _, .inl ⟨h.nms.2,o⟩,A,i,
    Cb.mono (n:=st.nx) (fun _=>id) (fun _ _=>rfl) (fun a0 aa=>C4 _ _ _ _ (tV aa)) F.2 (by rw[k];exact F.1)⟩
    (fun a0 c g u=>y a0 (G c g▸u)) (fun c g=>(F.2 c g).le (uS _)) rfl (fun c _ g=>by rw[G c g];exact s)
   refine⟨a7.setS d (x:=one1 (.box st.nx 0)) ⟨_,[],rfl,⟨b,B9 _ _ _,rfl⟩,rfl⟩ (fun c g=> ?_),G⟩;simp at g;subst g;exact rK _
 . rename_i T ai a4;simp only[qG,bind_some]at a;obtain⟨ti,I,t,H,l,ab,c,g,a⟩:=a;have H:=Hp H;have a1:∀ {φ':Option Prop},GT (some (0<=l/\l<=c/\(ti.bytes:Int)*c<=281474976710656/\c<=9223372036854775807))->∃z:Value,z.cells.toList=Cn t/\z.cells.size=t.size/\l.toNat<=c.toNat/\c.toNat<=maxLen/\∀ty w',Gw.E5 cx.P E ty (.makeSlice T ai a4) w' (.slice (some ⟨w'.heap.size,0,none⟩) l.toNat c.toNat) (w'.alloc (.cells (madeCells z.cells (c.toNat*t.size)) ti.elem)):=by
    intro _ ⟨D,M,N,O⟩;obtain⟨a5,z,a2,Q,J,W,k,a3,i,a9⟩:=Et (B8 U I) H;obtain⟨a6,j,_⟩:=h.int (E9 E) ab;obtain⟨a8,r,_⟩:=h.int (E9 E) g;refine⟨z,k,a3,by omega,by simp only[maxLen];omega,fun ty w'=> ?_⟩;have V:=run_make (P:=cx.P) w' T ti.elem a5 z a2 Q J a6 a8 l c D M (by rw[i];exact N) O;rw[<-W];exact fun _ _ _ _=>by simp[execOp,j,r,V]
   cases R:ti.nest.any (Nat.beq d)with
   |true=>
    simp only[R,qT,qG,bind_some]at a;obtain⟨aj,_,a⟩:=a;cases D:HE t with
    |false=>simp only[D,rD]at a;cases a
    |true=>
     simp only[D,qT]at a;cases a;obtain⟨z,k,ah,ac,ad,W⟩:=a1 (φ':=none) Y;obtain⟨ag,N,V⟩:=ZA D;rw[ag]at ah W;refine⟨_,fun b=> .slice (some ⟨b,0,none⟩) l.toNat c.toNat,W,fun za w0 w st E Z B d b h i o A y s=> ?_⟩;generalize Q:madeCells z.cells (c.toNat*1)=O at i;have a8:O.size=c.toNat*1:=by rw[<-Q];simp[madeCells]
     have af:=A7e (sz:=1) i o a8 ac ad;have ae:∀x∈O.toList.take (l.toNat*1),x=N:=fun x j=>by
      have j:=sB j;rw[<-Q]at j;simp only[madeCells,g1i,tU]at j;obtain⟨M,_,rfl⟩:=j;have r:z.cells.toList= [N]:=k.trans V;have a2:z.cells= #[N]:=by rw[<-tR (xs:=z.cells),r]
      rw[a2];simp[g4j]
     obtain⟨ak,am⟩:=ZB D V.symm;obtain⟨a5,a6⟩:=h.newNestE d (t:=t) (e':=aj.elem) (dd:=Mx t l.toNat) af (fun M x j=>by
      have:=ae x (sV j);subst this;have a9:M<l.toNat:=by have:=(sL.1 j).1;rw[qY]at this;omega
      exact⟨ak,am _ _ _ M _ a9⟩) (fun a2 r=>by
      simp only[Value.ownBlock,rA]at r;subst r;exact⟨A,y⟩) (fun a2 _ r=>by simp only[Value.ownBlock,rA]at r;subst r;exact s)
     exact⟨a5,fun a3 u=>by have:=a6 a3 u;simp only[Value.ownBlock,rA]at this;exact this.symm⟩
   |false=>
    simp only[R,rD]at a;cases r: !ti.rows&&Ol t with
    |false=>simp only[r,rD]at a;cases a
    |true=>
     simp only[r,qT]at a;cases a;simp only[qC]at r;obtain⟨z,k,a5,M,W,a3⟩:=a1 (φ':=none) Y;refine⟨_,fun b=> .slice (some ⟨b,0,none⟩) l.toNat c.toNat,a3,fun za w0 w st E Z B d b h i o A y s=> ?_⟩;have D:F7 (C5 t w Z) ((madeCells z.cells (c.toNat*t.size)).toList.take (l.toNat*t.size)) (List.replicate l.toNat t.dflt):=JX k r.2 a5 _ _ M;generalize Q:madeCells z.cells (c.toNat*t.size)=O at i D;have V:O.size=c.toNat*t.size:=by rw[<-Q];simp[madeCells]
     have a2:=A7e i o V M W;refine⟨h.newRowE d (t:=t) (e:=ti.elem) (l:=List.replicate l.toNat t.dflt) (by rw[rN];exact a2) D (fun N j=>by
      simp only[Value.ownBlock,rA]at j;subst j;exact⟨A,y⟩) (fun N _ j=>by simp only[Value.ownBlock,rA]at j;subst j;exact s),fun a6 u=> ?_⟩
     have:=u;simp only[A8,root,rA]at this;exact this.symm
 . cases a
end
def BP (cx:Cx) (all:List Oper) (a:St):List Nat->(St->Prop)->St->Prop
 | [],k=>k
 |i::r,k=>fun b=>match all[i]? with
  |some o=>match IX cx a (Eh all i) o.op with
   |some (c,lc,mk)=>WG c (BP cx all a r k (addA b (Eh all i) lc mk))
   |none=>False
  |none=>False
def nX (all:List Oper) (f:Nat->Nat->Value) (bl:Nat->Nat):List Nat->G5->G5
 | [],E=>E
 |i::r,E=>nX all f bl r (upd E (Eh all i) (f i (bl i)))
section
variable {za:Zn} {w0 w w':World} {Z:Nat->Prop} {cx:Cx} {all:List Oper} {st0:St} {k k':St->Prop} {f:Nat->Nat->Value} {X:Nat->Obj} {bl:Nat->Nat}
def ZN:∀ {ls:List Nat} {c:St},BP cx all st0 ls k c->∀i∈ls,∃o φ lc mk,all[i]? =some o/\IX cx st0 (Eh all i) o.op=some (φ,lc,mk)/\GT φ
 | [],_,_,_,h=>by cases h
 |i::r,c,a,j,b=>by
  simp only[BP]at a;split at a
  . rename_i o h;split at a
    . rename_i φ lc mk g;obtain⟨d,f⟩:=E6.1 a;rcases qS.1 b with rfl|b
      . exact⟨o,φ,lc,mk,h,g,d⟩
      . exact ZN f j b
    . exact a.elim
  . exact a.elim
def TX:∀ {ls:List Nat} {a:St},BP cx all st0 ls k a->(∀b,C3 a b->k b->k' b)->BP cx all st0 ls k' a
 | [],a,h,c=>c a (C3.refl a) h
 |i::r,a,h,c=>by
  simp only[BP]at h⊢;split at h
  . split at h
    . exact E6.2 ⟨(E6.1 h).1,TX (E6.1 h).2 fun b e a=>c b ((C3.addA _ _ _ _).trans e) a⟩
    . exact h
  . exact h
def EL {x:Nat} :∀ {l:List Nat} {E:G5},x∉Z4 all l->nX all f bl l E x=E x
 | [],_,_=>rfl
 |i::l,E,h=>by
  simp only[Z4,rW,qS,g4n]at h;simp only[nX];rw[EL h.2,C4 _ _ _ _ h.1]
def jX {i:Nat} :∀ {l:List Nat} {E:G5},(Z4 all l).Nodup->i∈l->nX all f bl l E (Eh all i)=f i (bl i)
 | [],_,_,h=>by cases h
 |j::l,E,b,h=>by
  simp only[Z4,rW]at b;obtain⟨c,d⟩:=sI.1 b;simp only[nX];by_cases a:i∈l
  . exact jX d a
  . rcases qS.1 h with rfl|h
    . rw[EL c,B9]
    . exact absurd h a
def jJ:∀ {ls:List Nat} {a:St} {E:G5} {B:Nat->Value},C2 za w0 a E w Z B->(∀i∈ls,∀o φ lc mk,all[i]? =some o->IX cx st0 (Eh all i) o.op=some (φ,lc,mk)->A3p lc mk (X i) (f i))->
 (∀i∈ls,w.heap[bl i]? =some (X i)/\w0.heap.size<=bl i/\¬Z (bl i)/\za.b0<=bl i/\∀k,¬A8 w (B k) (a.L k) (bl i))->(∀i∈ls,∀j∈ls,i≠j->bl i≠bl j)->ls.Nodup->BP cx all st0 ls k a->∃s B',C2 za w0 s (nX all f bl ls E) w Z B'/\k s
 | [],a,E,B,h,_,_,_,_,b=>⟨a,B,h,b⟩
 |i::T,a,E,B,M,r,g,n,O,b=>by
  simp only[BP]at b;obtain⟨Q,R⟩:=sI.1 O;split at b
  . rename_i o P;split at b
    . rename_i φ lc mk h;obtain⟨_,b⟩:=E6.1 b;obtain⟨v,x,y,z,A⟩:=g i (rG);obtain⟨I,J⟩:=r i rG o φ lc mk P h za w0 w a E Z B (Eh all i) (bl i) M v x y A z;refine jJ (ls:=T) (E:=upd E (Eh all i) (f i (bl i))) I (fun j c=>r j (qK _ c)) (fun j c=> ?_) (fun t h u g=>n t (qK _ h) u (qK _ g)) R b;obtain⟨c1,D,F,G,H⟩:=g j (qK _ c);refine⟨c1,D,F,G,fun q d=> ?_⟩;have N:(addA a (Eh all i) lc mk).L q=(a.newL lc).L q:=rfl;rw[N,St.L_newL]at d;by_cases l:q=a.nx
      . subst l;rw[qL rfl,B9]at d;exact n i rG j (qK _ c) (fun e=>Q (e▸c)) (J _ d).symm
      . rw[qH l,C4 _ _ _ _ l]at d;exact H q d
    . exact b.elim
  . exact b.elim
def ZL:∀(l:List Nat) (E:G5) (w:World),l.Nodup->(Z4 all l).Nodup->P6 w (Ek all f X l E w).2/\∃bl:Nat->Nat,(∀i∈l,w.heap.size<=bl i/\(Ek all f X l E w).2.heap[bl i]? =some (X i)/\(Ek all f X l E w).1 (Eh all i)=f i (bl i))/\∀i∈l,∀j∈l,i≠j->bl i≠bl j
 | [],_,w,_,_=>⟨P6.refl w,fun _=>0,by simp,by simp⟩
 |i::r,E,w,z,o=>by
  obtain⟨D,F⟩:=sI.1 z;simp only[Z4,rW]at o;obtain⟨s,t⟩:=sI.1 o;obtain⟨n,bl,h,x⟩:=ZL r (upd E (Eh all i) (f i w.heap.size)) (w.alloc (X i)) F t;have B:P6 w (w.alloc (X i)):=P6.alloc w _;have A:(w.alloc (X i)).heap.size=w.heap.size+1:=Array.size_push ..;simp only[Ek];refine⟨B.trans n,fun j=>if j=i then w.heap.size else bl j,fun j d=> ?_,fun a ha b hb hab=> ?_⟩
  . rcases qS.1 d with rfl|d
    . have y:(if j=j then w.heap.size else bl j)=w.heap.size:=qL rfl;show w.heap.size<=(if j=j then w.heap.size else bl j)/\(Ek all f X r _ _).2.heap[if j=j then w.heap.size else bl j]? = _ /\ _=f j (if j=j then w.heap.size else bl j);rw[y];refine⟨qP _, ?_,by rw[Gl _ _ _ s,B9]⟩;rw[n.block _ (by rw[A];exact rK _)];exact heap_alloc_new w _
    . have:j≠i:=fun e=>D (e▸d)
      simp only[qH this];obtain⟨G,u,v⟩:=h j d;exact⟨by omega,u,v⟩
  . simp only;have g:∀q,q∈i::r->q≠i->q∈r:=fun q hq hqi=>(qS.1 hq).resolve_left hqi
    by_cases c:a=i
    . rw[qL c,qH (fun e=>hab (c.trans e.symm))];have:=(h b (g b hb (fun e=>hab (c.trans e.symm)))).1;omega
    . rw[qH c];by_cases k:b=i
      . rw[qL k];have:=(h a (g a ha c)).1;omega
      . rw[qH k];exact x a (g a ha c) b (g b hb k) hab
end
structure K where
 n:St->Prop
 x:Nat->St->Prop
 r:St->Prop
def K.at (k:K):Exit->St->Prop
 | .normal=>k.n
 | .exit i=>k.x i
 | .ret=>k.r
 | _=>fun _=>False
structure An where
 join:List (Nat×CG):= []
 loop:List (Nat×CG):= []
 plan:List (Nat×List Nat×List Nat×Bool×Pl):= []
def lead:Code->Option Nat
 | .region id _ _=>some id
 | .seq a b=>match lead a with
  |some i=>some i
  |none=>lead b
 | .cond _ a b=>match lead a with
  |some i=>some i
  |none=>lead b
 | .block _ c=>lead c
 | .loop c=>lead c
 | _=>none
def B2g (l:List (Nat×CG)):Option Nat->Option CG
 |some i=>Ep i l
 |none=>none
def B9b (A:CG) (a:St) (b:(St->Prop)->Prop) (c:St->Prop):Prop:=
 ∃J:A.den->Prop,b (JF A a J)/\∀p,A.wf p->J p->c (reflect A a p)
def B2w (A:CG) (a:St) (d:(St->Prop)->St->Prop):Prop:=
 match gath A a with
 |some (a,f)=>bif(A.rowL.all fun x=>Nat.blt x.1 a.nx)&&(A.boxL.all fun x=>Nat.blt x.1 a.nx)then
  (∃(I:A.den->Prop) (c:A.den->Nat),I f/\∀p,A.wf p->I p->d (JF A a fun b=>I b/\c b<c p) (reflect A a p))else False
 |none=>False
def Lu (cx:Cx) (all:List Oper) (o:Oper) (k:St->Prop) (a:St):Prop:=
 match o.guard with
 |none=>match Wl cx a [] o.op with
  |some (b,v)=>match o.dst with
   |some d=>WG b (k (a.setS d v))
   |none=>False
  |none=>match o.op with
   | .load T x=>match o.dst with
    |some d=>(match YO cx a d T x with
     |some b=>k b
     |none=>False)
    |none=>False
   | _=>False
 |some (j,b)=>match(all[j]?).bind (·.dst)with
  |some t=>bif Lf a 20 t then(match o.dst with
   |some d=>bif !(Nat.beq t d)then(match Wl cx a (gctx a 20 t b) o.op with
    |some (c, .one s)=>bif s.cs.all (A7p a.nx)then WG (A9v (ctxP a (gctx a 20 t b)) c) (k (a.setS d (.cnd t b s)))else False
    |some _=>False
    |none=>match o.op with
     | .load T x=>(match YM cx a (gctx a 20 t b) t b d T x with
      |some a=>k a
      |none=>False)
     | _=>False)else False
   |none=>False)else False
  |none=>False
def MF (cx:Cx) (all:List Oper):List Nat->(St->Prop)->St->Prop
 | [],k=>k
 |j::r,k=>fun a=>match all[j]? with
  |some o=>bif !(A6k o.op)&&B1i (YY all j) (Z4 all (j::r))then Lu cx all o (MF cx all r k) a else False
  |none=>False
def Q3 (cx:Cx) (sp:G4) (all:List Oper) (tails:List Nat) (n0:Nat) (nw:Bool):Pl->Bool->Bool->(St->Prop)->St->Prop
 | .done,_,_,k=>k
 | .q i p,a,t,k=>fun b=>match all[i]? with
  |some o=>bif a|| !nw then Lu cx all o (Q3 cx sp all tails n0 nw p a t k) b else False
  |none=>False
 | .p i p,a,t,k=>fun b=>match all[i]? with
  |some o=>bif !(A6k o.op)then Lu cx all o (Q3 cx sp all tails n0 nw p a t k) b else False
  |none=>False
 | .e i p,_,t,k=>fun a=>match all[i]? with
  |some o=>bif((t||tails.contains i) || !(VT sp a o) || (nw&&frO n0 a o.op))&&(!nw||cB sp n0 a o.op)then BQ cx sp all o (Q3 cx sp all tails n0 nw p false (t||tails.contains i) k) a else False
  |none=>False
 | .or i p q,b,t,k=>fun a=>
  (match all[i]? with
  |some o=>bif((t||tails.contains i) || !(VT sp a o) || (nw&&frO n0 a o.op))&&(!nw||cB sp n0 a o.op)then BQ cx sp all o (Q3 cx sp all tails n0 nw p false (t||tails.contains i) k) a else False
  |none=>False)/\Q3 cx sp all tails n0 nw q b t k a
 | .al a b p,_,t,k=>fun c=>bif A0h all a b then BP cx all c a (MF cx all b (Q3 cx sp all tails n0 nw p false t k)) c else False
def Lb (cx:Cx) (sp:G4) (an:An):Code->K->St->Prop
 | .skip,k=>k.n
 | .label _,k=>k.n
 | .region id ops b,k=>fun a=>bif b then(match Ep id an.plan with
  |some (c,b,d,p)=>bif B2o ops.toList c b p&&cx.P.follows .mixedOrders then Q3 cx sp ops.toList b a.nx d p true false k.n a else False
  |none=>False)else TZ cx sp ops.toList ops.toList k.n a
 | .seq c b,k=>fun a=>match B2g an.join (lead b)with
  |some A=>B9b A a (fun j=>Lb cx sp an c {k with n:=j} a) (Lb cx sp an b k)
  |none=>Lb cx sp an c {k with n:=Lb cx sp an b k} a
 | .cond d b c,k=>fun a=>match(a.ev [] d).bind LJ with
  |some e=>(e=true->Lb cx sp an b k a)/\(e=false->Lb cx sp an c k a)
  |none=>False
 | .block id c,k=>Lb cx sp an c {k with x:=fun i a=>bif Nat.beq i id then k.n a else k.x i a}
 | .loop c,k=>fun a=>match B2g an.loop (lead c)with
  |some A=>B2w A a fun j=>Lb cx sp an c {k with n:=j}
  |none=>False
 | .exit i,k=>k.x i
 | .ret,k=>k.r
 | _,_=>fun _=>False
section
variable {za:Zn} {w0:World} {cx:Cx} {sp:G4} {an:An} {all:List Oper}
def Sb {o:Oper} {k k':St->Prop} {b:St} (h:Lu cx all o k b) (a:∀c,C3 b c->k c->k' c):Lu cx all o k' b:=by
 unfold Lu at h⊢;split at h
 . split at h
   . split at h
     . exact E6.2 ⟨(E6.1 h).1,a _ (C3.setS _ _ _) (E6.1 h).2⟩
     . exact h
   . split at h
     . split at h
       . split at h
         . rename_i b;exact a _ (YP b) h
         . exact h
       . exact h
     . exact h
 . split at h
   . obtain⟨c,h⟩:=B7 h;simp only[c,qT];split at h
     . obtain⟨c,h⟩:=B7 h;simp only[c,qT];split at h
       . obtain⟨c,h⟩:=B7 h;simp only[c,qT];exact E6.2 ⟨(E6.1 h).1,a _ (C3.setS _ _ _) (E6.1 h).2⟩
       . exact h
       . split at h
         . split at h
           . rename_i b;exact a _ (YN b) h
           . exact h
         . exact h
     . exact h
   . exact h
def UA:∀ {ls:List Nat} {k k':St->Prop} {a:St},MF cx all ls k a->(∀b,C3 a b->k b->k' b)->MF cx all ls k' a
 | [],_,_,a,h,b=>b a (C3.refl a) h
 |j::r,_,_,a,h,f=>by
  simp only[MF]at h⊢;split at h
  . obtain⟨a,h⟩:=B7 h;simp only[a,qT];exact Sb h fun b a c=>UA c fun g b d=>f g (a.trans b) d
  . exact h
def Y7 {tails:List Nat} {n0:Nat} {nw:Bool} :∀ {p:Pl} {pre t:Bool} {k k':St->Prop} {a:St},Q3 cx sp all tails n0 nw p pre t k a->(∀b,C3 a b->k b->k' b)->Q3 cx sp all tails n0 nw p pre t k' a
 | .done,_,_,_,_,a,h,b=>b a (C3.refl a) h
 | .q i p,pre,t,_,_,a,h,g=>by
  simp only[Q3]at h⊢;split at h
  . obtain⟨b,h⟩:=B7 h;simp only[b,qT]at h⊢;exact Sb h fun c b d=>Y7 d fun i c f=>g i (b.trans c) f
  . exact h
 | .p i p,pre,t,_,_,a,h,g=>by
  simp only[Q3]at h⊢;split at h
  . obtain⟨b,h⟩:=B7 h;simp only[b,qT];exact Sb h fun c b d=>Y7 d fun i c f=>g i (b.trans c) f
  . exact h
 | .e i p,pre,t,_,_,a,h,g=>by
  simp only[Q3]at h⊢;split at h
  . obtain⟨b,h⟩:=B7 h;simp only[b,qT];exact EG h fun c b d=>Y7 d fun i c f=>g i (b.trans c) f
  . exact h
 | .or i p q,pre,t,_,_,a,h,b=>by
  simp only[Q3]at h⊢;refine⟨?_,Y7 h.2 b⟩;have h:=h.1;split at h
  . obtain⟨c,h⟩:=B7 h;simp only[c,qT];exact EG h fun d c f=>Y7 f fun i d g=>b i (c.trans d) g
  . exact h
 | .al b c p,pre,t,_,_,a,h,g=>by
  simp only[Q3]at h⊢;obtain⟨a,h⟩:=B7 h;simp only[a,qT];exact TX h fun b a c=>UA c fun f b d=>Y7 d fun h c f=>g h (a.trans (b.trans c)) f
def C3.told (A:CG) (a:St) (p:A.den):C3 a (Vc.reflect A a p):=
 ⟨qV (uS _) (C3.reflect A a p).ct,fun _ b c=>iY b c,fun _ b c=>cP b c,(C3.reflect A a p).f.le (uS _)⟩
def C3.gath {A:CG} {a b:St} {p:A.den} (h:gath A a=some (b,p)):C3 a b:=by
 simp only[Vc.gath,qG,bind_some]at h;obtain⟨d,_,c,_,tl,_,f,_,h⟩:=h;obtain⟨_,h⟩:=D8 h;cases h;exact(C3.plugL _ _).trans (C3.settleSh _ _ _)
def KT:∀ {c:Code} {k k':K} {a:St},Lb cx sp an c k a->(∀e b,C3 a b->k.at e b->k'.at e b)->Lb cx sp an c k' a:=by
 intro c
 induction c with
 |skip=>intro k k' a h d;exact d .normal a (C3.refl a) h
 |label l=>intro k k' a h d;exact d .normal a (C3.refl a) h
 |region id ops f=>
  intro k k' a h d;simp only[Lb]at h⊢;cases f with
  |true=>
   simp only[qT]at h⊢;split at h
   . obtain⟨g,h⟩:=B7 h;simp only[g,qT];exact Y7 h fun b e=>d .normal b e
   . exact h
  |false=>
   simp only[rD]at h⊢;exact ME h fun b e=>d .normal b e
 |seq v w j l=>
  intro k k' a h f;simp only[Lb]at h⊢;split at h
  . rename_i A _;obtain⟨J,r,i⟩:=h;refine⟨J,j r fun e b ev d=> ?_,fun p t s=>l (i p t s) fun e b ev d=> ?_⟩
    . cases e with
      |normal=>exact d
      |exit o=>exact f (.exit o) b ev d
      |ret=>exact f .ret b ev d
      | _=>exact d
    . exact f e b ((C3.told A a p).trans ev) d
  . refine j h fun e n g d=> ?_
    cases e with
    |normal=>exact l d fun e u o i=>f e u (g.trans o) i
    |exit o=>exact f (.exit o) n g d
    |ret=>exact f .ret n g d
    | _=>exact d
 |cond c i j f g=>
  intro k k' a h d;simp only[Lb]at h⊢;split at h
  . exact⟨fun e=>f (h.1 e) d,fun e=>g (h.2 e) d⟩
  . exact h
 |block id c j=>
  intro k k' a h f;simp only[Lb]at h⊢;refine j h fun e b ev d=> ?_
  cases e with
  |exit i=>
   simp only[K.at]at d⊢;cases g:Nat.beq i id with
   |true=>simp only[g,qT]at d⊢;exact f .normal b ev d
   |false=>simp only[g,rD]at d⊢;exact f (.exit i) b ev d
  |normal=>exact f .normal b ev d
  |ret=>exact f .ret b ev d
  | _=>exact d
 |loop c t=>
  intro k k' a h g;simp only[Lb]at h⊢;split at h
  . rename_i A _;unfold B2w at h⊢;split at h
    . rename_i i v f;obtain⟨o,h⟩:=B7 h;simp only[o,qT];obtain⟨I,u,j,l⟩:=h;refine⟨I,u,j,fun p r n=>t (l p r n) fun e b ev d=> ?_⟩;cases e with
      |normal=>exact d
      |exit s=>exact g (.exit s) b ((C3.gath f).trans ((C3.told A i p).trans ev)) d
      |ret=>exact g .ret b ((C3.gath f).trans ((C3.told A i p).trans ev)) d
      | _=>exact d
    . exact h
  . exact h
 |exit i=>intro k k' a h d;exact d (.exit i) a (C3.refl a) h
 |ret=>intro k k' a h d;exact d .ret a (C3.refl a) h
 | _=>intro k k' a h d;exact h
def XK {A:CG} (k:za.b0=0) {b c:St} {J:A.den->Prop} {E:G5} {w:World} {Z:Nat->Prop} {B:Nat->Value} (h:C2 za w0 c E w Z B) (a:JF A b J c) (v:A8x za.n b) (ev:C3 b c):∃p,A.wf p/\J p/\∃Z' B',C2 za w0 (reflect A b p) E w Z' B':=by
 unfold JF at a;split at a
 . rename_i b p d;obtain⟨b,a⟩:=B7 a;simp only[A5w,qC,tO]at b;obtain⟨⟨⟨i,j⟩,t⟩,u⟩:=b;have c:=ev.trans (C3.gath d);have b:∀ {n g:Nat},bG n g=true->g≠0/\g<=n:=fun hh=>by
    simp only[bG,qC]at hh;have o:=qN hh.1;have o:=qN hh.2;omega
   obtain⟨r,Z',B',o⟩:=oX k h d v (fun s hs=>c.s s (b (i s hs)).1 (b (i s hs)).2) (fun q hq=>c.l q (b (j q hq)).1 (b (j q hq)).2) (fun y hy=>Vh (t y hy)) (c.f.old u);exact⟨p,r,a,Z',B',o⟩
 . exact a.elim
variable (hty:F8 cx.P cx.tys=true) (hsp:Qo cx.P sp)
include hty in
theorem EH {S:World->Prop} {o:Oper} {k:St->Prop} {I:St} {E:G5} {w:World} {Z:Nat->Prop} {B:Nat->Value} (j:∀w',S w'->(A6k o.op=true->P6 w w')) (h:C2 za w0 I E w Z B) (a:Lu cx all o k I):ED cx.P S all o (Nx za w0 k) E w:=by
 obtain⟨a1,X,ty,G,A,a2⟩:=o;unfold Lu at a;simp only at a j;split at a
 . split at a
   . rename_i Y a6 y;split at a
     . rename_i d;replace a:=E6.1 a;obtain⟨u,c,f,r⟩:=Zo (ty:=ty) h hty (E9 E) y a.1;exact .inl ⟨rfl,u,fun w' g=>c w' (j w' g) _ _ _ _,_,_,_,h.setS d (f _) r,a.2⟩
     . exact a.elim
   . split at a
     . rename_i T x _;split at a
       . rename_i d;split at a
         . rename_i a4 s;obtain⟨u,B',c,f⟩:=iE (ty:=ty) h hty s;exact .inl ⟨rfl,u,fun w' g=>c w' (j w' g rfl) _ _ _ _,_,_,_,f,a⟩
         . exact a.elim
       . exact a.elim
     . exact a.elim
 . rename_i F i;split at a
   . rename_i t l;have a3:=(B7 a).1;replace a:=(B7 a).2;split at a
     . rename_i d;have U:=(B7 a).1;replace a:=(B7 a).2;have z:t≠d:=vB (by simpa using U);split at a
       . rename_i Y H y;obtain⟨R,a⟩:=B7 a;replace a:=E6.1 a;rw[gL]at a;by_cases b:E t= .bool i
         . have D:=h.gctx (n:=20) b;obtain⟨u,c,f,r⟩:=Zo (ty:=ty) h hty D y (a.1 (h.ctxP D));refine .inl ⟨HB l b,u,fun w' g=>c w' (j w' g) _ _ _ _,_,_,_,h.setS d (x:= .cnd t i H) (.inl ⟨?_,f E⟩) r,a.2⟩;rw[C4 _ _ _ _ z];exact b
         . have v:D4 all ⟨some d,X,ty,G,A,some (F,i)⟩ E=false:=by
            unfold D4 X8;simp only[l];cases N:E t with
            |bool a0=>simp only[vD,g3y,rA];intro Q;exact b (by rw[N,Q])
            | _=>rfl
           refine .inr ⟨v,_,_,_,h.setS d (x:= .cnd t i H) (.inr ⟨?_,rfl⟩) (fun J O=>cO (tO.1 R J O)),a.2⟩;rw[C4 _ _ _ _ z];exact b
       . exact a.elim
       . split at a
         . rename_i T x _;split at a
           . rename_i a5 s;obtain⟨V,W⟩:=iD (ty:=ty) h hty z s;by_cases b:E t= .bool i
             . obtain⟨u,B',c,f⟩:=V b (h.gctx (n:=20) b);exact .inl ⟨HB l b,u,fun w' g=>c w' (j w' g rfl) _ _ _ _,_,_,_,f,a⟩
             . have v:D4 all ⟨some d, .load T x,ty,G,A,some (F,i)⟩ E=false:=by
                unfold D4 X8;simp only[l];cases N:E t with
                |bool a0=>simp only[vD,g3y,rA];intro Q;exact b (by rw[N,Q])
                | _=>rfl
               obtain⟨B',M⟩:=W b;exact .inr ⟨v,_,_,_,M,a⟩
           . exact a.elim
         . exact a.elim
     . exact a.elim
   . exact a.elim
theorem TS {P:Program} {S:World->Prop} {o:Oper} {n a:G5->World->Prop} {E:G5} {w:World} (h:ED P S all o n E w) (c:∀E',n E' w->a E' w):ED P S all o a E w:=by
 rcases h with⟨a,v,b,d⟩ | ⟨a,b⟩
 . exact .inl ⟨a,v,b,c _ d⟩
 . exact .inr ⟨a,c _ b⟩
def RW (nw:Bool) (b0:Nat) (w w':World):Prop:=bif nw then(Below b0 w w'/\True)else P6 w w'
theorem RW.of {nw:Bool} {b0:Nat} {w w':World} (a:b0<=w.heap.size) (h:P6 w w'):RW nw b0 w w':=by
 cases nw with
 |true=>exact⟨⟨h.os,h.tape,h.output,h.size,fun k b=>h.block k (rC b a)⟩,h.drw⟩
 |false=>exact h
theorem RW.refl (nw:Bool) (b0:Nat) (w:World):RW nw b0 w w:=by
 cases nw with
 |true=>exact⟨Below.refl _ _,trivial⟩
 |false=>exact P6.refl _
theorem RW.trans {nw:Bool} {b0:Nat} {a b c:World} (h:RW nw b0 a b) (d:RW nw b0 b c):RW nw b0 a c:=by
 cases nw with
 |true=>exact⟨Below.trans h.1 d.1,trivial⟩
 |false=>exact P6.trans h d
include hty hsp in
theorem pX {nw tl:Bool} {n0:Nat} {k:St->Prop} {o:Oper} {d:St} {E:G5} {w:World} {Z:Nat->Prop} {B:Nat->Value} (i:nw=true->za.k0=n0) (s:nw=false->za.b0=0) (h:C2 za w0 d E w Z B)
 (b:((tl|| !(VT sp d o) || (nw&&frO n0 d o.op))&&(!nw||cB sp n0 d o.op))=true) (a:BQ cx sp all o k d):K9 cx.P all o (fun E' w'=>(tl=true\/RW nw za.b0 w w')/\Nx za w0 k E' w') E w:=by
 simp only[qC,vX,rP]at b;obtain⟨b,c⟩:=b;have j:za.b0=0\/cB sp za.k0 d o.op=true:=by
  cases f:nw with
  |false=>exact .inl (s f)
  |true=>rw[f]at c;exact .inr (by rw[i f];simpa using c)
 rcases b with(b|b) |b
 . refine M9 ?_ (TY h j hty hsp a);rintro E' w' ⟨_,n⟩;exact⟨.inl b,n⟩
 . refine M9 ?_ (TY h j hty hsp a);rintro E' w' ⟨y,n⟩;exact⟨.inr (RW.of h.mrk.1 (y b)),n⟩
 . obtain⟨v,b⟩:=b;subst v;obtain⟨l,D,H,F,A,r⟩:=o;have t:=b;unfold frO at b;split at b
   . rename_i T p z g;simp only at g;subst g;unfold BQ at a;simp only at a;cases r with
     |none=>
      simp only[Wl]at a;cases l with
      |none=>
       simp only at a;have u:DK d (.store T p z)=false:=by
        rcases c with c|c
        . cases c
        . simp only[cB,qC,rP]at c;exact c.2
       rw[iL u]at a;simp only at a;split at a
       . rename_i I G x;refine M9 ?_ (ZS h hty x (E6.1 a).1 (E6.1 a).2 rfl);rintro E' w' ⟨f,n⟩;exact⟨.inr (f (by rw[i rfl];exact t)),n⟩
       . exact a.elim
      |some f=>exact a.elim
     |some f=>
      obtain⟨x,u⟩:=f;simp only[Wl]at a;split at a
      . obtain⟨_,a⟩:=B7 a;split at a
        . obtain⟨_,a⟩:=B7 a;exact a.elim
        . exact a.elim
      . exact a.elim
   . cases b
include hty in
theorem jK {k:St->Prop} :∀ {d:List Nat},(∀j∈d,cI all j=true)->(Z4 all d).Nodup->∀ {f:St} {E:G5} {w:World} {Z:Nat->Prop} {B:Nat->Value},C2 za w0 f E w Z B->MF cx all d k f->∃F,(∀x,x∉Z4 all d->F x=E x)/\AlV cx.P all d F/\Nx za w0 k F w
 | [],_,_,f,E,w,Z,B,h,b=>⟨E,fun _ _=>rfl,fun _ a=>(by cases a),f,Z,B,h,b⟩
 |j::W,r,o,f,E,w,Z,B,A,b=>by
  simp only[MF]at b;simp only[Z4,rW]at o;obtain⟨T,U⟩:=sI.1 o;split at b
  . rename_i t i;obtain⟨g,b⟩:=B7 b;simp only[qC,rP]at g;obtain⟨G,H,I⟩:=Wk (r j rG) i;have N:=KU g.2;have J:=EH (S:=fun _=>True) (all:=all) hty (fun v _ hh=>by rw[hh]at g;cases g.1) A b;have R:D4 all t E=true:=by simp[D4,H]
    rcases J with⟨_,V,Q,X,Z1,B1,n,M⟩ | ⟨s,_⟩
    . rw[G]at n;obtain⟨F,h,y,z⟩:=jK (fun l c=>r l (qK _ c)) U n M;have D:F (Eh all j)=V:=by rw[h _ T];exact B9 _ _ _
      refine⟨F,fun x a=> ?_,fun l c=> ?_,z⟩
      . simp only[Z4,rW,qS,g4n]at a;rw[h x a.2];exact C4 _ _ _ _ a.1
      . rcases qS.1 c with rfl|c
        . refine⟨t,i,fun v=> ?_⟩;rw[D,JN (E:=F) (E':=E) i I fun u O=> ?_]
          . exact Q v trivial
          . have a:=N u O;simp only[Z4,rW,qS,g4n]at a;rw[h u a.2];exact C4 _ _ _ _ a.1
        . exact y l c
    . rw[R]at s;cases s
  . exact b.elim
theorem RW.size {nw:Bool} {b0:Nat} {a b:World} (h:RW nw b0 a b):a.heap.size<=b.heap.size:=by
 cases nw with
 |true=>exact h.1.size
 |false=>exact(show P6 a b from h).size
include hty in
theorem A2i {nw:Bool} {b s:List Nat} {k:St->Prop} {v:St} {E:G5} {w:World} {Z:Nat->Prop} {B:Nat->Value} (N:A0h all b s=true) (h:C2 za w0 v E w Z B) (M:BP cx all v b (MF cx all s k) v):∃f X,A3i cx.P (RW nw za.b0) all b s f X (Nx za w0 k) E w:=by
 simp only[A0h,qC,tO]at N;obtain⟨⟨⟨a6,u⟩,r⟩,ah⟩:=N;have u:=(tJ.1 (Jm u)).1;have r:=Jm r;have r:(Z4 all b++Z4 all s).Nodup:=by simpa[Z4]using r
 obtain⟨F,T,a9⟩:=tJ.1 r;have I:=ZN M;have a1:∀i,∃x:Obj×(Nat->Value),i∈b->∀o n lc mk,all[i]? =some o->IX cx v (Eh all i) o.op=some (n,lc,mk)->(∀d,(execOp (ev E) o).run cx.P d= .ok (.value (x.2 d.heap.size)) (d.alloc x.1))/\A3p lc mk x.1 x.2:=fun i=>by
  by_cases a:i∈b
  . obtain⟨o,n,lc,mk,l,j,Q⟩:=I i a;obtain⟨X,f,U,V⟩:=A0i h hty j Q;refine⟨(X,f),fun _ ae aj ac ad J z=> ?_⟩;rw[l]at J;cases J;rw[j]at z;cases z;obtain⟨aa,af,a7,ag,a8,ab⟩:=o;exact⟨fun d=>U a7 d _ _ _ _,V⟩
  . exact⟨(.cells #[] 0 (0,0),fun _=>undef),fun a2=>absurd a2 a⟩
 obtain⟨g,H⟩:=g1j a1;refine⟨fun i=>(g i).2,fun i=>(g i).1,⟨fun i a=> ?_,fun i a d a5=>RW.of (qV h.mrk.1 a5.size) (P6.alloc d _),fun t c=> ?_⟩⟩
 . obtain⟨o,n,lc,mk,l,j,Q⟩:=I i a;exact⟨o,l,(H i a o n lc mk l j).1⟩
 . have a4:t.Nodup:=c.nodup_iff.2 u;have a3:(Z4 all t).Nodup:=(c.map _).nodup_iff.2 F;obtain⟨O,bl,D,R⟩:=ZL (f:=fun i=>(g i).2) (X:=fun i=>(g i).1) t E w a4 a3;have W:=h.more (Z':=Z) O (fun _=>id) (fun _=> .inl);obtain⟨ai,B1,G,Y⟩:=jJ (f:=fun i=>(g i).2) (X:=fun i=>(g i).1) (bl:=bl) W (fun i a o n lc mk l j=>(H i a o n lc mk l j).2) (fun i a=>by
    obtain⟨c1,z,a2⟩:=D i (c.symm.subset a);refine⟨z,qV h.ext.size c1,fun V=> ?_,qV h.mrk.1 c1,fun q U=> ?_⟩
    . have:=h.zlt _ V;omega
    . have:=((h.locs q).root (h.ft O U)).2.1;omega) (fun i a A y J=>R i (c.symm.subset a) A (c.symm.subset y) J) u M
   have a0:nX all (fun i=>(g i).2) bl b E=(Ek all (fun i=>(g i).2) (fun i=>(g i).1) t E w).1:=funext fun x=>by
    by_cases z:x∈Z4 all b
    . obtain⟨i,a,e⟩:=I8.1 z;subst e;rw[jX F a,(D i (c.symm.subset a)).2.2]
    . rw[EL z,Gl _ _ _ fun J=>z ((c.map _).subset J)]
   rw[a0]at G;exact jK hty (fun A y=>a6 A (tH _ y)) T G Y
include hty hsp in
theorem Bz {za0:Zn} {tails:List Nat} {n0:Nat} {nw:Bool} {k:St->Prop} (d:nw=true->za.k0=n0) (c:nw=false->za.b0=0) (f:∀ {a:St} {E:G5} {w:World} {Z:Nat->Prop} {B:Nat->Value},C2 za w0 a E w Z B->C2 za0 w0 a E w Z B):∀ {p:Pl} {pre t:Bool} {a:St} {E:G5} {w:World} {Z:Nat->Prop} {B:Nat->Value},(nw=true->pre=true->za.b0=w.heap.size)->C2 za w0 a E w Z B->Q3 cx sp all tails n0 nw p pre t k a->QR cx.P (RW nw za.b0) all tails (Nx za0 w0 k) p t E w
 | .done,_,_,_,_,_,_,_,_,h,b=>⟨_,_,_,f h,b⟩
 | .q u p,pre,t,a,E,w,Z,B,h,i,b=>by
  simp only[Q3]at b;split at b
  . rename_i r n;obtain⟨o,b⟩:=B7 b;refine⟨r,n,TS (EH hty (fun s g _=> ?_) i b) ?_⟩
    . cases nw with
      |false=>exact g
      |true=>
       have g:Below za.b0 w s/\True:=g;rw[h rfl (by simpa using o)]at g;exact⟨g.1,g.2⟩
    . rintro E' ⟨v,Z',B',j,l⟩;exact Bz d c f h j l
  . exact b.elim
 | .p s p,pre,t,a,E,w,Z,B,o,h,b=>by
  simp only[Q3]at b;split at b
  . rename_i r n;obtain⟨g,b⟩:=B7 b;refine⟨r,n,TS (EH hty (fun v _ j=>by rw[j]at g;cases g) h b) ?_⟩;rintro E' ⟨u,Z',B',i,l⟩;exact Bz d c f o i l
  . exact b.elim
 | .e r p,pre,t,a,E,w,Z,B,u,h,b=>by
  simp only[Q3]at b;split at b
  . rename_i s n;obtain⟨l,b⟩:=B7 b;refine⟨s,n,M9 ?_ (pX hty hsp d c (tl:=t||tails.contains r) h l b)⟩;rintro E' x ⟨o,v,Z',B',g,j⟩;exact⟨o,Bz d c f (fun _ i=>by cases i) g j⟩
  . exact b.elim
 | .or s p q,pre,t,a,E,w,Z,B,o,h,b=>by
  simp only[Q3]at b;refine⟨?_,Bz d c f o h b.2⟩;have b:=b.1;split at b
  . rename_i u n;obtain⟨l,b⟩:=B7 b;refine⟨u,n,M9 ?_ (pX hty hsp d c (tl:=t||tails.contains s) h l b)⟩;rintro E' x ⟨r,v,Z',B',g,j⟩;exact⟨r,Bz d c f (fun _ i=>by cases i) g j⟩
  . exact b.elim
 | .al y z p,pre,t,a,E,w,Z,B,x,l,b=>by
  simp only[Q3]at b;obtain⟨u,b⟩:=B7 b;obtain⟨h,X,g⟩:=A2i (nw:=nw) hty u l b;refine⟨h,X,g.one,g.rel,fun v s=> ?_⟩;obtain⟨F,i,j,A,Z',B',n,r⟩:=g.fin v s;exact⟨F,i,j,Bz d c f (fun _ o=>by cases o) n r⟩
theorem C2.marked {a:St} {E:G5} {w:World} {Z:Nat->Prop} {B:Nat->Value} (h:C2 za w0 a E w Z B):C2 {za with k0:=a.nx,b0:=w.heap.size} w0 a E w Z B:=
 ⟨h.ext,h.zlt,h.slots,h.locs,h.disj,h.refs,h.refl,h.fresh,h.bone,h.zin,h.nms,h.bfix,⟨qP _,fun k d c b=>by
  have:a.L k= .none:=h.fresh k c;rw[this]at b;exact b.elim⟩,h.frs,h.frf⟩
theorem C2.unmark {k0 b0:Nat} (a:za.b0=0) {b:St} {E:G5} {w:World} {Z:Nat->Prop} {B:Nat->Value} (h:C2 {za with k0:=k0,b0:=b0} w0 b E w Z B):C2 za w0 b E w Z B:=
 ⟨h.ext,h.zlt,h.slots,h.locs,h.disj,h.refs,h.refl,h.fresh,h.bone,h.zin,h.nms,h.bfix,⟨by rw[a];exact rH _,fun k b _ _=>by rw[a];exact rH _⟩,h.frs,h.frf⟩
end
section
variable {za:Zn} {w0:World} {cx:Cx} {sp:G4} {an:An}
def A5g {A:CG} {b c:St} {p:A.den} {E:G5} {w:World} {Z:Nat->Prop} {B:Nat->Value} (f:za.b0=0) (h:C2 za w0 b E w Z B) (a:gath A b=some (c,p)):∃Z',C2 za w0 c E w Z' B:=by
 simp only[Vc.gath,qG,bind_some]at a;obtain⟨i,_,g,_,tl,_,j,_,a⟩:=a;obtain⟨_,a⟩:=D8 a;cases a;obtain⟨Z0,d⟩:=h.plugL f (l:=A.rowL);exact C2.settleSh d
def post (za:Zn) (w0:World) (k:K):Exit->G5->World->Prop:=fun e E w=>Nx za w0 (k.at e) E w
variable (hty:F8 cx.P cx.tys=true) (hsp:Qo cx.P sp)
include hty hsp in
theorem pW (g:za.b0=0) {n:Nat} :∀ {c:Code} {k:K} {a:St} {E:G5} {w:World} {Z:Nat->Prop} {B:Nat->Value},C2 za w0 a E w Z B->Lb cx sp an c k a->Gw.Wp cx.P n c (post za w0 k) E w:=by
 intro c
 induction c with
 |skip=>intro k a E w Z B h d _ f b;exact wp_skip ⟨E,b,a,Z,B,h,d⟩
 |label l=>intro k a E w Z B h d _ f b;exact wp_label ⟨E,b,a,Z,B,h,d⟩
 |exit i=>intro k a E w Z B h d _ f b;exact wp_exit ⟨E,b,a,Z,B,h,d⟩
 |ret=>intro k a E w Z B h d _ f b;exact wp_ret ⟨E,b,a,Z,B,h,d⟩
 |region id ops z=>
  intro k a E w Z B h b j f u;simp only[Ar]at j;simp only[Lb]at b;have s:ops=ops.toList.toArray:=by simp
  cases z with
  |false=>
   simp only[rD]at b;rw[s];refine wp_region ?_;have:=TK (P:=cx.P) (Q:=post za w0 k) j ops.toList 0 (by simp) f E w u (ZO g hty hsp h b);simpa[g2r]using this
  |true=>
   simp only[qT]at b;split at b
   . rename_i F tails nw p _;obtain⟨d,b⟩:=B7 b;simp only[qC]at d;obtain⟨d,D⟩:=d;simp only[B2o,qC]at d;rw[s];refine wp_region_any D (VS (S:=fun _=>True) (tails:=tails) _ _ _ _ ?_);have o:F9 tails (Array.replicate ops.toList.length false)=false:=by
      unfold F9;rw[zN];intro x _;simp only[yD,yT];split<;>simp
     have l:=h.more (Z':=Z) (w':=w.drew) (P6.refl w).drew (fun _ h=>h) (fun _=> .inl);have fin:∀b0,QR cx.P (RW nw b0) ops.toList tails (Nx za w0 k.n) p false E w.drew->V3 cx.P ops.toList.toArray (DG n (post za w0 k)) (RW nw b0 w.drew) tails ops.toList.length (Array.replicate ops.toList.length false) f w.drew:=fun b0 hd=>
      A4q (P:=cx.P) (R:=RW nw b0) (RW.refl nw _) (fun f y=>f.trans y) (Q:=post za w0 k) j d.1.1 d.1.2 (fun c E w i=>by obtain⟨_,_,_,_,i⟩:=i;exact i) p ops.toList.length _ none d.2 ⟨eZ _ _,fun v=>by rw[o]at v;cases v⟩ false o.symm f E w.drew u (fun _ i=>by cases i) hd
     cases nw with
     |true=>
      have:=fin _ (Bz (za0:=za) (nw:=true) hty hsp (n0:=a.nx) (fun _=>rfl) (fun i=>by cases i) (fun h=>h.unmark g) (fun _ _=>rfl) l.marked b);simpa using Hu (S':=fun _=>True) (fun _ _=>trivial) _ _ _ _ this
     |false=>
      have:=fin _ (Bz (za0:=za) (nw:=false) hty hsp (n0:=a.nx) (fun i=>by cases i) (fun _=>g) (fun h=>h) (fun i=>by cases i) l b);simpa using Hu (S':=fun _=>True) (fun _ _=>trivial) _ _ _ _ this
   . exact b.elim
 |seq O T y z=>
  intro k a E w Z B s l i u v;simp only[Ar,qC]at i;simp only[Lb]at l;split at l
  . rename_i A _;obtain⟨J,D,G⟩:=l;have F:=KT (k':= {n:=fun d=>C3 a d/\JF A a J d,x:=k.x,r:=k.r}) D (fun e d ev j=>by
     cases e with
     |normal=>exact⟨ev,j⟩
     |exit H=>exact j
     |ret=>exact j
     | _=>exact j)
    refine wp_seq (wp_mono (y s F i.1 u v) ?_);rintro e o w' ⟨E',h,d,Z',B',f,b⟩;cases e with
    |normal=>
     obtain⟨p,N,M,Z2,B2,H⟩:=XK g f b.2 s.pure b.1;exact z H (G p N M) i.2 o h
    |exit H=>exact⟨E',h,d,Z',B',f,b⟩
    |ret=>exact⟨E',h,d,Z',B',f,b⟩
    | _=>exact b.elim
  . refine wp_seq (wp_mono (y s l i.1 u v) ?_);rintro e o w' ⟨E',h,d,Z',B',f,b⟩;cases e with
    |normal=>exact z f b i.2 o h
    |exit H=>exact⟨E',h,d,Z',B',f,b⟩
    |ret=>exact⟨E',h,d,Z',B',f,b⟩
    | _=>exact b.elim
 |cond c x z u v=>
  intro k a E w Z B h b d i f;simp only[Ar,qC]at d;simp only[Lb]at b;split at b
  . rename_i e j;obtain⟨y,l,o⟩:=bind_some.1 j;have s:=Nz (h.ev (E9 E) l).1 o;refine wp_cond (t:=e) (by rw[f.ev];exact s) ?_;cases e with
    |true=>exact u h (b.1 rfl) d.1 i f
    |false=>exact v h (b.2 rfl) d.2 i f
  . exact b.elim
 |block id c v=>
  intro k a E w Z B l u o j s;refine wp_block (wp_mono (v l u o j s) ?_);rintro e z w' ⟨E',f,h,Z',B',d,b⟩;cases e with
  |normal=>exact⟨E',f,h,Z',B',d,b⟩
  |ret=>exact⟨E',f,h,Z',B',d,b⟩
  |exit y=>
   simp only[Exit.inBlock];simp only[K.at]at b;by_cases i:y=id
   . subst i;simp only[vW];simp at b;exact⟨E',f,h,Z',B',d,b⟩
   . simp only[i,yK];rw[E3 i]at b;exact⟨E',f,h,Z',B',d,b⟩
  | _=>exact b.elim
 |loop c a3=>
  intro k a E w Z B v b F a6 X;simp only[Ar]at F;simp only[Lb]at b;split at b
  . rename_i A _;unfold B2w at b;split at b
    . rename_i l H D;obtain⟨z,b⟩:=B7 b;simp only[qC,tO]at z;obtain⟨I,i,M,N⟩:=b;obtain⟨Z1,G⟩:=A5g g v D;obtain⟨a2,Z2,B2,O⟩:=oX g v D G.pure (fun _ _=>rfl) (fun _ _=>rfl) (fun a4 hy=>Vh (z.1 a4 hy)) rfl;refine wp_loop_ghost (fun m o w=>∃p E',i p=m/\Gw.C5 n o E'/\A.wf p/\I p/\∃Z B,C2 za w0 (reflect A l p) E' w Z B) (i H) ⟨H,E,rfl,X,a2,M,Z2,B2,O⟩ ?_;rintro m o w ⟨p,E',a7,Y,a0,W,Z3,B3,T⟩;have U:=KT (k':= {n:=fun d=>C3 (reflect A l p) d/\JF A l (fun h=>I h/\i h<i p) d,x:=k.x,r:=k.r}) (N p a0 W) (fun e d ev j=>by
       cases e with
       |normal=>exact⟨ev,j⟩
       |exit y=>exact j
       |ret=>exact j
       | _=>exact j)
      refine wp_mono (a3 T U F o Y) ?_;rintro e a5 w' ⟨E'',u,d,Z',B',s,f⟩;cases e with
      |normal=>
       obtain⟨h,a1,y,Z5,B5,V⟩:=XK g s f.2 G.pure ((C3.told A l p).trans f.1);exact⟨i h,by have:=y.2;omega,h,E'',rfl,u,a1,y.1,Z5,B5,V⟩
      |exit y=>exact⟨E'',u,d,Z',B',s,f⟩
      |ret=>exact⟨E'',u,d,Z',B',s,f⟩
      | _=>exact f.elim
    . exact b.elim
  . exact b.elim
 | _=>intro k a E w Z B h b;exact b.elim
end
abbrev My (α:Type):List α:= []
def Wm (cx:Cx) (a:St):List ResultVar->Option (List SV)
 | []=>some []
 | .tmp t::r=>match a.S t with
  | .one s=>(Wm cx a r).map (s:: ·)
  | _=>none
 | .cell b T::r=>do
  let ti<-cx.ti T
  match a.S b with
  | .one ⟨false,[.box k 0]⟩=>match a.L k with
   | .box _ b=>bif Nat.beq b.length ti.ty.size then(Wm cx a r).map (⟨ti.agg,b⟩:: ·)else none
   | _=>none
  | _=>none
def settleR:St->List RT->List SV->St
 |c, .val _ _::a,s::b=>settleR (settle c s.cs) a b
 |c, .own _ _::a,_::b=>settleR c a b
 |a, .obox _ _::c,s::d=>settleR (match c1 s with
  |some (.box k 0)=>(match a.L k with
   | .box _ b=>settle a b
   | _=>a)
  | _=>a) c d
 |c, .rows _ _ _::a,_::b=>settleR c a b
 |a,_,_=>a
def BL (a:St):(rs:List RT)->List SV->Option (Aa rs)
 | [],[]=>some ()
 | .val b t::rs,s::c=>(Pa b t s).bind fun x=>(BL a rs c).map fun y=>(x,y)
 | .own t e::rs,s::b=>((c1 s).bind (KQ a t e)).bind fun x=>(BL a rs b).map fun y=>(x,y)
 | .obox T t::rs,s::b=>((XM s).bind fun k=>bif Nat.ble a.nm k then eW a T t k else none).bind fun x=>(BL a rs b).map fun y=>(x,y)
 | .rows t e b::rs,s::c=>((Pe s).bind fun k=>bif Nat.ble a.nm k then rowsAt a t e b k else none).bind fun x=>(BL a rs c).map fun y=>(x,y)
 | _,_=>none
def Au:List RT->List SV->List Nat
 | .own _ _::a,⟨false,[.row k]⟩::b=>k::Au a b
 | .obox _ _::a,⟨false,[.box k 0]⟩::b=>k::Au a b
 | .rows _ _ _::a,⟨false,[.row k]⟩::b=>k::Au a b
 | _::a,_::b=>Au a b
 | _,_=> []
def settleM:St->List AM->Nat->St
 |a, .box _ _::r,j=>settleM (match a.L j with| .box _ cs=>settle a cs| _=>a) r (j+1)
 |a, .row _ _::r,j=>settleM a r (j+1)
 |a, .val _ _::r,j=>settleM a r j
 |a, .fn _ _ _::r,j=>settleM a r j
 |a, .rows _ _ _::r,j=>settleM a r (j+1)
 |a,[],_=>a
def WI (a:St):(as:List AM)->Nat->Option (La as)
 | [],_=>some ()
 | .row t e::r,j=>(Ta a t e j).bind fun x=>(WI a r (j+1)).map fun y=>(x,y)
 | .box T t::r,j=>(eW a T t j).bind fun x=>(WI a r (j+1)).map fun y=>(x,y)
 | .val _ _::r,j=>WI a r j
 | .fn _ _ _::r,j=>WI a r j
 | .rows t e b::r,j=>(rowsAt a t e b j).bind fun x=>(WI a r (j+1)).map fun y=>(x,y)
def B2l:AM->Bool
 | .row t _=>Jj t
 | .rows t _ _=>Jj t
 | .box _ t=>Jj t
 | _=>true
def B6d (s:A9) (x:A5 s.args) (r:Aa s.res) (o:La s.args):Prop:=bif O4 s.args then s.post x r/\s.mpost x r o else s.post x r
def fin (cx:Cx) (s:A9) (c:List ResultVar) (x:A5 s.args) (a:St):Prop:=
 match Wm cx a c with
 |some b=>match Wm cx (settleM (settleR a s.res b) s.args 0) c with
  |some c=>match BL (settleM (settleR a s.res b) s.args 0) s.res c,WI (settleM (settleR a s.res b) s.args 0) s.args 0 with
   |some r,some o=>bif(DN (Au s.res c)&&Jx s.res)&&(s.shared|| (s.res.all oU&&s.args.all B2l))then B6d s x r o else False
   | _,_=>False
  |none=>False
 |none=>False
def Fu (P:Program):(as:List AM)->A5 as->Nat->Nat->List (Nat×Nat×DV)
 | [],_,_,_=> []
 | .val a t::r,x,i,j=>(i,1, .one ⟨a,explode t x.1⟩)::Fu P r x.2 (i+1) j
 | .row _ _::r,x,i,j=>(i,1, .one ⟨false,[.row j]⟩)::Fu P r x.2 (i+1) (j+1)
 | .box _ _::r,x,i,j=>(i,1, .one ⟨false,[.box j 0]⟩)::Fu P r x.2 (i+1) (j+1)
 | .rows _ _ _::r,x,i,j=>(i,1, .one ⟨false,[.row j]⟩)::Fu P r x.2 (i+1) (j+1)
 | .fn a c b::r,x,i,j=>(i,1, .one ⟨false,[.fv P a c b x.1.1 x.1.2]⟩)::Fu P r x.2 (i+1) j
def Cm:(as:List AM)->A5 as->Nat->List (Nat×Nat×LC)
 | [],_,_=> []
 | .val _ _::r,x,j=>Cm r x.2 j
 | .fn _ _ _::r,x,j=>Cm r x.2 j
 | .row t e::r,x,j=>(j,1, .row t e x.1)::Cm r x.2 (j+1)
 | .box T t::r,x,j=>(j,1, .box T (explode t x.1))::Cm r x.2 (j+1)
 | .rows t e a::r,x,j=>(j,1, .rows t e a x.1 [] none)::Cm r x.2 (j+1)
def Ir:List AM->Nat
 | []=>0
 | .row _ _::r=>Ir r+1
 | .box _ _::r=>Ir r+1
 | .rows _ _ _::r=>Ir r+1
 | .val _ _::r=>Ir r
 | .fn _ _ _::r=>Ir r
def lV (P:Program) (as:List AM) (x:A5 as):St:=⟨Fu P as x 0 0,Cm as x 0,Ir as,1,Ir as,[]⟩
def B4x (cx:Cx) (sp:G4) (an:An) (s:A9) (a:List ResultVar) (c:Code) (x:A5 s.args):Prop:=
 Lb cx sp an c ⟨fin cx s a x,fun _ _=>False,fin cx s a x⟩ (lV cx.P s.args x)
section
variable {za:Zn} {w0 w:World} {Z:Nat->Prop} {B:Nat->Value} {st:St} {E:G5} {cx:Cx} {sp:G4} {an:An}
def gG (tmps:Array Value):ResultVar->Sem Value
 | .tmp t=>pure (tmps.getD t undef)
 | .cell a t=>do loadVar t (<-asAddr (tmps.getD a undef))
def HJ (j:F8 cx.P cx.tys=true) (h:C2 za w0 st E w Z B) {tmps:Array Value} (b:∀t,tmps.getD t undef=E t):∀ {A:List ResultVar} {ss:List SV},Wm cx st A=some ss->∃vs,(A.mapM (gG tmps)).run cx.P w= .ok vs w/\Ns w Z B ss vs
 | [],ss,a=>by cases a;exact⟨[],rfl,rfl⟩
 | .tmp t::r,ss,a=>by
  simp only[Wm]at a;split at a
  . rename_i s g;simp only[qJ]at a;obtain⟨k,i,rfl⟩:=a;obtain⟨vs,d,f⟩:=HJ j h b i;have c:=h.slots t;rw[g]at c;refine⟨E t::vs, ?_,E t,vs,rfl,c,f⟩;rw[wN];simp only[gG,b,Sem.run_bind,Sem.run_pure,Result.andThen_ok,d]
  . cases a
 | .cell D T::a1,ss,a=>by
  simp only[Wm,qG,bind_some]at a;obtain⟨ti,W,a⟩:=a;split at a
  . rename_i X N;split at a
    . rename_i T' a0 O;obtain⟨J,a⟩:=D8 a;simp only[qJ]at a;obtain⟨a2,R,rfl⟩:=a;obtain⟨vs,r,s⟩:=HJ j h b R;have Q:=qD J;have y:=h.slots D;rw[N]at y;obtain⟨_,_,F,⟨l,G,n⟩,_⟩:=y;cases F;have v:=h.locs X;rw[O]at v;obtain⟨Y,c,o,_,_,x,d⟩:=v;rw[G]at o;cases o;have k:c.toList.length=ti.ty.size:=by rw[<-Q,d.len]
      rcases(K3 (B8 j W)).2.1 with⟨i,I⟩ | ⟨i,V,U⟩
      . refine⟨.agg c.toList.toArray::vs, ?_,_,vs,rfl,by rw[i];exact⟨c.toList,rfl,d⟩,s⟩;obtain⟨f,H⟩:=Na (P:=cx.P) (w:=w) I;have g:=run_loadCells_list (P:=cx.P) (w:=w) ⟨l,0,none⟩ c.toList x.cellsAt;rw[k]at g;unfold loadCells at g;rw[wN];simp[gG,b,n,asAddr,loadVar,f,H,g,r,go_sem]
      . rw[U]at k
        match z:c.toList,k with
        | [u],_=>
         rw[z]at d;have M:w.cell? ⟨l,0,none⟩=some u:=by
          have:=x.cellsAt 0 u (by rw[z];rfl);rwa[J7]at this
         refine⟨u::vs, ?_,u,vs,rfl,by rw[i];exact d,s⟩;have f:=Gm (P:=cx.P) (w:=w) V;rw[wN];simp[gG,b,n,asAddr,loadVar,f,M,r,go_sem]
    . cases a
  . cases a
def C2.settleR:∀ {rs:List RT} {ss:List SV} {st:St} {Z:Nat->Prop},C2 za w0 st E w Z B->∃Z',C2 za w0 (settleR st rs ss) E w Z' B
 | .val _ _::rs,s::ss,st,Z,h=>by
  obtain⟨Z1,a⟩:=h.settle s.cs;exact C2.settleR (rs:=rs) (ss:=ss) a
 | .own _ _::rs,_::ss,st,Z,h=>C2.settleR (rs:=rs) (ss:=ss) h
 | .obox _ _::rs,s::ss,st,Z,h=>by
  simp only[Vc.settleR];split
  . split
    . obtain⟨Z1,a⟩:=h.settle _;exact C2.settleR (rs:=rs) (ss:=ss) a
    . exact C2.settleR (rs:=rs) (ss:=ss) h
  . exact C2.settleR (rs:=rs) (ss:=ss) h
 | [],_,st,Z,h=>⟨Z,h⟩
 | .val _ _:: _,[],st,Z,h=>⟨Z,h⟩
 | .own _ _:: _,[],st,Z,h=>⟨Z,h⟩
 | .obox _ _:: _,[],st,Z,h=>⟨Z,h⟩
 | .rows _ _ _::rs,_::ss,st,Z,h=>C2.settleR (rs:=rs) (ss:=ss) h
 | .rows _ _ _:: _,[],st,Z,h=>⟨Z,h⟩
def Oz (h:C2 za w0 st E w Z B) {Zn:Nat->Prop} (f:∀b,Zn b->Z b):∀ {rs:List RT} {ss:List SV} {vs:List Value} {r:Aa rs},((∀b,Z b->Zn b)\/rs.all oU=true)->Ns w Z B ss vs->BL st rs ss=some r->(Au rs ss).Nodup->Jx rs=true->
 Le w0.heap.size w Zn rs vs r/\∀u∈T7 rs vs,∀b,root u=some b->∃k∈Au rs ss,A8 w (B k) (st.L k) b
 | [],[],vs,_,_,a,_,_,_=>⟨a,fun u c=>by simp[T7]at c⟩
 | [],_:: _,_,_,_,_,a,_,_=>by cases a
 | .val _ _:: _,[],_,_,_,_,a,_,_=>by cases a
 | .own _ _:: _,[],_,_,_,_,a,_,_=>by cases a
 | .obox _ _:: _,[],_,_,_,_,a,_,_=>by cases a
 | .rows _ _ _:: _,[],_,_,_,_,a,_,_=>by cases a
 | .rows v n o::rs,ac::ss,_,r,c,⟨ad,ae,e,Q,R⟩,A,z,F=>by
  simp only[BL,bind_some,qJ]at A;obtain⟨G,⟨q,l,s⟩,ai,g,rfl⟩:=A;subst e;obtain⟨a2,s⟩:=D8 s;have ah:=qN a2;have X:ac=⟨false,[.row q]⟩:=by
   unfold Pe at l;split at l
   . cases l;rfl
   . cases l
  subst X;obtain⟨_,_,N,t,_⟩:=Q;cases N;have t:ad=B q:=t;subst t;obtain⟨al,D⟩:=W0 s;have x:=h.locs q;rw[D]at x;have U:=x.rowsR;have y:∀b,A8 w (B q) (.rows v n o G [] none) b->A8 w (B q) (st.L q) b:=fun b a=>by rw[D];exact(T1 fun _ _=>rfl).1 a
  simp only[Jx,Z6,Ms,qC,yV,wJ,rP]at F;obtain⟨⟨aa,H⟩,ab⟩:=F;have Y:Au (.rows v n o::rs) (⟨false,[.row q]⟩::ss)=q::Au rs ss:=rfl;rw[Y]at z⊢;have a1:=sI.1 z;obtain⟨O,P⟩:=Oz h f (c.imp id fun j=>by simp only[tG,qC]at j;exact j.2) R g a1.2 ab;have V:Aw w Zn v n o (B q) G:=by
   obtain⟨ag,a6,a7,a8,a9⟩:=U;refine⟨ag,a6,fun a5 I af W a3=>(a7 a5 I af W a3).imp fun aj g=>⟨g.1, ?_⟩,a8,a9⟩;rcases c with c|c
   . exact g.2.mono fun _ _=>C5.mono c (fun _ _=>rfl)
   . simp only[tG,qC]at c;exact g.2.mono fun _ _ j=>C5.flat c.1 j
  refine⟨⟨B q,ae,rfl,⟨V,fun b a=> ?_⟩,fun _=>⟨⟨aa,fun _=>H⟩,fun b a u d=>by rw[Rs H]at d;cases d⟩,O⟩,fun u d b a=> ?_⟩
  . obtain⟨i,J,M⟩:=(h.locs q).root (y b a);refine⟨?_,fun a4=>M (f b a4),J⟩;rcases i with i|i
    . exact i.2
    . have:=h.nms.1;omega
  . simp only[T7,qS]at d;rcases d with rfl|d
    . exact⟨q,by simp,y b (.inl a)⟩
    . obtain⟨k,a0,r⟩:=P u d b a;exact⟨k,qK _ a0,r⟩
 | .val g F::rs,s::ss,_,r,a,⟨v,G,e,t,x⟩,j,i,l=>by
  simp only[Jx,qC]at l;obtain⟨H,z⟩:=l;simp only[BL,bind_some,qJ]at j;obtain⟨M,A,N,D,rfl⟩:=j;have y:Au (.val g F::rs) (s::ss)=Au rs ss:=by
   obtain⟨I,J⟩:=s;simp only[Au]
  rw[y]at i⊢;obtain⟨n,o⟩:=Oz h f (a.imp id fun d=>by simp only[tG,qC]at d;exact d.2) x D i z;subst e;refine⟨⟨v,G,rfl, ?_,fun d=>(by cases d),n⟩,o⟩;have c:=Cu t A;rcases a with a|a
  . exact c.mono a (fun _ _=>rfl)
  . simp only[tG,qC]at a;cases g with
    |true=>obtain⟨cs,e,c⟩:=c;exact⟨cs,e,C5.flat a.1 c⟩
    |false=>exact C5.flat (cs:= [v]) a.1 c
 | .own y D::rs,ab::ss,_,r,g,⟨z,V,e,X,F⟩,M,l,P=>by
  simp only[Jx,Z6,Ms,qC,yV,wJ,g0p,g0k,g3g,rP]at P;obtain⟨N,O⟩:=P;simp only[BL,bind_some,qJ]at M;obtain⟨a8,⟨n,j,a0⟩,ac,R,rfl⟩:=M;subst e;have Y:ab=⟨false,[n]⟩:=by
   unfold c1 at j;split at j
   . cases j;rfl
   . cases j
  subst Y;obtain⟨_,_,W,a4,_⟩:=X;cases W;obtain⟨A,x,U,a9,aa⟩:=KR h a4 a0;have a6:=E1 x;have G:F7 (C5 y w Zn) A a8:=by
   rcases g with g|g
   . exact U.mono fun _ _=>C5.mono g (fun _ _=>rfl)
   . simp only[tG,qC]at g;exact U.mono fun _ _ d=>C5.flat g.1 d
  have H:(∀b,Z b->Zn b)\/rs.all oU=true:=g.imp id fun d=>by simp only[tG,qC]at d;exact d.2
  rcases aa with⟨q,rfl,I,Q⟩ | ⟨a2,a1⟩
  . have s:Au (.own y D::rs) (⟨false,[.row q]⟩::ss)=q::Au rs ss:=rfl;rw[s]at l⊢;have J:=sI.1 l;obtain⟨o,i⟩:=Oz h f H F R J.2 O;refine⟨⟨z,V,rfl,⟨A,x,G,fun b a a7=>a9 b a (f b a7)⟩,fun _=>⟨⟨N,fun d=>(by cases d)⟩,fun b a u c hub=> ?_⟩,o⟩,fun u c b a=> ?_⟩
    . obtain⟨k,t,a5⟩:=i u c b hub;have a3:root (B q)=some b:=by rw[<-Q];exact a
      exact h.disj q k b (fun d=>J.1 (d▸t)) (A8.of I a3) a5
    . simp only[T7,qS]at c;rcases c with rfl|c
      . exact⟨q,by simp,A8.of I (by rw[<-Q];exact a)⟩
      . obtain⟨k,t,r⟩:=i u c b a;exact⟨k,qK _ t,r⟩
  . have s:Au (.own y D::rs) (⟨false,[n]⟩::ss)=Au rs ss:=by cases n<;>first|rfl|exact absurd rfl (a1 _)
    rw[s]at l⊢;obtain⟨o,i⟩:=Oz h f H F R l O;have v:∀b,root z≠some b:=fun b a=>by rw[a2]at a;cases a
    refine⟨⟨z,V,rfl,⟨A,x,G,fun b a=>absurd (a6.trans a) (v b)⟩,fun _=>⟨⟨N,fun d=>(by cases d)⟩,fun b a=>absurd a (v b)⟩,o⟩,fun u c b a=> ?_⟩;simp only[T7,qS]at c;rcases c with rfl|c
    . exact absurd a (v b)
    . exact i u c b a
 | .obox T M::rs,ab::ss,_,r,a,⟨ac,ad,e,V,W⟩,G,D,J=>by
  simp only[Jx,Z6,Ms,qC,yV,wJ,g0p,g0k,g3g,rP]at J;obtain⟨a5,a6⟩:=J;simp only[BL,bind_some,qJ]at G;obtain⟨ae,⟨q,l,t⟩,ag,a9,rfl⟩:=G;subst e;obtain⟨a3,t⟩:=D8 t;have a0:ab=⟨false,[.box q 0]⟩:=by
   unfold XM at l;split at l
   . cases l;rfl
   . cases l
  subst a0;obtain⟨_,_,R,⟨i,x,o⟩,_⟩:=V;cases R;obtain⟨cs,H,a4⟩:=Vi t;have z:=h.locs q;rw[H]at z;obtain⟨af,N,v,j,O,P,Q⟩:=z;rw[v]at x;cases x;have I:=Ez Q a4;have a7:C5 M w Zn N.toList ae:=by
   rcases a with a|a
   . exact C5.mono a (fun _ _=>rfl) I
   . simp only[tG,qC]at a;exact C5.flat a.1 I
  have a1:(∀b,Z b->Zn b)\/rs.all oU=true:=a.imp id fun d=>by simp only[tG,qC]at d;exact d.2
  have a2:Au (.obox T M::rs) (⟨false,[.box q 0]⟩::ss)=q::Au rs ss:=rfl;rw[a2]at D⊢;have F:=sI.1 D;obtain⟨U,y⟩:=Oz h f a1 W a9 F.2 a6;have X:w0.heap.size<=i:=by
   rcases j with j|j
   . exact j.2
   . have:=h.nms.1;have:=qN a3;omega
  have A:∀n,root (Value.pointer (some ⟨i,0,none⟩))=some n->A8 w (B q) (st.L q) n:=fun n Y=>by rw[H,v];exact Y
  refine⟨⟨ac,ad,rfl,⟨i,N,o,X,fun aa=>O (f i aa),P,a7⟩,fun _=>⟨⟨a5,fun d=>(by cases d)⟩,fun b c u g hub=> ?_⟩,U⟩,fun u g b c=> ?_⟩
  . obtain⟨k,s,a8⟩:=y u g b hub;rw[o]at c;exact h.disj q k b (fun d=>F.1 (d▸s)) (A b c) a8
  . simp only[T7,qS]at g;rcases g with rfl|g
    . rw[o]at c;exact⟨q,by simp,A b c⟩
    . obtain⟨k,s,r⟩:=y u g b c;exact⟨k,qK _ s,r⟩
def C2.settleM:∀ {as:List AM} {st:St} {j:Nat} {Z:Nat->Prop},C2 za w0 st E w Z B->∃Z',C2 za w0 (settleM st as j) E w Z' B
 | [],st,_,Z,h=>⟨Z,h⟩
 | .row _ _::r,st,j,Z,h=>C2.settleM (as:=r) h
 | .val _ _::r,st,j,Z,h=>C2.settleM (as:=r) h
 | .fn _ _ _::r,st,j,Z,h=>C2.settleM (as:=r) h
 | .rows _ _ _::r,st,j,Z,h=>C2.settleM (as:=r) h
 | .box _ _::r,st,j,Z,h=>by
  simp only[Vc.settleM];split
  . obtain⟨Z1,a⟩:=h.settle _;exact C2.settleM (as:=r) a
  . exact C2.settleM (as:=r) h
def Yz (h:C2 za w0 st E w Z B) {Zn:Nat->Prop} :∀ {as:List AM} {vs:List Value} {o:La as} {j:Nat},((∀b,Z b->Zn b)\/as.all B2l=true)->(∀m u,(D3 as vs)[m]? =some u->B (j+m)=u)->(∀m p,(O6 as vs)[m]? =some p->∀b,up za w0 (j+m) b->A8 w0 p.2 (lcA p.1) b)->vs.length=as.length->WI st as j=some o->Tu w0 w Zn as vs o
 | [],_,_,_,_,_,_,_,_=>trivial
 |a::r,[],_,_,_,_,_,c,_=>by simp at c
 | .val _ _::r,v::vs,o,j,g,d,f,i,k=>Yz (as:=r) h (g.imp id fun c=>by simp only[tG,qC]at c;exact c.2) d f (by simpa using i) k
 | .fn _ _ _::r,v::vs,o,j,g,d,f,i,k=>Yz (as:=r) h (g.imp id fun c=>by simp only[tG,qC]at c;exact c.2) d f (by simpa using i) k
 | .row D e::z,v::vs,o,j,c,k,s,t,n=>by
  simp only[WI,bind_some,qJ]at n;obtain⟨F,x,G,y,rfl⟩:=n;have r:B j=v:=k 0 v (by simp[D3,J9]);have l:=h.locs j;rw[Hk x]at l;obtain⟨A,g,i,_⟩:=l;rw[r]at g;refine⟨⟨A,g, ?_⟩,Yz (as:=z) h (c.imp id fun d=>by simp only[tG,qC]at d;exact d.2) (fun m u f=>by rw[show j+1+m=j+(m+1)from by omega];exact k (m+1) u (by simpa[D3,J9]using f)) (fun m p f=>by rw[show j+1+m=j+(m+1)from by omega];exact s (m+1) p (by simpa[O6,J9]using f)) (by simpa using t) y⟩;rcases c with c|c
  . exact i.mono fun _ _=>C5.mono c (fun _ _=>rfl)
  . simp only[tG,qC]at c;exact i.mono fun _ _ d=>C5.flat c.1 d
 | .box T I::F,v::vs,o,j,c,g,t,y,l=>by
  simp only[WI,bind_some,qJ]at l;obtain⟨J,A,M,D,rfl⟩:=l;have s:B j=v:=g 0 v (by simp[D3,J9]);obtain⟨H,x,z⟩:=Vi A;have i:=h.locs j;rw[x]at i;obtain⟨b,G,f,_,_,n,r⟩:=i;rw[s]at f;refine⟨⟨b,G,f,n, ?_⟩,Yz (as:=F) h (c.imp id fun k=>by simp only[tG,qC]at k;exact k.2) (fun m u d=>by rw[show j+1+m=j+(m+1)from by omega];exact g (m+1) u (by simpa[D3,J9]using d)) (fun m p d=>by rw[show j+1+m=j+(m+1)from by omega];exact t (m+1) p (by simpa[O6,J9]using d)) (by simpa using y) D⟩;have:=Ez r z;rcases c with c|c
  . exact C5.mono c (fun _ _=>rfl) this
  . simp only[tG,qC]at c;exact C5.flat c.1 this
 | .rows P e A::O,v::vs,o,j,c,n,t,i,y=>by
  simp only[WI,bind_some,qJ]at y;obtain⟨z,l,R,f,rfl⟩:=y;have r:B j=v:=n 0 v (by simp[D3,J9]);have s:=h.locs j;obtain⟨al,x⟩:=W0 l;rw[x]at s;have g:=s.rowsR;rw[r]at g;refine⟨⟨?_,fun b I=> ?_⟩,Yz (as:=O) h (c.imp id fun d=>by simp only[tG,qC]at d;exact d.2) (fun m u k=>by rw[show j+1+m=j+(m+1)from by omega];exact n (m+1) u (by simpa[D3,J9]using k)) (fun m p k=>by rw[show j+1+m=j+(m+1)from by omega];exact t (m+1) p (by simpa[O6,J9]using k)) (by simpa using i) f⟩
  . rcases c with c|c
    . exact g.mono c
    . simp only[tG,qC]at c;obtain⟨Q,D,F,G,H⟩:=g;exact⟨Q,D,fun M N z i l=>(F M N z i l).imp fun U f=>⟨f.1,f.2.mono fun _ _ d=>C5.flat c.1 d⟩,G,H⟩
  . have J:A8 w (B j) (st.L j) b:=by rw[x,r];exact(T1 fun _ _=>rfl).1 I
    exact t 0 (.rows P e A,v) (by simp[O6,J9]) b ((h.locs j).root J).1
variable {P:Program}
def Ge {n:Nat} :∀ {as:List AM} {vs:List Value} {x:A5 as} {i j s:Nat},Y0 P w Z as vs x->i<=s->(∀m u,(D3 as vs)[m]? =some u->B (j+m)=u)->j+Ir as<=n->RD w Z B E (find (0, .dead) s (Fu P as x i j)).2 ((vs[s-i]?).getD undef)/\HI n (find (0, .dead) s (Fu P as x i j)).2
 | [],_,_,_,_,_,_,_,_,_=>⟨trivial,trivial⟩
 |a::z,_,x,i,j,s,⟨v,F,e,g,f⟩,y,b,c=>by
  subst e;by_cases d:i=s
  . subst d;cases a with
    |val a t=>
     simp only[Fu,find,xT,qT,xG];exact⟨Aq.explode g,E7⟩
    |row t e=>
     simp only[Fu,find,xT,qT,xG];have k:B j=v:=b 0 v (by simp[D3,J9]);exact⟨⟨v,[],rfl,k.symm,rfl⟩,fun l h=>by simp at h;subst h;simp only[Ir]at c;show j<n;omega⟩
    |box T A=>
     simp only[Fu,find,xT,qT,xG];have o:B j=v:=b 0 v (by simp[D3,J9]);obtain⟨l,D,h,_⟩:=g;exact⟨⟨v,[],rfl,⟨l,o.trans h,h⟩,rfl⟩,fun t k=>by simp at k;subst k;simp only[Ir]at c;show j<n;omega⟩
    |rows t e o=>
     simp only[Fu,find,xT,qT,xG];have k:B j=v:=b 0 v (by simp[D3,J9]);exact⟨⟨v,[],rfl,k.symm,rfl⟩,fun l h=>by simp at h;subst h;simp only[Ir]at c;show j<n;omega⟩
    |fn k o=>
     simp only[Fu,find,xT,qT,xG];exact⟨⟨v,[],rfl,g,rfl⟩,fun l h=>by simp at h;subst h;trivial⟩
  . have r:s-i=(s-(i+1))+1:=by omega
    rw[r];cases a with
    |val a t=>
     simp only[Fu,find,E3 d,rD,uM];exact Ge (i:=i+1) (s:=s) f (by omega) b c
    |fn h k=>
     simp only[Fu,find,E3 d,rD,uM];exact Ge (i:=i+1) (s:=s) f (by omega) b c
    |row t e=>
     simp only[Fu,find,E3 d,rD,uM];exact Ge (i:=i+1) (s:=s) f (by omega) (fun m u h=>by rw[show j+1+m=j+(m+1)from by omega];exact b (m+1) u (by simpa[D3,J9]using h)) (by simp only[Ir]at c;omega)
    |box t e=>
     simp only[Fu,find,E3 d,rD,uM];exact Ge (i:=i+1) (s:=s) f (by omega) (fun m u h=>by rw[show j+1+m=j+(m+1)from by omega];exact b (m+1) u (by simpa[D3,J9]using h)) (by simp only[Ir]at c;omega)
    |rows t e k=>
     simp only[Fu,find,E3 d,rD,uM];exact Ge (i:=i+1) (s:=s) f (by omega) (fun m u h=>by rw[show j+1+m=j+(m+1)from by omega];exact b (m+1) u (by simpa[D3,J9]using h)) (by simp only[Ir]at c;omega)
def lW {n:Nat} {U:Nat->Nat->Prop} :∀ {as:List AM} {vs:List Value} {x:A5 as} {j k:Nat},Y0 P w Z as vs x->(∀m p,(O6 as vs)[m]? =some p->B (j+m)=p.2/\∀b,A8 w p.2 (lcA p.1) b->U (j+m) b)->
 RL (U k) w Z B k (find (0, .none) k (Cm as x j)).2/\AR n (find (0, .none) k (Cm as x j)).2/\(live (find (0, .none) k (Cm as x j)).2->j<=k/\∃p,(O6 as vs)[k-j]? =some p/\∀b,A8 w (B k) (find (0, .none) k (Cm as x j)).2 b->A8 w p.2 (lcA p.1) b):=by
 intro as
 induction as with
 |nil=>intro _ _ _ _ _ _;exact⟨trivial,trivial,fun h=>h.elim⟩
 |cons f r o=>
  intro vs x j k D c;obtain⟨v,y,e,h,i⟩:=D;subst e;have l:J9 f=true->j≠k->RL (U k) w Z B k (find (0, .none) k (Cm r x.2 (j+1))).2/\AR n (find (0, .none) k (Cm r x.2 (j+1))).2/\(live (find (0, .none) k (Cm r x.2 (j+1))).2->j<=k/\∃p,(O6 (f::r) (v::y))[k-j]? =some p/\∀b,A8 w (B k) (find (0, .none) k (Cm r x.2 (j+1))).2 b->A8 w p.2 (lcA p.1) b):=fun hm a=>by
   obtain⟨t,u,g⟩:=o (vs:=y) (x:=x.2) (j:=j+1) (k:=k) i (fun m p s=>by rw[show j+1+m=j+(m+1)from by omega];exact c (m+1) p (by simpa[O6,hm]using s));refine⟨t,u,fun d=>⟨by have:=(g d).1;omega, ?_⟩⟩;obtain⟨E,p,z,A⟩:=g d;refine⟨p, ?_,A⟩;rw[show k-j=(k-(j+1))+1 from by omega];simpa[O6,hm]using z
  cases f with
  |val f t=>exact o (x:=x.2) i c
  |fn f t=>exact o (x:=x.2) i c
  |row u s=>
   simp only[Cm,find];by_cases a:j=k
   . subst a;simp only[xT,qT];obtain⟨g,E⟩:=c 0 (.row u s,v) (by simp[O6,J9]);obtain⟨F,t,z,A⟩:=h;have g:B j=v:=g;refine⟨⟨F,by rw[g];exact t,z,fun b d=> ?_⟩,trivial,fun _=>⟨qP _,(.row u s,v),by simp[O6,J9],fun b d=>by rw[g]at d;exact d⟩⟩;rw[g]at d;exact⟨E b ((E1 t).trans d),A b d⟩
   . simp only[E3 a,rD];exact l rfl a
  |box T t=>
   simp only[Cm,find];by_cases a:j=k
   . subst a;simp only[xT,qT];obtain⟨d,E⟩:=c 0 (.box T t,v) (by simp[O6,J9]);obtain⟨b,F,g,u,z,A⟩:=h;have d:B j=v:=d;exact⟨⟨b,F,d.trans g,E b (by rw[g];rfl),u,z,S2 A⟩,E7,fun _=>⟨qP _,(.box T t,v),by simp[O6,J9],fun b s=>by rw[d]at s;exact s⟩⟩
   . simp only[E3 a,rD];exact l rfl a
  |rows u s t=>
   simp only[Cm,find];by_cases a:j=k
   . subst a;simp only[xT,qT];obtain⟨g,E⟩:=c 0 (.rows u s t,v) (by simp[O6,J9]);obtain⟨z,A⟩:=h;have g:B j=v:=g;refine⟨Aw.rl (by rw[g];exact z) fun b d=> ?_,fun p F=>(by cases F),fun _=>⟨qP _,(.rows u s t,v),by simp[O6,J9],fun b d=>by rw[g]at d;exact(T1 fun _ _=>rfl).1 d⟩⟩;rw[g]at d;exact⟨E b ((T1 fun _ _=>rfl).1 d),A b d⟩
   . simp only[E3 a,rD];exact l rfl a
def Y0.len:∀ {as:List AM} {vs:List Value} {x:A5 as},Y0 P w Z as vs x->vs.length=as.length
 | [],_,_,h=>by rw[show _= _ from h];rfl
 | _:: _,_,_,⟨v,b,e,_,a⟩=>by rw[e,rE,rE,Y0.len a]
def Y1:∀ {as:List AM} {vs:List Value},vs.length=as.length->(D3 as vs).length=Ir as
 | [],vs,_=>by cases vs<;>rfl
 |a::r,[],h=>by simp at h
 | .val _ _::r,v::vs,h=>Y1 (as:=r) (by simpa using h)
 | .fn _ _ _::r,v::vs,h=>Y1 (as:=r) (by simpa using h)
 | .row _ _::r,v::vs,h=>by simp only[D3,J9,qT,rE,Ir];rw[Y1 (as:=r) (by simpa using h)]
 | .box _ _::r,v::vs,h=>by simp only[D3,J9,qT,rE,Ir];rw[Y1 (as:=r) (by simpa using h)]
 | .rows _ _ _::r,v::vs,h=>by simp only[D3,J9,qT,rE,Ir];rw[Y1 (as:=r) (by simpa using h)]
def Rl:∀(as:List AM) (vs:List Value),D3 as vs=(O6 as vs).map (·.2)
 | [],vs=>by cases vs<;>rfl
 | _:: _,[]=>rfl
 |a::r,v::vs=>by
  simp only[D3,O6];cases J9 a
  . exact Rl r vs
  . simp only[qT,rW,Rl r vs]
def Dis.get:∀ {l:List (AM×Value)} {m c b:Nat} {u a:AM×Value},Dis w l->m<c->l[m]? =some u->l[c]? =some a->A8 w u.2 (lcA u.1) b->¬A8 w a.2 (lcA a.1) b
 | [],_,_,_,_,_,_,_,h,_,_=>by simp at h
 |v::l,0,c+1,b,u,a,g,i,h,d,f=>by
  simp at h d;subst h;exact g.1 b f a (sV d)
 |v::l,m+1,c+1,b,u,a,g,i,h,d,f=>by
  simp at h d;exact Dis.get g.2 (by omega) h d f
 |v::l,_,0,_,_,_,_,d,_,_,_=>by omega
def bU (as:List AM) (vs:List Value):Nat->Value:=fun j=>((D3 as vs)[j]?).getD (.bool false)
def Zi:∀ {as:List AM} {vs:List Value} {x:A5 as},Y0 P w Z as vs x->∀u∈D3 as vs,u.oneCell'=true
 | [],vs,_,_,u,a=>by cases vs<;>cases a
 | .val _ _::r,_,_,⟨v,c,e,_,a⟩,u,b=>by subst e;exact Zi (as:=r) a u b
 | .fn _ _ _::r,_,_,⟨v,c,e,_,a⟩,u,b=>by subst e;exact Zi (as:=r) a u b
 | .row t d::r,_,_,⟨v,f,e,⟨h,g,_⟩,c⟩,u,a=>by
  subst e;simp only[D3,J9,qT,qS]at a;rcases a with rfl|a
  . rcases g.2 with⟨b,_⟩ | ⟨_,_,_,b,_⟩<;>rw[b]<;>rfl
  . exact Zi (as:=r) c u a
 | .rows t d f::r,_,_,⟨v,h,e,⟨⟨i,g,_⟩,_⟩,c⟩,u,a=>by
  subst e;simp only[D3,J9,qT,qS]at a;rcases a with rfl|a
  . rcases g.2 with⟨b,_⟩ | ⟨_,_,_,b,_⟩<;>rw[b]<;>rfl
  . exact Zi (as:=r) c u a
 | .box t d::r,_,_,⟨v,h,e,⟨c,f,g,_⟩,b⟩,u,a=>by
  subst e;simp only[D3,J9,qT,qS]at a;rcases a with rfl|a
  . rw[g];rfl
  . exact Zi (as:=r) b u a
def Gf:∀ {as:List AM} {x:A5 as} {j k:Nat},¬live (find (0, .none) k (Cm as x j)).2->(find (0, .none) k (Cm as x j)).2= .none
 | [],_,_,_,_=>rfl
 | .val _ _::r,x,j,k,h=>Gf (as:=r) (x:=x.2) (j:=j) h
 | .fn _ _ _::r,x,j,k,h=>Gf (as:=r) (x:=x.2) (j:=j) h
 | .row t b::r,x,j,k,h=>by
  simp only[Cm,find]at h⊢;cases a:Nat.beq j k with
  |true=>rw[a]at h;exact absurd trivial h
  |false=>rw[a]at h;exact Gf (as:=r) h
 | .rows t b c::r,x,j,k,h=>by
  simp only[Cm,find]at h⊢;cases a:Nat.beq j k with
  |true=>rw[a]at h;exact absurd trivial h
  |false=>rw[a]at h;exact Gf (as:=r) h
 | .box T t::r,x,j,k,h=>by
  simp only[Cm,find]at h⊢;cases a:Nat.beq j k with
  |true=>rw[a]at h;exact absurd trivial h
  |false=>rw[a]at h;exact Gf (as:=r) h
def B6g (w:World) (as:List AM) (vs:List Value):Nat->Nat->Prop:=fun k b=>∃p:AM×Value,(O6 as vs)[k]? =some p/\A8 w p.2 (lcA p.1) b
def zn0 (w:World) (Z:Nat->Prop) (as:List AM) (vs:List Value):Zn:=⟨Z,iI w as vs,Ir as,bU as vs,0,0,B6g w as vs,fun _ _ ⟨p,hp,hb⟩=>⟨p,sV hp,hb⟩,[]⟩
def A9x {as:List AM} {vs:List Value} {x:A5 as} (J:∀b,Z b->b<w.heap.size) (h:Y0 P w Z as vs x) (D:Dis w (O6 as vs)):C2 (zn0 w Z as vs) w (lV P as x) (LS vs) w Z (bU as vs):=by
 have O:=Y1 (Y0.len h);have z:∀m u,(D3 as vs)[m]? =some u->bU as vs (0+m)=u:=fun m u a=>by simp only[bU,rZ,a,vL]
 have g:∀(m:Nat) (p:AM×Value),(O6 as vs)[m]? =some p->(D3 as vs)[m]? =some p.2:=fun m p a=>by rw[Rl,wO,a];rfl
 have d:=fun k=>lW (P:=P) (w:=w) (Z:=Z) (B:=bU as vs) (n:=Ir as) (U:=fun k b=>up (zn0 w Z as vs) w k b) (j:=0) (k:=k) h (fun m p a=>⟨z m p.2 (g m p a),fun b l=> .inr ⟨by have:=LP (g m p a);simp only[rZ];show m<Ir as;omega,p,by simpa using a,l⟩⟩)
 have A:=fun s=>Ge (P:=P) (w:=w) (Z:=Z) (B:=bU as vs) (E:=LS vs) (n:=Ir as) (i:=0) (j:=0) (s:=s) h (rH _) z (by omega)
 refine⟨Gd.of (P6.refl w),J,fun s=>(A s).1,fun k=>(d k).1,fun k o b Q r t=> ?_,fun s=>(A s).2,fun k=>(d k).2.1,fun k F=> ?_,fun k=> ?_,fun b l=> .inl l,⟨rfl,qP _⟩,fun _ _=>rfl,⟨rH _,fun _ _ _ _=>rH _⟩,trivial,fun M H=>(by cases H)⟩
 . obtain⟨_,p,c,v⟩:=(d k).2.2 r.live;obtain⟨_,R,f,y⟩:=(d o).2.2 t.live;simp only[g1y]at c f;rcases sD k o with I|N
   . exact D.get I c f (v b r) (y b t)
   . exact D.get (by omega:o<k) f c (y b t) (v b r)
 . by_cases G:live ((lV P as x).L k)
   . obtain⟨_,p,c,_⟩:=(d k).2.2 G;simp only[g1y]at c;have:=LP (g k p c);have F:Ir as<=k:=F;omega
   . exact Gf G
 . simp only[bU];cases a:(D3 as vs)[k]? with
   |none=>rfl
   |some u=>exact Zi h u (sV a)
def A6h {f:FuncId} {fn:Func} {c:Code} {s:A9} (a0:cx.P.funcs[f]? =some fn) (a:fn.body=some c) (a1:s.args.length<=fn.ntmps) (a3:Ar fn.ntmps c=true) (Q:F8 cx.P cx.tys=true) (a9:Qo cx.P sp)
 (ac:∀x,awf s.args x->s.pre x->B4x cx sp an s fn.results.toList c x):B4 cx.P f s:=by
 intro w Z i x ad H Y a5;have v:i.length=s.args.length:=H.len;have a8:=ac x H.awf a5;generalize k:zn0 w Z s.args i=za;have M:=A9x ad H Y;rw[k]at M;refine LM a0 a (by rw[v];exact a1) a3 (fun E l=>Nx za w (fin cx s fn.results.toList x) E l) ?_ ⟨fun a4 U G=> ?_⟩
 . rintro E l A ab ⟨st,Z',B',D,h⟩;unfold fin at h;split at h
   . rename_i ss af;split at h
     . rename_i ah aa;split at h
       . rename_i z R G a2;obtain⟨g,r⟩:=B7 h;simp only[qC]at g;obtain⟨Z0,X⟩:=C2.settleR (rs:=s.res) (ss:=ss) D;obtain⟨Z1,n⟩:=C2.settleM (as:=s.args) (j:=0) X;obtain⟨B,V,W⟩:=HJ Q n ab aa;have a7:(results fn A).run cx.P l= .ok (Wx B) l:=by
          have d:(fn.results.mapM (gG A)).run cx.P l= .ok B.toArray l:=by
           rw[yM];simp[V]
          have e:results fn A=(do let i<-fn.results.mapM (gG A);pure (if D:i.size=1 then i[0]else .tuple i)):=by
           unfold results;congr 1
          rw[e];simp only[Sem.run_bind,d,Result.andThen_ok,Sem.run_pure]
          match B with
          | []=>rfl
          | [u]=>rfl
          |u::ai::z=>rfl
         have O:s.post x z/\(O4 s.args=true->s.mpost x z R):=by
          unfold B6d at r;cases d:O4 s.args with
          |true=>simp only[d,qT]at r;exact⟨r.1,fun _=>r.2⟩
          |false=>simp only[d,rD]at r;exact⟨r,fun o=>by cases o⟩
         refine⟨_,a7, ?_,z,R,B,(fun b=>s.shared=true/\Z1 b),O.1,O.2,rfl,fun b a=> ?_, ?_, ?_⟩
         . have:=D.ext;rw[<-k]at this;exact this
         . rcases n.zin b a.2 with o|o
           . rw[<-k]at o;exact .inr ⟨a.1,o⟩
           . exact .inl ⟨o,n.zlt b a.2⟩
         . refine(Oz n (Zn:=fun b=>s.shared=true/\Z1 b) (fun b a=>a.2) ?_ W G (Hf g.1.1) g.1.2).1;cases I:s.shared with
           |true=>exact .inl fun b a=>⟨rfl,a⟩
           |false=>rw[I]at g;simp only[wJ,qC]at g;exact .inr g.2.1
         . refine Yz (Zn:=fun b=>s.shared=true/\Z1 b) n (j:=0) ?_ (fun m u d=> ?_) (fun m p d b t=> ?_) v a2
           . cases I:s.shared with
             |true=>exact .inl fun b a=>⟨rfl,a⟩
             |false=>rw[I]at g;simp only[wJ,qC]at g;exact .inr g.2.2
           . have y:=LP d;rw[Y1 v]at y;have:=n.bfix m (by rw[<-k];exact y);rw[rZ,this, <-k];show bU s.args i m=u;simp only[bU,d,vL]
           . rw[<-k,rZ]at t;rcases t with⟨t,_⟩ | ⟨_,ag,N,a⟩
             . have y:=LP (show(D3 s.args i)[m]? =some p.2 by rw[Rl,wO,d];rfl);rw[Y1 v]at y;have t:Ir s.args<=m:=t;omega
             . rw[d]at N;cases N;exact a
       . exact h.elim
     . exact h.elim
   . exact h.elim
 . refine wp_mono (pW Q a9 (by rw[<-k];rfl) M a8 a4 U G) ?_;rintro e ae l ⟨E',a6,T,Z',B',J,F⟩;refine⟨E',a6, ?_⟩;cases e with
   |normal=>exact⟨T,Z',B',J,F⟩
   |ret=>exact⟨T,Z',B',J,F⟩
   | _=>exact F.elim
def A6i {f:FuncId} {fn:Func} {c:Code} {s:A9} {a:A5 s.args->Prop} (g:cx.P.funcs[f]? =some fn) (b:fn.body=some c) (h:s.args.length<=fn.ntmps) (i:Ar fn.ntmps c=true) (k:F8 cx.P cx.tys=true) (j:Qo cx.P sp)
 (d:∀x,B4x cx sp an s fn.results.toList c x=a x) (l:∀x,awf s.args x->s.pre x->a x):B4 cx.P f s:=
 A6h g b h i k j fun x n a=>by rw[d];exact l x n a
def B4y (P:Program) (tys:List (Nat×TI)) (sp:G4) (an:An) (s:A9) (fn:Func) (x:A5 s.args):Prop:=B4x ⟨P,tys⟩ sp an s fn.results.toList (fn.body.getD .skip) x
def A6j {P:Program} {tys:List (Nat×TI)} {sp:G4} {an:An} {f:FuncId} {fn:Func} {s:A9} {g:A5 s.args->Prop} (i:P.funcs[f]? =some fn) (b:fn.body.isSome=true) (j:Nat.ble s.args.length fn.ntmps=true) (k:Ar fn.ntmps (fn.body.getD .skip)=true) (n:F8 P tys=true) (l:Qo P sp)
 (h:∀x,B4y P tys sp an s fn x=g x) (o:∀x,awf s.args x->s.pre x->g x):B4 P f s:=by
 cases a:fn.body with
 |none=>rw[a]at b;cases b
 |some c=>
  have d:fn.body.getD .skip=c:=by rw[a];rfl
  refine A6i (cx:=⟨P,tys⟩) (an:=an) (c:=c) i a (qN j) (by rw[<-d];exact k) n l (fun x=> ?_) o;rw[<-h x, <-d];rfl
def Zp (a:Nat):Nat->List SV->List (Nat×Nat×DV)
 | _,[]=> []
 |i,s::b=>(i,a, .one s)::Zp a (i+1) b
def cJ (st:St) (ss:List SV):St:=⟨Zp (st.ct+1) 0 ss,st.lc,st.nx,st.ct+1,st.nm,st.sl::st.fr⟩
def mV (cx:Cx) (b:List ResultVar) (k:St->List SV->Prop) (st:St):Prop:=
 match st.fr with
 |f::a=>(match Wm cx st b with
  |some b=>k ⟨f,st.lc,st.nx,st.ct,st.nm,a⟩ b
  |none=>False)
 | []=>False
def JV (cx:Cx) (b:List (Nat×G4×An)) (a:List ResultVar) (c:Code) (n d:Nat) (st:St) (ss:List SV) (k:St->List SV->Prop):Prop:=
 match Ep d b with
 |some (sp,an)=>bif Nat.ble ss.length n then Lb cx sp an c ⟨mV cx a k,fun _ _=>False,mV cx a k⟩ (cJ st ss)else False
 |none=>False
def ZE {g:List ResultVar} {k k':St->List SV->Prop} {ss:List SV} {a:St} (ev:C3 (cJ st ss) a) (h:mV cx g k a) (n:∀a f,C3 st a->k a f->k' a f):mV cx g k' a:=by
 unfold mV at h⊢;cases c:a.fr with
 |nil=>rw[c]at h;exact h
 |cons i j=>
  rw[c]at h;simp only at h⊢;split at h
  . have e:=ev.f;rw[c]at e;have e:N4 (st.ct+1) st.sl i/\X9 (st.ct+1) st.fr j:=e;refine n _ _ ⟨qV (uS _) ev.ct,fun s d b=> ?_,fun q d b=>ev.l q d (xF b),e.2.le (uS _)⟩ h;exact N4.find s e.1 (xF b)
  . exact h
def A5q (f:List (Nat×G4×An)) (j:List ResultVar) (c:Code) (n:Nat) {st:St} {d:Nat} {ss:List SV} {k k':St->List SV->Prop} (h:JV cx f j c n d st ss k) (g:∀a i,C3 st a->k a i->k' a i):JV cx f j c n d st ss k':=by
 unfold JV at h⊢;split at h
 . obtain⟨l,h⟩:=B7 h;simp only[l,qT];refine KT h fun e a ev b=> ?_
   cases e with
   |normal=>exact ZE ev b g
   |ret=>exact ZE ev b g
   | _=>exact b
 . exact h
def Vy (cx:Cx) (a:List (Nat×G4×An)) (b:List ResultVar) (c:Code) (n:Nat):Inl:= {run:=JV cx a b c n,step:=A5q a b c n}
def HN {c s:Nat} :∀ {ss:List SV} {i:Nat},(find (0, .dead) s (Zp c i ss)).2=if i<=s then(match ss[s-i]? with|some v=> .one v|none=> .dead)else .dead
 | [],i=>by simp[Zp,find]
 |v::ss,i=>by
  simp only[Zp,find];cases b:Nat.beq i s with
  |true=>
   have:=qD b;subst this;simp
  |false=>
   have d:i≠s:=vB b;simp only[rD,HN (ss:=ss) (i:=i+1)];by_cases a:i+1<=s
   . rw[qL a,qL (by omega),show s-i=(s-(i+1))+1 from by omega,uM]
   . rw[qH a,qH (by omega)]
def Ns.len {w:World} {Z:Nat->Prop} {B:Nat->Value} :∀ {ss:List SV} {vs:List Value},Ns w Z B ss vs->vs.length=ss.length
 | [],_,h=>by rw[show _= _ from h];rfl
 | _:: _,_,⟨v,b,e,_,a⟩=>by rw[e,rE,rE,Ns.len a]
def KP (h:C2 za w0 st E w Z B):∀ {f:List ResultVar} {ss:List SV},Wm cx st f=some ss->∀s∈ss,Jw st.nx s
 | [],_,a=>by cases a;intro s a;cases a
 | .tmp t::r,ss,a=>by
  simp only[Wm]at a;split at a
  . rename_i g d;simp only[qJ]at a;obtain⟨i,c,rfl⟩:=a;intro s b;rcases qS.1 b with rfl|b
    . have:=h.refs t;rw[d]at this;exact this
    . exact KP h c s b
  . cases a
 | .cell g t::r,ss,a=>by
  simp only[Wm,qG,bind_some]at a;obtain⟨ti,_,a⟩:=a;split at a
  . rename_i k _;split at a
    . rename_i T i c;obtain⟨_,a⟩:=D8 a;simp only[qJ]at a;obtain⟨j,d,rfl⟩:=a;intro s b;rcases qS.1 b with rfl|b
      . have:=h.refl k;rw[c]at this;exact this
      . exact KP h d s b
    . cases a
  . cases a
def oC (P:Program) (a:List (Nat×G4×An)):Prop:=∀x∈a,Qo P x.2.1
def XV {α:Type} {d:Nat} {x:α} :∀ {l:List (Nat×α)},Ep d l=some x->(d,x)∈l
 | [],h=>by cases h
 | (t,y)::l,h=>by
  simp only[Ep]at h;cases a:Nat.beq t d with
  |true=>
   rw[a]at h;have:=qD a;subst this;cases h;simp
  |false=>rw[a]at h;exact qK _ (XV h)
def Mr {f:FuncId} {fn:Func} {c:Code} {r:List (Nat×G4×An)} (X:cx.P.funcs[f]? =some fn) (V:fn.body=some c) (a5:Ar fn.ntmps c=true) (I:F8 cx.P cx.tys=true) (l:oC cx.P r):dR cx.P f (Vy cx r fn.results.toList c fn.ntmps):=by
 refine {go:= ?_};intro za w0 st E w Z B N i k J W h G a9 d;have d:JV cx r fn.results.toList c fn.ntmps N st i J:=d;unfold JV at d;split at d
 . rename_i sp an a1;have l:=l _ (XV a1);simp only at l;obtain⟨x,d⟩:=B7 d;have x:=qN x;have a3:=G.len;have A:∀s,(cJ st i).S s=match i[s]? with|some v=> .one v|none=> .dead:=fun s=>by
    show(find (0, .dead) s (Zp (st.ct+1) 0 i)).2= _;rw[HN,qL (rH _)];rfl
   have U:C2 {za with es:=E::za.es} w0 (cJ st i) (LS k) w Z B:=by
    refine⟨h.ext,h.zlt,fun s=> ?_,h.locs,h.disj,fun s=> ?_,h.refl,h.fresh,h.bone,h.zin,h.nms,h.bfix,h.mrk,⟨h.slots,h.frs⟩,fun H o s=> ?_⟩
    . rw[A];cases z:i[s]? with
      |none=>trivial
      |some v=>
       obtain⟨u,O,Q⟩:=G.get z;show RS w Z B v (LS k s);simp only[LS,O,vL];exact Q
    . rw[A];cases z:i[s]? with
      |none=>trivial
      |some v=>exact a9 v (sV z)
    . rcases qS.1 o with rfl|o
      . exact h.refs s
      . exact h.frf H o s
   refine LM X V (by rw[a3];exact x) a5 (fun E' j=>Nx {za with es:=E::za.es} w0 (mV cx fn.results.toList J) E' j) ?_ ⟨fun a6 M a7=> ?_⟩
   . rintro E' j n ab ⟨g,Z',B',a,b⟩;unfold mV at b;have F:=a.frs;have t:=a.frf;cases D:g.fr with
     |nil=>rw[D]at b;exact b.elim
     |cons z O=>
      rw[D]at b F t;simp only at b;obtain⟨Y,a0⟩:=F;split at b
      . rename_i ac H;obtain⟨o,R,T⟩:=HJ I a ab H;have aa:(results fn n).run cx.P j= .ok (Wx o) j:=by
         have a4:(fn.results.mapM (gG n)).run cx.P j= .ok o.toArray j:=by
          rw[yM];simp[R]
         have e:results fn n=(do let k<-fn.results.mapM (gG n);pure (if h:k.size=1 then k[0]else .tuple k)):=by
          unfold results;congr 1
         rw[e];simp only[Sem.run_bind,a4,Result.andThen_ok,Sem.run_pure]
         match o with
         | []=>rfl
         | [u]=>rfl
         |u::af::ae=>rfl
        exact⟨_,aa,⟨z,g.lc,g.nx,g.ct,g.nm,O⟩,Z',B',ac,o,⟨a.ext,a.zlt,Y,a.locs,a.disj,fun s=>t z (by simp) s,a.refl,a.fresh,a.bone,a.zin,a.nms,a.bfix,a.mrk,a0,fun Q a2 s=>t Q (by simp[a2]) s⟩,rfl,T,KP a H,b⟩
      . exact b.elim
   . refine wp_mono (pW I l (by exact W) U d a6 M a7) ?_;rintro e ad j ⟨E',a8,g,Z',B',a,y⟩;refine⟨E',a8, ?_⟩;cases e with
     |normal=>exact⟨g,Z',B',a,y⟩
     |ret=>exact⟨g,Z',B',a,y⟩
     | _=>exact y.elim
 . exact d.elim
def Dl (run:Inl):A9:= {args:= [],res:= [],pre:=fun _=>False,post:=fun _ _=>True,inl:=some run}
end
end Go.Vc
namespace Go.Proofs.YtljgpjhcieidbaaGreat
open Go.IntKind (i64 u64 u32)
def nv:List Int->Nat
 | []=>0
 |a::l=>a.toNat+4294967296*nv l
def nc (n:Nat):List Int:=if h:n=0 then []else((n%4294967296:Nat):Int)::nc (n/4294967296)
termination_by n
decreasing_by omega
def bP (x:Int):Prop:=0<=x/\x<=4294967295
def A6 (l:List Int):Prop:=∀x∈l,bP x
def O1:nc 0= []:=by rw[nc];rfl
def KF {n:Nat} (h:n≠0):nc n=((n%4294967296:Nat):Int)::nc (n/4294967296):=by rw[nc];simp[h]
def F2 (n:Nat):nv (nc n)=n:=by
 induction n using Nat.strongRecOn with
 | _ n a=>
  by_cases h:n=0
  . subst h;rw[O1];rfl
  . rw[KF h];simp only[nv,a (n/4294967296) (by omega)];omega
def I9 (n:Nat):A6 (nc n):=by
 induction n using Nat.strongRecOn with
 | _ n b=>
  by_cases h:n=0
  . subst h;rw[O1];intro x a;cases a
  . rw[KF h];intro x a;rcases qS.1 a with rfl|a
    . unfold bP;omega
    . exact b (n/4294967296) (by omega) x a
def Vz {n:Nat} :nc n= []↔n=0:=by
 constructor
 . intro h;by_cases a:n=0
   . exact a
   . rw[KF a]at h;cases h
 . rintro rfl;exact O1
def pI (a:Int) (m:Nat) (b:bP a) (h:a≠0\/m≠0):nc (a.toNat+4294967296*m)=a::nc m:=by
 unfold bP at b;rw[KF (by omega)];congr 1
 . omega
 . congr 1;omega
def Oo (a b:List Int):nv (a++b)=nv a+4294967296^a.length*nv b:=by
 induction a with
 |nil=>simp[nv]
 |cons x a c=>
  simp only[xN,nv,c,rE,rY];rw[sX, <-uB, <-sN,sO 4294967296 (4294967296^a.length)]
def Oq (n:Nat):nv (List.replicate n 0)=0:=by
 induction n with
 |zero=>rfl
 |succ n a=>simp[List.replicate_succ,nv,a]
def RX {a:Int} {l:List Int} :A6 (a::l)↔bP a/\A6 l:=by simp[A6]
def Ev {l:List Int} (h:A6 l):nv l<4294967296^l.length:=by
 induction l with
 |nil=>simp[nv]
 |cons b l a=>
  rw[RX]at h;have:=a h.2;have a:=h.1;unfold bP at a;simp only[nv,rE,rY];omega
def B6t {l:List Int} (h:A6 l) (c:∀x,l.getLast? =some x->x≠0):nc (nv l)=l:=by
 induction l with
 |nil=>exact O1
 |cons b l a=>
  rw[RX]at h;simp only[nv];cases l with
  |nil=>
   have:=c b rfl;rw[pI b _ h.1 (.inl this)];simp only[nv,O1]
  |cons d l=>
   have a:=a h.2 (fun x hx=>c x (by rw[List.getLast?_cons_cons];exact hx));have g:nv (d::l)≠0:=by
    intro f;rw[f,O1]at a;cases a
   rw[pI b _ h.1 (.inr g),a]
def pJ {l:List Int} (h:A6 l) {n:Nat} (f:n<=l.length) (k:∀i x,n<=i->l[i]? =some x->x=0) (d:n=0\/∃x,l[n-1]? =some x/\x≠0):l.take n=nc (nv l):=by
 have e:nv l=nv (l.take n):=by
  conv=>lhs;rw[<-uJ n l]
  rw[Oo];have:l.drop n=List.replicate (l.length-n) 0:=by
   apply xE;intro i;rw[wX];by_cases c:n+i<l.length
   . rw[qR c,uV,qL (by omega)];rw[k (n+i) l[n+i] (by omega) (qR c)]
   . rw[rR (by omega),rR (by simp;omega)]
  rw[this,Oq];simp
 rw[e]
 symm
 apply B6t
 . intro x a;exact h x (sB a)
 . intro x a;rw[List.getLast?_eq_getElem?,qY,sY f]at a;rcases d with b| ⟨y,g,j⟩
   . subst b;simp at a
   . rw[rV (by
      rcases vA n with b|b
      . subst b;simp at a
      . omega),g]at a
     cases a;exact j
def Ds {n k:Nat} (h:n<4294967296^k):(nc n).length<=k:=by
 induction k generalizing n with
 |zero=>have:n=0:=by simpa using h
        subst this;rw[O1];exact qP _
 |succ k b=>
  by_cases a:n=0
  . subst a;rw[O1];exact rH _
  . rw[KF a,rE];have:n/4294967296<4294967296^k:=by
     rw[tN (by decide)];rw[rY]at h;exact h
    have:=b this;omega
def C8 {l:List Int} (h:A6 l):(nc (nv l)).length<=l.length:=Ds (Ev h)
def A6r {n k:Nat} (h:k<(nc n).length):4294967296^k<=n:=by
 rcases sD n (4294967296^k)with a|a
 . have:=Ds a;omega
 . exact a
def I0 {m n:Nat} (h:m<=n):(nc m).length<=(nc n).length:=by
 apply Ds;have:=Ev (I9 n);rw[F2]at this;omega
def Gg (n:Nat):n<4294967296^(nc n).length:=by
 have:=Ev (I9 n);rwa[F2]at this
def Mw (m n:Nat):(nc (m*n)).length<=(nc m).length+(nc n).length:=by
 apply Ds;rw[uT];have a:=Gg m;have b:=Gg n;exact Nat.mul_lt_mul'' a b
def KE (m n:Nat):(nc (m+n)).length<=max (nc m).length (nc n).length+1:=by
 apply Ds;have a:=Gg m;have a:=Gg n;have a:4294967296^(nc m).length<=4294967296^(max (nc m).length (nc n).length):=rX (by decide) (Nat.le_max_left ..);have a:4294967296^(nc n).length<=4294967296^(max (nc m).length (nc n).length):=rX (by decide) (g4g ..);rw[rY];omega
abbrev Il:=Bool×List Int
abbrev D1:=Il×List Int
def Bh (a b:Nat):Int:=if a<b then -1 else if b<a then 1 else 0
def N5 (a b:Int):Int:=if a<b then -1 else if b<a then 1 else 0
def iv (x:Il):Int:=if x.1=true then -(nv x.2:Int)else(nv x.2:Int)
def ic (v:Int):Il:=(decide (v<0),nc v.natAbs)
def B4w (x:D1):Int:=if nv x.2=0 then 0 else(iv x.1).sign
def rv (x:D1):Rat:=mkRat (iv x.1) (nv x.2)
def rc (q:Rat):D1:=(ic q.num,nc q.den)
def I6 (x:D1):Prop:=nv x.1.2<2147483648/\nv x.2<2147483648
instance (x:D1):Decidable (I6 x):=by unfold I6;infer_instance
def Om (x:D1):Int:=if nv x.2=0 then 0 else iv x.1
def Kz (x:D1):Int:=if nv x.2=0 then 1 else(nv x.2:Int)
def zi:Il:=(false,[])
def zr:D1:=((false,[]),[])
def ri (k:Int):D1:=(ic k,[1])
abbrev Ft (l:List Int):Prop:=l.length<=35184372088832
abbrev E4 (l:List Int):Prop:=l.length<=17592186044416
abbrev U9 (l:List Int):Prop:=l.length<=8796093022208
def F3 (x:D1):Prop:=x.1.2.length<=2199023255552/\x.2.length<=2199023255552
def Dr (a b:Il):Rat:=Rat.divInt (iv a) (iv b)
def J6 (n:Nat):Nat:=if n=0 then 0 else Nat.log2 n+1
def B4f (A B u0 u1 v0 v1:Int) (ev:Bool):Prop:=v0=0\/∃A' B':Int,A'=(if ev then u0*A-v0*B else v0*B-u0*A)/\B'=(if ev then v1*B-u1*A else u1*A-v1*B)/\0<=B'/\B'<=A'/\A=v1*A'+v0*B'/\B=u1*A'+u0*B'/\1<=v0/\1<=v1/\0<=u0/\0<=u1
def Km (l:List Int):Prop:=l.getD (l.length-1) 0≠0
end Go.Proofs.YtljgpjhcieidbaaGreat
namespace Go.Proofs.YtljgpjhcieidbaaGreat
open Go.Vc Go.Gw
open Go.IntKind (i64 u64 u32)
def O0 (a b:Bool):L3 a true b=(a||b):=by cases a<;>rfl
def I5 (a b:Bool):L3 a b false=(a&&b):=by cases a<;>rfl
def wr {a:Int} (b: -9223372036854775808<=a) (c:a<=9223372036854775807):i64.wrap a=a:=IntWalk.i64_in _ ⟨b,c⟩
def wv {a:Int} (h: -9223372036854775808<=a/\a<=9223372036854775807):i64.wrap a=a:=wr h.1 h.2
def H5 {α:Type} {d:α} {l:List α} {i:Int} (a:0<=i) (b:i<(l.length:Int)):gx d l i∈l:=sV (G9 a b)
def V5 {α:Type} {d:α} {l:List α} {i:Int} (a:0<=i) (b:i<(l.length:Int)):gx d l i=l.getD i.toNat d:=by
 have:=G9 (d:=d) a b;rw[qE,this];rfl
def Vg {α:Type} {d:α} {l:List α} {q:α->Prop} {i:Int} (b:0<=i) (c:i<(l.length:Int)) (f:∀x∈l.take i.toNat,q x) (g:q (gx d l i)):∀x∈l.take (i+1).toNat,q x:=by
 intro x a;rw[show(i+1).toNat=i.toNat+1 from by omega,rS,G9 (d:=d) b c]at a;simp at a;rcases a with a|rfl
 . exact f x a
 . exact g
def H2 {α:Type} {l:List α} {i:Int} (h:(l.length:Int)<=i):l.take i.toNat=l:=qO (by omega)
def PH:u32.max=4294967295:=by decide
def PK:u32.min=0:=by decide
def Zw:u64.max=18446744073709551615:=by decide
def cZ:u64.min=0:=by decide
def Zd:i64.max=9223372036854775807:=by decide
def Re:i64.min= -9223372036854775808:=by decide
def A4 {l:List Int} (h:∀x∈l,u32.min<=x/\x<=u32.max):A6 l:=fun x a=>by
 have:=h x a;rw[PK,PH]at this;exact this
def U8 {a:Int} (b:0<=a) (c:a<=18446744073709551615):u64.wrap a=a:=IntWalk.u64_in _ ⟨b,c⟩
def w32 {a:Int} (b:0<=a) (c:a<=4294967295):u32.wrap a=a:=IntWalk.u32_in _ ⟨b,c⟩
def Bb (a:Int):u32.wrap a=a%4294967296:=IntKind.wrap_u32 a
def Bc (a:Int):u64.wrap a=a%18446744073709551616:=IntKind.wrap_u64 a
def Ri {l:List Int} (h:A6 l) {i:Int} (a:0<=i) (b:i<(l.length:Int)):0<=gx 0 l i/\gx 0 l i<=4294967295:=h _ (H5 a b)
def LY {v:Int} (a:0<=v) (b:v<18446744073709551616):(BitVec.ofInt 64 v).toNat=v.toNat:=by
 rw[xR];congr 1;omega
def TL {v b:Int} {k:Nat} (v0:0<=v) (v1:v<2^k) (b0:0<=b) (c:b*2^k<18446744073709551616) (d:v<18446744073709551616):(((BitVec.ofInt 64 v|||BitVec.ofInt 64 (b*2^k)).toNat:Nat):Int)=v+b*2^k:=by
 have a:0<=b*2^k:=tI b0 (Int.pow_nonneg (by decide));rw[BitVec.toNat_or,LY v0 d,LY a c];have e:(b*2^k).toNat=b.toNat<<<k:=by
  rw[g4h,g3h b0 (Int.pow_nonneg (by decide)),Int.toNat_pow_of_nonneg (by decide)];rfl
 have c:v.toNat<2^k:=by
  have:(v.toNat:Int)<((2^k:Nat):Int):=by rw[uA v0,xD];exact v1
  exact uI.1 this
 rw[e,Nat.or_comm, <-zZ c, <-e,vY,uA v0,uA a,Int.add_comm]
def GR {l:List Int} {i:Int} (a:0<=i) (b:i<(l.length:Int)):nv (l.take (i+1).toNat)=nv (l.take i.toNat)+4294967296^i.toNat*(gx 0 l i).toNat:=by
 rw[show(i+1).toNat=i.toNat+1 from by omega,rS,G9 (d:=(0:Int)) a b,zI,Oo,qY,sY (by omega)];simp[nv]
def T4 {l:List Int} {i:Int} (a:0<=i) (b:i<(l.length:Int)):l.drop i.toNat=gx 0 l i::l.drop (i+1).toNat:=by
 have h:=G9 (d:=(0:Int)) a b;have a:i.toNat<l.length:=by omega
 rw[qR a]at h;rw[xC a,show(i+1).toNat=i.toNat+1 from by omega];congr 1;exact xX h
def bZ {a b:List Int} (f:A6 a) (_:A6 b) (r:a.length=b.length) {i:Int} (c:0<=i) (d:i<(a.length:Int)) (j:a.drop (i+1).toNat=b.drop (i+1).toNat) (t:gx 0 a i<gx 0 b i):nv a<nv b:=by
 have k:nv a=nv (a.take i.toNat)+4294967296^i.toNat*nv (a.drop i.toNat):=by
  conv=>lhs;rw[<-uJ i.toNat a,Oo,qY,sY (by omega)]
 have n:nv b=nv (b.take i.toNat)+4294967296^i.toNat*nv (b.drop i.toNat):=by
  conv=>lhs;rw[<-uJ i.toNat b,Oo,qY,sY (by omega)]
 have s:=Ri f c d;have g:nv (a.drop i.toNat)+1<=nv (b.drop i.toNat):=by
  rw[T4 c d,T4 c (by omega),j];simp only[nv];omega
 have o:nv (a.take i.toNat)<4294967296^i.toNat:=by
  have:=Ev (l:=a.take i.toNat) fun x hx=>f x (sB hx)
  rwa[qY,sY (by omega)]at this
 have h:=sC (4294967296^i.toNat) g;rw[sX,wV]at h;omega
def Zj {m n:Nat} (h:(nc m).length<(nc n).length):m<n:=by
 rcases sD m n with a|a
 . exact a
 . have:=I0 a;omega
def Rm:nc 1= [1]:=by rw[KF (by decide)];simp[O1]
def B4n:nv [1]=1:=rfl
def bY:nv []=0:=rfl
def YT (n:Nat):Bh n n=0:=by simp[Bh]
def Lj {m n:Nat} (h:m<n):Bh m n= -1:=by simp[Bh,h]
def OZ {m n:Nat} (h:n<m):Bh m n=1:=by
 unfold Bh;rw[qH (by omega),qL h]
def SK {m n:Nat} :Bh m n=0↔m=n:=by
 unfold Bh;split
 . omega
 . split<;>omega
def O5 (v:Int):iv (ic v)=v:=by
 unfold iv ic;simp only[rU,F2];split<;>omega
def A5l {neg:Bool} {m:Nat} :ic (iv (neg,nc m))=(neg&&decide (m≠0),nc m):=by
 unfold ic iv;simp only[F2];cases neg
 . simp
 . simp only[xI,vW,Prod.mk.injEq,wI];constructor
   . omega
   . congr 1;omega
def B6i {x:Il} :ic (iv x)=(x.1&&decide (nv x.2≠0),nc (nv x.2)):=by
 have:iv x=iv (x.1,nc (nv x.2)):=by unfold iv;simp only[F2]
 rw[this,A5l]
def B4u (k:Int):nv (ri k).2=1:=rfl
def cK (k:Int):rc (k:Rat)=ri k:=by
 unfold rc ri;rw[g2h,g2g,Rm]
def ZM (k:Int):rv (ri k)=(k:Rat):=by
 unfold rv;rw[B4u];show mkRat (iv (ic k)) 1= _;rw[O5];exact Rat.mkRat_one k
def P8 (q:Rat):rv (rc q)=q:=by
 unfold rv rc;simp only[O5,F2];exact g0x q
def B0y (x:D1):B4w x=(rv x).num.sign:=by
 unfold B4w rv;split
 . rename_i h;rw[h,yJ];rfl
 . rename_i h;rw[Rat.num_mkRat,qH h];have b:(0:Int)<(((nv x.2).gcd (iv x.1).natAbs:Nat):Int):=by
    have:=g1n (iv x.1).natAbs (sW h);omega
   have c:(((nv x.2).gcd (iv x.1).natAbs:Nat):Int)∣iv x.1:=xS.2 (yH ..);obtain⟨d,a⟩:=c;generalize (((nv x.2).gcd (iv x.1).natAbs:Nat):Int)=g at b a;rw[a,xJ _ (by omega),g3u,uQ b,Int.one_mul]
def Li {x:Int} {d:Nat} (a:d≠0):(mkRat x d).num=x/((d.gcd x.natAbs:Nat):Int)/\(mkRat x d).den=d/d.gcd x.natAbs:=by
 rw[Rat.num_mkRat,Rat.den_mkRat,qH a,qH a];exact⟨rfl,rfl⟩
def dg (l:List Int) (i:Nat):Nat:=(l.getD i 0).toNat
def H7 (l:List Int) (i:Nat):nv (l.take (i+1))=nv (l.take i)+4294967296^i*dg l i:=by
 unfold dg;by_cases h:i<l.length
 . have:=GR (l:=l) (i:=(i:Int)) (by omega) (by omega);rw[show((i:Int)+1).toNat=i+1 from by omega,qW]at this;rw[this,V5 (by omega) (by omega),qW]
 . rw[qO (by omega),qO (by omega),qE,rR (by omega)];simp
def L5 {l:List Int} (h:A6 l) (i:Nat):dg l i<=4294967295:=by
 unfold dg;by_cases a:i<l.length
 . rw[qE,qR a];have:=h l[i] (wF a);unfold bP at this;simp only[vL];omega
 . rw[qE,rR (by omega)];simp
def Dy {l:List Int} (h:A6 l) {i:Int} (a:0<=i) (b:i<(l.length:Int)):gx 0 l i=(dg l i.toNat:Int):=by
 have:=Ri h a b;unfold dg;rw[<-V5 (d:=(0:Int)) a b];omega
def V4 {l:List Int} (h:A6 l) {i:Nat} :l.getD i 0=(dg l i:Int):=by
 unfold dg;by_cases a:i<l.length
 . have:=h l[i] (wF a);unfold bP at this;rw[qE,qR a];simp only[vL];omega
 . rw[qE,rR (by omega)];rfl
def Mq {l:List Int} {i:Nat} (h:l.length<=i):dg l i=0:=by
 unfold dg;rw[qE,rR h];rfl
def R6 {l:List Int} {i:Nat} {v:Int} (h:i<l.length):nv ((l.set i v).take (i+1))=nv (l.take i)+4294967296^i*v.toNat:=by
 rw[H7,yR (qP _)];unfold dg;rw[qE,sM h];rfl
def Hx:∀ {l:List Int} {k:Nat} {v:Int},k<l.length->nv (l.set k v)+4294967296^k*dg l k=nv l+4294967296^k*v.toNat
 | [],_,_,h=>by simp at h
 |a::l,0,v,_=>by simp[nv,dg];omega
 |a::l,k+1,v,h=>by
  have d:=Hx (l:=l) (k:=k) (v:=v) (by simpa using h);have e:dg (a::l) (k+1)=dg l k:=by simp[dg]
  rw[e];simp only[g3m,nv,rY];generalize nv (l.set k v)=A at*;have b:4294967296^k*4294967296*dg l k=4294967296*(4294967296^k*dg l k):=by rw[sO (4294967296^k) 4294967296,sN]
  have c:4294967296^k*4294967296*v.toNat=4294967296*(4294967296^k*v.toNat):=by rw[sO (4294967296^k) 4294967296,sN]
  rw[b,c,uB,uB, <-sX, <-sX,d]
def YL {l:List Int} {k:Nat} {v:Int} (h:A6 l) (b:bP v):A6 (l.set k v):=fun x a=>by
 rcases List.mem_or_eq_of_mem_set a with a|a
 . exact h x a
 . rw[a];exact b
def Vp {l:List Int} {k i:Nat} {v:Int} (a:k<l.length):dg (l.set k v) i=if i=k then v.toNat else dg l i:=by
 unfold dg;rw[qE,zO];by_cases h:k=i
 . subst h;rw[qL rfl,qL a,qL rfl];rfl
 . rw[qH h,qH (fun e=>h e.symm),qE]
def GE (n i:Nat):dg (List.replicate n 0) i=0:=by
 unfold dg;rw[qE,uV];split<;>rfl
def LX {l:List Int} {i:Nat} (h:∀j,i<=j->dg l j=0):nv (l.take i)=nv l:=by
 have b:∀k,nv (l.take (i+k))=nv (l.take i):=by
  intro k
  induction k with
  |zero=>rfl
  |succ k a=>rw[<-uB,H7,a,h (i+k) (by omega),wK,sQ]
 rw[<-b l.length,qO (by omega)]
def YX {P A B o c a b s d:Nat} (h:o+P*c=A+B) (f:s+4294967296*d=c+a+b):(o+P*s)+(P*4294967296)*d=(A+P*a)+(B+P*b):=by
 have:=tC (P* ·) f;simp only[sX, <-sN]at this;omega
def SL {P A B o c a b s d:Nat} (h:A+P*c=o+B) (f:a+4294967296*d=s+b+c):(A+P*a)+(P*4294967296)*d=(o+P*s)+(B+P*b):=by
 have:=tC (P* ·) f;simp only[sX, <-sN]at this;omega
def A1t {a b:List Int} (c:A6 a) (d:A6 b):nv a+nv b<4294967296^(max a.length b.length+1):=by
 have f:=Ev c;have h:=Ev d;have g:4294967296^a.length<=4294967296^(max a.length b.length):=rX (by decide) (Nat.le_max_left ..);have i:4294967296^b.length<=4294967296^(max a.length b.length):=rX (by decide) (g4g ..);rw[rY];generalize 4294967296^(max a.length b.length)=P at*;omega
def CV {P c x:Nat} (h:P*c<=x) (a:x<P):c=0:=by
 rcases vA c with a|a
 . exact a
 . have:=sC P a;omega
def Hv (l:List Int):iv (false,l)=(nv l:Int):=rfl
def RU (l:List Int):iv (true,l)= -(nv l:Int):=rfl
def A5v (b:Bool) (l:List Int):iv (!b,l)= -iv (b,l):=by
 cases b
 . rfl
 . show(nv l:Int)= - -(nv l:Int);omega
def Er (v:Int):(ic v).2.length=(nc v.natAbs).length:=rfl
def lS:ic 1=(false,[1]):=by unfold ic;rw[show(1:Int).natAbs=1 from rfl,Rm];rfl
def bF:ic 0=(false,[]):=by unfold ic;rw[show(0:Int).natAbs=0 from rfl,O1];rfl
def pQ:rc 0=((false,[]),[1]):=by
 unfold rc;rw[Rat.zero_num,Rat.zero_den,bF,Rm]
def fI {a:Il} {b:Il} (h:iv b=1):Dr a b=((iv a:Int):Rat):=by
 unfold Dr;rw[h];have:=zW (iv a) 1;rw[show((1:Nat):Int)=1 from rfl]at this;rw[this];exact Rat.mkRat_one _
def A1a {a:Il} {b:Il} (h:iv b=0):Dr a b=0:=by
 unfold Dr;rw[h,Rat.divInt_zero]
def B0z (x:D1):Dr x.1 (false,x.2)=rv x:=by
 unfold Dr rv;rw[Hv,zW]
end Go.Proofs.YtljgpjhcieidbaaGreat
namespace Go.Proofs.YtljgpjhcieidbaaGreat
open Go.IntKind (i64 u64 u32)
structure VU (U V v1 v2 t u2 P:Nat):Prop where
 pos:0<P
 v1p:0<v1
 v1b:v1<4294967296
 v2b:v2<4294967296
 u2b:u2<4294967296
 vlo:(v1*4294967296+v2)*P<=V
 vhi:V<(v1*4294967296+v2+1)*P
 ulo:(t*4294967296+u2)*P<=U
 uhi:U<(t*4294967296+u2+1)*P
 lt:U<V*4294967296
variable {U V v1 v2 t u2 P:Nat}
def VU.vpos (h:VU U V v1 v2 t u2 P):0<V:=by
 have a:=h.vlo;have a:0<(v1*4294967296+v2)*P:=g2x (by have:=h.v1p;omega) h.pos;omega
def VU.quo (h:VU U V v1 v2 t u2 P):U/V<4294967296:=by
 rw[tN h.vpos,sO];exact h.lt
def pA {a b c P Q:Nat} (f:0<P) (h:a*P<=Q) (g:Q<(b+1)*P) (d:c<=a):c<=b:=by
 have f:c*P<=a*P:=rJ _ d;have d:c*P<(b+1)*P:=by omega
 have:=wY d;omega
def VU.top (h:VU U V v1 v2 t u2 P):t*4294967296+u2<(v1*4294967296+v2+1)*4294967296:=by
 have a:=h.ulo;have a:=h.lt;have a:=rJ 4294967296 (vK h.vhi);have a:(t*4294967296+u2)*P<((v1*4294967296+v2+1)*4294967296)*P:=by
  have b:V*4294967296<(v1*4294967296+v2+1)*P*4294967296:=wU h.vhi (by decide);rw[zH];omega
 exact wY a
def VU.t_le (h:VU U V v1 v2 t u2 P):t<=v1*4294967296+v2:=by
 have:=h.top;omega
def VU.est (h:VU U V v1 v2 t u2 P):U/V*v1<=t:=by
 have a:U/V*V<=U:=yS U V;have b:U/V*(v1*4294967296+v2)*P<=U:=by
  rw[sN];exact qV (sC _ h.vlo) a
 have a:U/V*(v1*4294967296+v2)<=t*4294967296+u2:=pA h.pos b h.uhi (qP _);rw[sX, <-sN]at a;have:=h.u2b;omega
def VU.dec (h:VU U V v1 v2 t u2 P) {d r:Nat} (f:t=d*v1+r) (a:U/V<=d) (b:4294967296<=d\/r*4294967296+u2<d*v2):U/V+1<=d:=by
 rcases sD (U/V) d with a|a
 . omega
 . exfalso;have c:U/V=d:=by omega
   rcases b with b|b
   . have:=h.quo;omega
   . have a:d*V<=U:=by rw[<-c];exact yS U V
     have b:d*(v1*4294967296+v2)*P<=U:=by
      rw[sN];exact qV (sC _ h.vlo) a
     have a:d*(v1*4294967296+v2)<=t*4294967296+u2:=pA h.pos b h.uhi (qP _);rw[sX, <-sN,f,uX]at a;omega
def VU.near (h:VU U V v1 v2 t u2 P) {d r:Nat} (c:t=d*v1+r) (g:d<4294967296) (a:d*v2<=r*4294967296+u2):d<=U/V+1:=by
 have a:=h.ulo;have b:d*(v1*4294967296+v2)<=t*4294967296+u2:=by
  rw[c,uX,sX, <-sN];omega
 have c:d*(v1*4294967296+v2)*P<=U:=qV (rJ _ b) a;have a:d*V<=d*((v1*4294967296+v2+1)*P):=sC _ (vK h.vhi);have b:d*((v1*4294967296+v2+1)*P)=d*(v1*4294967296+v2)*P+d*P:=by
  rw[<-sN,sX d,wV,uX]
 have f:d*P<V:=by
  have i:d*P<4294967296*P:=wU g h.pos;have g:4294967296*P<=(v1*4294967296+v2)*P:=rJ _ (by have:=h.v1p;omega);have:=h.vlo;omega
 have g:d*V<U+V:=xU (qV a (Nat.le_of_eq b)) (Nat.add_lt_add_of_le_of_lt c f);rcases vA d with a|a
 . rw[a];exact rH _
 . have a:(d-1)*V<U:=by
    have:d*V=(d-1)*V+V:=by
     conv=>lhs;rw[show d=d-1+1 from by omega,uX,xQ]
    omega
   have:=(vE h.vpos).2 (vK a);omega
def VU.out (h:VU U V v1 v2 t u2 P) {d r:Nat} (c:t=d*v1+r) (b:4294967296<=r) (a:U/V<=d):d<4294967296/\d*v2<=r*4294967296+u2:=by
 have a:=h.t_le;have a:=h.v2b;have b:d<4294967296:=by
  rcases sD d 4294967296 with a|a
  . exact a
  . have:=rJ v1 a;rw[sO 4294967296]at this;omega
 refine⟨b, ?_⟩;have a:d*v2<=4294967295*4294967295:=vH (by omega) (by omega);omega
end Go.Proofs.YtljgpjhcieidbaaGreat
namespace Go.Proofs.YtljgpjhcieidbaaGreat
open Go.Vc Go.Gw
open Go.IntKind (i64 u64 u32)
def Yq:J6 0=0:=rfl
def aL (n:Nat):n<2^J6 n:=by
 unfold J6;split
 . rename_i h;subst h;decide
 . exact Nat.lt_log2_self
def Yp {n:Nat} (h:n≠0):2^(J6 n-1)<=n/\1<=J6 n:=by
 unfold J6;rw[qH h,Nat.add_sub_cancel];exact⟨Nat.log2_self_le h,by omega⟩
def A9f {n k:Nat} (a:2^k<=n) (b:n<2^(k+1)):J6 n=k+1:=by
 have c:0<2^k:=tL (by decide);unfold J6;rw[qH (by omega)];congr 1;exact(Nat.log2_eq_iff (by omega)).2 ⟨a,b⟩
def GA {n k:Nat} (h:2^k<=n):J6 n=J6 (n/2^k)+k:=by
 have a:0<2^k:=tL (by decide);have c:n/2^k≠0:=by
  have:1<=n/2^k:=(vE a).2 (by omega);omega
 obtain⟨b,d⟩:=Yp c;have c:=aL (n/2^k);have e:J6 (n/2^k)+k=(J6 (n/2^k)-1+k)+1:=by omega
 rw[e];apply A9f
 . rw[uT];have:=(vE a).1 b;exact this
 . rw[show J6 (n/2^k)-1+k+1=J6 (n/2^k)+k from by omega,uT];exact(tN a).1 c
def QK (p q:Rat):Int:=if p<q then -1 else if q<p then 1 else 0
def QL {a b:Int} {c d:Nat} (f:c≠0) (g:d≠0):QK (mkRat a c) (mkRat b d)=N5 (a*d) (b*c):=by
 have h:∀ {a b:Int} {c d:Nat},c≠0->d≠0->(mkRat a c<mkRat b d↔a*d<b*c):=fun {a b c d} f g=>by
  have i:(0:Rat)<(c:Rat):=Rat.natCast_pos.2 (sW f);have j:(0:Rat)<(d:Rat):=Rat.natCast_pos.2 (sW g);rw[yL,yL,Rat.div_lt_iff i,uC,uD,xV _ (c:Rat), <-uD, <-uC,Rat.lt_div_iff j];have:(a:Rat)*(d:Rat)=((a*(d:Int):Int):Rat):=by rw[g0c];rfl
  have i:(b:Rat)*(c:Rat)=((b*(c:Int):Int):Rat):=by rw[g0c];rfl
  rw[this,i,Rat.intCast_lt_intCast]
 unfold QK N5;simp only[h f g,h g f]
def A0q {p q:Rat} (h:p.num.sign≠q.num.sign):QK p q=N5 p.num.sign q.num.sign:=by
 have l:=g3a p;have n:=g3a q;have e:QK p q=N5 (p.num*q.den) (q.num*p.den):=by
  have:=QL (a:=p.num) (b:=q.num) p.den_nz q.den_nz;rwa[g0x,g0x]at this
 rw[e];have j:(p.num*(q.den:Int)).sign=p.num.sign:=by rw[g3u,uQ (show(0:Int)<q.den by omega),Int.mul_one]
 have k:(q.num*(p.den:Int)).sign=q.num.sign:=by rw[g3u,uQ (show(0:Int)<p.den by omega),Int.mul_one]
 rw[<-j, <-k]at h⊢;generalize p.num*(q.den:Int)=x at*;generalize q.num*(p.den:Int)=y at*;have i:∀z:Int,(z<0/\z.sign= -1)\/(z=0/\z.sign=0)\/(0<z/\z.sign=1):=fun z=>by
  rcases g1b z 0 with h|h|h
  . exact .inl ⟨h,wW h⟩
  . exact .inr (.inl ⟨h,by rw[h];rfl⟩)
  . exact .inr (.inr ⟨h,uQ h⟩)
 unfold N5;rcases i x with⟨f,c⟩ | ⟨f,c⟩ | ⟨f,c⟩<;>rcases i y with⟨g,d⟩ | ⟨g,d⟩ | ⟨g,d⟩<;>rw[c,d]at h⊢ <;>first|exact absurd rfl h| (split<;>(try split)<;>(try split)<;>(try split)<;>omega)
end Go.Proofs.YtljgpjhcieidbaaGreat
namespace Go.Proofs.YtljgpjhcieidbaaGreat
open Go.IntKind (i64 u64 u32)
structure Leh (X Y w x y u0 u1 u2 v0 v1 v2:Int) (ev:Bool):Prop where
 yx:y<=x
 y0:0<=y
 x0:0<x
 u10:0<=u1
 u20:0<=u2
 v10:0<=v1
 v20:1<=v2
 uv2:u2<=v2
 ex:x=if ev then v1*Y-u1*X else u1*X-v1*Y
 ey:y=if ev then u2*X-v2*Y else v2*Y-u2*X
 idX:x*v2+y*v1=X
 idY:x*u2+y*u1=Y
 det:u1*v2-u2*v1=if ev then -1 else 1
 /--At the start,or with what the cofactors before need. -/
 back:(u0=0/\u1=1/\v0=0/\v1=0/\ev=false/\u2=0/\v2=1)\/(0<=u0/\0<=v0/\u1<=v1/\v1<=x/\u0<=w/\v0<=w/\w-x>=v0+v1/\(v0=0\/u0<=v0)/\1<=v1/\
  w=(if ev then u0*X-v0*Y else v0*Y-u0*X)/\(u0*v1-u1*v0=if ev then 1 else -1))
def Leh.start {X Y:Int} (b:0<=Y) (h:Y<=X) (a:0<X):Leh X Y 0 X Y 0 1 0 0 0 1 false where
 yx:=h
 y0:=b
 x0:=a
 u10:=by decide
 u20:=by decide
 v10:=by decide
 v20:=by decide
 uv2:=by decide
 ex:=by simp
 ey:=by simp
 idX:=by omega
 idY:=by omega
 det:=by simp
 back:= .inl ⟨rfl,rfl,rfl,rfl,rfl,rfl,rfl⟩
def Leh.step {X Y w x y u0 u1 a v0 v1 v2:Int} {ev:Bool} (h:Leh X Y w x y u0 u1 a v0 v1 v2 ev) (c1:v2<=y) (G:v1+v2<=x-y):Leh X Y x y (x%y) u1 a (u1+x/y*a) v1 v2 (v1+x/y*v2) (!ev):=by
 have E:=h.v20;have j:0<y:=by omega
 have z:1<=x/y:=by
  rw[g1v j];have:=h.yx;omega
 have B:=g2b x (b:=y) (by omega);have D:=zC x j;have H:x=y*(x/y)+x%y:=(yA x y).symm;have i:x%y=x-x/y*y:=by rw[g1w (x/y)];omega
 have u:=h.idX;have v:=h.idY;have k:=h.det;have d:=h.ex;have f:=h.ey;have n:=h.u20;have l:=h.u10;have F:=h.v10;have o:=h.uv2;generalize x/y=q at*;have A:0<=q*a:=tI (by omega) n;have J:1*v2<=q*v2:=sG z (by omega);have I:q*a<=q*v2:=tS o (by omega);refine⟨wS D,B,j,n,Int.add_nonneg l A,by omega,by omega, ?_, ?_, ?_, ?_, ?_, ?_, .inr ⟨l,F,o,c1, ?_,by omega,by omega, ?_,E, ?_, ?_⟩⟩
 . rcases h.back with⟨_,c,_,g,_,r,s⟩ | ⟨_,_,c,_⟩
   . subst r s;omega
   . omega
 . cases ev<;>simpa using f
 . rw[i];cases ev
   . simp only[g0p,vW,vR,yK]at d f⊢;rw[d,f];grind
   . simp only[yV,vW,vR,yK]at d f⊢;rw[d,f];grind
 . rw[i, <-u];grind
 . rw[i, <-v];grind
 . have t:a*(v1+q*v2)-(u1+q*a)*v2= -(u1*v2-a*v1):=by
    grind
   rw[t,k];cases ev<;>simp
 . rcases h.back with⟨_,c,_,g,_⟩ | ⟨_,_,c,_⟩<;>omega
 . rcases h.back with⟨_,c,_,g,_⟩ | ⟨_,_,c,_⟩
   . exact .inl g
   . exact .inr c
 . cases ev<;>simpa using d
 . rw[k];cases ev<;>simp
def Leh.apply {X Y w x y u0 u1 D v0 v1 v2:Int} {ev:Bool} (h:Leh X Y w x y u0 u1 D v0 v1 v2 ev) (l:v0≠0) {P α a A B:Int} (I:0<P) (j:0<=α) (J:α<P) (k:0<=a) (M:a<P) (d:A=X*P+α) (f:B=Y*P+a):
 ∃A' B':Int,A'=(if ev then u0*A-v0*B else v0*B-u0*A)/\B'=(if ev then v1*B-u1*A else u1*A-v1*B)/\0<=B'/\B'<=A'/\A=v1*A'+v0*B'/\B=u1*A'+u0*B'/\1<=v0/\1<=v1/\0<=u0/\0<=u1:=by
 rcases h.back with⟨_,_,o,_⟩ | ⟨n,G,E,R,O,Q,H,z,F,c,det⟩
 . exact absurd o l
 have N:u0<=v0:=z.resolve_left l;have i:=h.u10;refine⟨_,_,rfl,rfl, ?_, ?_, ?_, ?_,by omega,F,n,i⟩
 . --the second combination is not negative
   have b:=h.ex;have g:0<=(x-v1)*P:=tI (by omega) (by omega);have r:0<=u1*α:=tI i j;have s:v1*a<=v1*P:=tS (by omega) (by omega);have t:0<=v1*a:=tI (by omega) k;have u:u1*α<=u1*P:=tS (by omega) i;have v:u1*P<=v1*P:=sG E (by omega);rw[Int.sub_mul]at g;cases ev
   . simp only[vR,yK]at b⊢;have:u1*A-v1*B=x*P+u1*α-v1*a:=by
      rw[d,f,b];grind
     omega
   . simp only[vW]at b⊢;have:v1*B-u1*A=x*P+v1*a-u1*α:=by
      rw[d,f,b];grind
     omega
 . have b:=h.ex;have g:0<=(w-x-(v0+v1))*P:=tI (by omega) (by omega);have r:0<=(u0+u1)*α:=tI (by omega) j;have s:(v0+v1)*a<=(v0+v1)*P:=tS (by omega) (by omega);have t:0<=(v0+v1)*a:=tI (by omega) k;have u:(u0+u1)*α<=(u0+u1)*P:=tS (by omega) (by omega);have v:(u0+u1)*P<=(v0+v1)*P:=sG (by omega) (by omega);rw[Int.sub_mul]at g;cases ev
   . simp only[vR,yK]at b c⊢;have:v0*B-u0*A-(u1*A-v1*B)=(w-x)*P+(v0+v1)*a-(u0+u1)*α:=by
      rw[d,f,b,c];grind
     omega
   . simp only[vW]at b c⊢;have:u0*A-v0*B-(v1*B-u1*A)=(w-x)*P+(u0+u1)*α-(v0+v1)*a:=by
      rw[d,f,b,c];grind
     omega
 . cases ev
   . simp only[vR,yK]at det⊢;have:v1*(v0*B-u0*A)+v0*(u1*A-v1*B)= -(u0*v1-u1*v0)*A:=by
      grind
     rw[this,det];omega
   . simp only[vW]at det⊢;have:v1*(u0*A-v0*B)+v0*(v1*B-u1*A)=(u0*v1-u1*v0)*A:=by
      grind
     rw[this,det];omega
 . cases ev
   . simp only[vR,yK]at det⊢;have:u1*(v0*B-u0*A)+u0*(u1*A-v1*B)= -(u0*v1-u1*v0)*B:=by
      grind
     rw[this,det];omega
   . simp only[vW]at det⊢;have:u1*(u0*A-v0*B)+u0*(v1*B-u1*A)=(u0*v1-u1*v0)*B:=by
      grind
     rw[this,det];omega
def A5h {A B A' B' u0 u1 v0 v1 s t p q:Int} (a:A=v1*A'+v0*B') (b:B=u1*A'+u0*B') (c:A'=s*A+t*B) (d:B'=p*A+q*B):Int.gcd A B=Int.gcd A' B':=by
 apply Nat.dvd_antisymm
 . apply Int.dvd_gcd
   . rw[c];exact g2o (uU (zU ..)) (uU (zK ..))
   . rw[d];exact g2o (uU (zU ..)) (uU (zK ..))
 . apply Int.dvd_gcd
   . rw[a];exact g2o (uU (zU ..)) (uU (zK ..))
   . rw[b];exact g2o (uU (zU ..)) (uU (zK ..))
end Go.Proofs.YtljgpjhcieidbaaGreat
namespace Go.Proofs.YtljgpjhcieidbaaGreat
open Go.Vc Go.Gw
open Go.IntKind (i64 u64 u32)
def Zt {s:Nat} (a:s<=32):4294967296=2^s*2^(32-s):=by
 rw[<-uT,show s+(32-s)=32 from by omega]
def Jg (n:Nat):4294967296^n=2^(32*n):=by
 rw[show(4294967296:Nat)=2^32 from rfl, <-g1d]
def B2a {a low lo H P s:Nat} (b:0<P) (f:a=low+lo*P+H*(P*4294967296)) (g:low<P) (c:s<=31):a*2^s/(P*4294967296)=H*2^s+lo/2^(32-s):=by
 have c:0<P*4294967296:=g2x b (by decide);have d:0<2^s:=tL (by decide);have e:a*2^s=(low+lo*P)*2^s+H*2^s*(P*4294967296):=by
  rw[f,uX,zH H]
 rw[e,yC _ _ c,vQ];congr 1;have c:P*4294967296=P*2^(32-s)*2^s:=by rw[sN,sO (2^(32-s)), <-Zt (by omega)]
 rw[c,zT _ _ d, <-vJ,yC _ _ b,uF g,rZ]
def A2j {a s m:Nat} (h:s<=m):a*2^s/2^m=a/2^(m-s):=by
 have b:0<2^s:=tL (by decide)
 conv=>lhs;rw[show m=m-s+s from by omega,uT,zT _ _ b]
def bX (l:List Int) (i:Nat) (h:i<=l.length):nv l=nv (l.take i)+4294967296^i*nv (l.drop i):=by
 conv=>lhs;rw[<-uJ i l,Oo,qY,sY h]
def S3 {l:List Int} (h:A6 l) (i:Nat):nv (l.take i)<4294967296^i:=by
 have a:=Ev (l:=l.take i) fun x hx=>h x (sB hx)
 refine rC a (rX (by decide) ?_);rw[qY];exact g2d ..
def Rp (l:List Int) {n:Nat} (h:l.length<=n+1):nv l=nv (l.take n)+4294967296^n*dg l n:=by
 conv=>lhs;rw[<-qO h,H7]
def pL (l:List Int) {n:Nat} (h:l.length<=n+2):nv l=nv (l.take n)+4294967296^n*(dg l (n+1)*4294967296+dg l n):=by
 rw[Rp l (n:=n+1) h,H7,rY,sX,sO (dg l (n+1)), <-sN];omega
def pM (l:List Int) {n:Nat} (h:l.length<=n+3):nv l=nv (l.take n)+4294967296^n*((dg l (n+2)*4294967296+dg l (n+1))*4294967296+dg l n):=by
 rw[pL l (n:=n+1) h,H7,rY];generalize 4294967296^n=P;grind
def pB {a:List Int} (b:A6 a) {n:Nat} (c:a.length=n+1) {s:Nat} (d:s+J6 (dg a n)<=32):nv a*2^s<4294967296^(n+1):=by
 have c:=Rp a (n:=n) (by omega);have c:=S3 b n;have b:=aL (dg a n);have c:nv a<4294967296^n*2^J6 (dg a n):=by
  have:4294967296^n*(dg a n+1)<=4294967296^n*2^J6 (dg a n):=sC _ b;rw[sX,wV]at this;omega
 have b:nv a*2^s<4294967296^n*2^J6 (dg a n)*2^s:=wU c (tL (by decide));rw[sN, <-uT]at b;have c:2^(J6 (dg a n)+s)<=2^32:=rX (by decide) (by omega);have d:=sC (4294967296^n) c;rw[rY];exact rC b d
def YS {n:Nat} (h:n≠0):Km (nc n):=by
 have a:(nc n).length≠0:=fun a=>h (Vz.1 (qM a))
 unfold Km;intro a;have b:=I9 n;have e:=Rp (nc n) (n:=(nc n).length-1) (by omega);have c:dg (nc n) ((nc n).length-1)=0:=by unfold dg;rw[a];rfl
 rw[c,wK,sQ,F2]at e;have a:=S3 b ((nc n).length-1);rw[<-e]at a;have:=Ds a;omega
def KW {l:List Int} (a:A6 l) (h:Km l):dg l (l.length-1)≠0:=by
 unfold Km at h;have:=V4 a (i:=l.length-1);rw[this]at h;omega
def UI {l:List Int} (b:A6 l) (h:Km l):nv l≠0:=by
 have a:=KW b h;have b:l.length≠0:=fun e=>by
  rw[qM e]at a;simp[dg]at a
 have e:=Rp l (n:=l.length-1) (by omega);have b:0<4294967296^(l.length-1):=tL (by decide);have b:=sC (4294967296^(l.length-1)) (sW a);omega
def pD {V low P x:Nat} (h:V=low+P*x) (a:low<P):x*P<=V/\V<(x+1)*P:=by
 rw[uX,xQ,sO x,h];omega
def B3o {w v:List Int} (c:A6 w) (a:A6 v) {n:Nat} (b:v.length=n+2) (d:w.length=n+3) (h:dg v (n+1)≠0) (g:nv w<nv v*4294967296):VU (nv w) (nv v) (dg v (n+1)) (dg v n) (dg w (n+2)*4294967296+dg w (n+1)) (dg w n) (4294967296^n):=by
 have ev:=pL v (n:=n) (by omega);have b:=pM w (n:=n) (by omega);have d:=S3 a n;have f:=S3 c n;have i:=L5 a (n+1);have i:=L5 a n;have a:=L5 c n;exact⟨tL (by decide),sW h,by omega,by omega,by omega,(pD ev d).1,(pD ev d).2,(pD b f).1,(pD b f).2,g⟩
def A4n {l:List Int} (h:A6 l) (i:Nat):dg l i=nv l/4294967296^i%4294967296:=by
 have d:0<4294967296^i:=tL (by decide);by_cases a:i<l.length
 . have e:=bX l (i+1) (by omega);rw[H7]at e;have a:=S3 h i;have c:=L5 h i;have b:nv l=nv (l.take i)+(dg l i+4294967296*nv (l.drop (i+1)))*4294967296^i:=by
    rw[e,rY];generalize 4294967296^i=P;grind
   rw[b,yC _ _ d,uF a,rZ,yP,tP (by omega)]
 . rw[Mq (by omega)];have a:=Ev h;have c:4294967296^l.length<=4294967296^i:=rX (by decide) (by omega);rw[uF (by omega)]
def A9e {l:List Int} (h:A6 l) (i:Nat):dg l (i/32)/2^(i%32)%2=nv l/2^i%2:=by
 rw[A4n h,Jg];have e:i=32*(i/32)+i%32:=by omega
 have a:(4294967296:Nat)=2^(i%32)*2^(32-i%32):=Zt (by omega)
 conv=>rhs;rw[e,uT, <-vJ]
 generalize nv l/2^(32*(i/32))=x;rw[a,Nat.mod_mul_right_div_self];have a:2^(32-i%32)=2*2^(31-i%32):=by rw[<-Nat.pow_succ'];congr 1;omega
 rw[a,Nat.mod_mul_right_mod]
def A3w {a b i:Nat} (j:b≠0):a/2^i=2*(a/2^(i+1))+a/2^i%2/\
 a/2^i/b=2*(a/2^(i+1)/b)+(if b<=2*(a/2^(i+1)%b)+a/2^i%2 then 1 else 0)/\
 a/2^i%b=2*(a/2^(i+1)%b)+a/2^i%2-(if b<=2*(a/2^(i+1)%b)+a/2^i%2 then b else 0):=by
 have k:a/2^(i+1)=a/2^i/2:=by rw[rY,vJ]
 have f:a/2^i=2*(a/2^(i+1))+a/2^i%2:=by rw[k];omega
 refine⟨f, ?_⟩;have s:a/2^i%2<2:=vV _ (by decide);generalize a/2^i%2=d at*;generalize a/2^(i+1)=h at*;rw[f];have n:=wQ h b;have t:=vV h (sW j);generalize h%b=r at*;generalize h/b=q at*;have l:2*h+d=b*(2*q)+(2*r+d):=by rw[<-n];grind
 rw[l,g2e (sW j),g2f];by_cases c:b<=2*r+d
 . rw[qL c,qL c];have o:2*r+d=b+(2*r+d-b):=by omega
   have g:(2*r+d)/b=1:=Nat.div_eq_of_lt_le (by omega) (by omega);refine⟨by rw[g], ?_⟩;have:=wQ (2*r+d) b;rw[g]at this;omega
 . rw[qH c,qH c,uF (by omega),tP (by omega)];exact⟨rfl,by omega⟩
def B1d {q:List Int} (a:A6 q) {M i:Nat} (d:nv q=M*2^(i+1)) (f:i/32<q.length):∃b:Nat,dg q (i/32)=b*2^(i%32+1)/\nv (q.set (i/32) ((dg q (i/32)+2^(i%32):Nat):Int))=(2*M+1)*2^i:=by
 have e:i=32*(i/32)+i%32:=by omega
 have c:dg q (i/32)=(M*2^(i%32+1))%4294967296:=by
  rw[A4n a,d,Jg];congr 1;have a:i+1=32*(i/32)+(i%32+1):=by omega
  rw[a,uT,zS,xP _ (tL (by decide))]
 refine⟨M%2^(31-i%32), ?_, ?_⟩
 . rw[c];have a:(4294967296:Nat)=2^(31-i%32)*2^(i%32+1):=by
    rw[<-uT,show 31-i%32+(i%32+1)=32 from by omega]
   conv=>lhs;rw[a]
   rw[Nat.mul_mod_mul_right]
 . have c:=Hx (l:=q) (k:=i/32) (v:=((dg q (i/32)+2^(i%32):Nat):Int)) f;rw[qW,d,Jg,sX]at c;have a:2^(32*(i/32))*2^(i%32)=2^i:=by rw[<-uT, <-e]
   rw[a]at c;have a:(2*M+1)*2^i=M*2^(i+1)+2^i:=by rw[rY];grind
   rw[a];omega
def JM {l:List Int} (h:A6 l) (i:Nat):dg l i=nv l/4294967296^i%4294967296:=by
 have d:0<4294967296^i:=tL (by decide);have a:=L5 h i;have f:=S3 h i;rcases sD i l.length with a|a
 . have b:=bX l (i+1) a;rw[H7,rY]at b;have c:nv l=nv (l.take i)+(dg l i+nv (l.drop (i+1))*4294967296)*4294967296^i:=by rw[b];grind
   rw[c,yC _ _ d,uF f,rZ,Nat.add_mul_mod_self_right,tP (by omega)]
 . rw[Mq a];have b:=Ev h;have b:4294967296^l.length<=4294967296^i:=rX (by decide) a;rw[uF (by omega)]
def A2k {l:List Int} (h:A6 l) (i:Nat) {s:Nat} (a:s<=31):nv l/2^s/4294967296^i%4294967296=(dg l i+dg l (i+1)*4294967296)/2^s%4294967296:=by
 have d:0<2^s:=tL (by decide);have a:nv l/2^s/4294967296^i=nv l/4294967296^i/2^s:=by rw[vJ,vJ,sO]
 have b:dg l i+dg l (i+1)*4294967296=nv l/4294967296^i%(4294967296*4294967296):=by
  rw[Nat.mod_mul, <-JM h i,vJ, <-rY, <-JM h (i+1),sO]
 rw[a,b];generalize nv l/4294967296^i=W;have c:W=W%(4294967296*4294967296)+2^s*(4294967296*(2^(32-s)*(W/(4294967296*4294967296)))):=by
  have a:=Nat.mod_add_div W (4294967296*4294967296);have b:=Zt (s:=s) (by omega)
  conv=>lhs;rw[<-a]
  congr 1
  calc 4294967296*4294967296*(W/(4294967296*4294967296))=4294967296*(4294967296*(W/(4294967296*4294967296))):=sN ..
   _=(2^s*2^(32-s))*(4294967296*(W/(4294967296*4294967296))):=by rw[<-b]
   _= _:=by rw[sN,zS (2^(32-s))]
 conv=>lhs;rw[c,g2u _ _ d,yP]
def ZP {l:List Int} (h:A6 l) {k s:Nat} :nv l/2^(32*k+s)=nv (l.drop k)/2^s:=by
 rw[uT, <-Jg, <-vJ];congr 1;have b:0<4294967296^k:=tL (by decide);rcases sD l.length k with a|a
 . rw[sE (by omega)];have c:=Ev h;have c:4294967296^l.length<=4294967296^k:=rX (by decide) (by omega);rw[uF (by omega)];rfl
 . have e:=bX l k a;have a:=S3 h k;rw[e,g2u _ _ b,uF a,rZ]
def H9 (x:Il):(iv x).natAbs=nv x.2:=by
 unfold iv;split<;>omega
def DJ {a b:List Int} (c:A6 a) (d:A6 b):(nc (nv a*nv b)).length<=a.length+b.length:=by
 have f:=Mw (nv a) (nv b);have f:=C8 c;have c:=C8 d;omega
def CZ {x y:Il} (a:A6 x.2) (b:A6 y.2):(ic (iv x*iv y)).2.length<=x.2.length+y.2.length:=by
 rw[Er,vC,H9,H9];exact DJ a b
def RJ {x y:Il} {k:Nat} (a:A6 x.2) (b:A6 y.2) (c:x.2.length<=k) (d:y.2.length<=k):(ic (iv x+iv y)).2.length<=k+1:=by
 rw[Er];have e:(iv x+iv y).natAbs<=nv x.2+nv y.2:=by
  have:=zL (iv x) (iv y);rwa[H9,H9]at this
 have h:=KE (nv x.2) (nv y.2);have c:=C8 a;have a:=C8 b;have c:=I0 e;omega
def gJ (v:Int):A6 (ic v).2:=I9 _
def cM {V:Int} {D:Nat} (f:D≠0):rc (mkRat V D)=((decide (V<0),nc (V.natAbs/Nat.gcd V.natAbs D)),nc (D/Nat.gcd V.natAbs D)):=by
 obtain⟨j,i⟩:=Li (x:=V) (d:=D) f;unfold rc;rw[j,i,wT V.natAbs D];unfold ic;have g:((D.gcd V.natAbs:Nat):Int)∣V:=xS.2 (yH ..);have b:0<D.gcd V.natAbs:=g1n _ (sW f);generalize D.gcd V.natAbs=G at g b;obtain⟨c,rfl⟩:=g;rw[xJ _ (by omega)];have k:(G:Int)*c<0↔c<0:=by
  constructor
  . intro h;rcases g3t c 0 with a|a
    . exact a
    . have:=tI (wS (uI.2 b)) a;omega
  . intro h;exact yN (by omega) h
 rw[vC,uZ,xP _ b];simp only[k]
def B0u {V:Int} {D:Nat} (a:D≠0) (h:Nat.gcd V.natAbs D=1):rc (mkRat V D)=(ic V,nc D):=by
 rw[cM a,h,g2v,g2v];rfl
def KA {a b:Int} {c d:Nat} (f:c≠0) (g:d≠0):mkRat a c+mkRat b d=mkRat (a*d+b*c) (c*d):=Rat.mkRat_add_mkRat a b f g
def mE {a b:Int} {c:Nat} (d:c≠0):mkRat a c+mkRat b c=mkRat (a+b) c:=by
 rw[KA d d, <-Int.add_mul,Rat.mkRat_mul_right d]
def Jv {x:D1} {n:Il} {d:List Int} (h:(nv x.2=0->n=zi/\d= [1])/\(nv x.2≠0->n=x.1/\d=x.2)):nv d≠0/\rv x=mkRat (iv n) (nv d):=by
 rcases g3r (nv x.2=0)with a|a
 . obtain⟨rfl,rfl⟩:=h.1 a;refine⟨by decide, ?_⟩;unfold rv;rw[a,yJ];exact(Rat.zero_mkRat _).symm
 . obtain⟨rfl,rfl⟩:=h.2 a;exact⟨a,rfl⟩
def Gj {x:D1} {n:Il} {d:List Int} {k:Nat} (h:(nv x.2=0->n=zi/\d= [1])/\(nv x.2≠0->n=x.1/\d=x.2)) (b:x.1.2.length<=k) (c:x.2.length<=k) (f:1<=k):n.2.length<=k/\d.length<=k:=by
 rcases g3r (nv x.2=0)with a|a
 . obtain⟨rfl,rfl⟩:=h.1 a;exact⟨by simp[zi],by simpa using f⟩
 . obtain⟨rfl,rfl⟩:=h.2 a;exact⟨b,c⟩
end Go.Proofs.YtljgpjhcieidbaaGreat
