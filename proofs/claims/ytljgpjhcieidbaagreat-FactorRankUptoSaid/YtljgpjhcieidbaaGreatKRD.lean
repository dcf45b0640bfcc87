/- Part. -/
import Derived.Test.YtljgpjhcieidbaaGreatKRC
set_option linter.all false
namespace Go.Vc
open Go Go.RowKit Go.Gw
open Go.IntKind (i64 u64 u32)
def C3.trans {a b c:St} (h:C3 a b) (k:C3 b c):C3 a c:=by
 refine⟨qX h.ct k.ct,fun s d g=> ?_,fun q d g=> ?_, ?_⟩
 . have e:=k.s s d (qX g h.ct);rw[e]at d g⊢;exact h.s s d g
 . have e:=k.l q d (qX g h.ct);rw[e]at d g⊢;exact h.l q d g
 . exact h.f.trans h.ct k.f
def C3.setS (b:St) (d:Nat) (x:DV):C3 b (b.setS d x):=by
 refine⟨uT _,fun s c a=> ?_,fun _ _ _=>rfl,Y3.refl _ _⟩;rw[St.eS_setS]at c a⊢;split at a
 . simp only at a;omega
 . rename_i g;rw[qH g];cases f:BK d (b.S s)with
   |true=>simp only[f,qV]at a;omega
   |false=>rfl
def C3.setL (b:St) (k:Nat) (x:LC):C3 b (b.setL k x):=by
 refine⟨uT _,fun _ _ _=>rfl,fun q c a=> ?_,Y3.refl _ _⟩;rw[St.eL_setL]at c a⊢;split at a
 . simp only at a;omega
 . rename_i d;rw[qH d]
def C3.newL (b:St) (x:LC):C3 b (b.newL x):=by
 refine⟨uT _,fun _ _ _=>rfl,fun q c a=> ?_,Y3.refl _ _⟩;rw[St.eL_newL]at c a⊢;split at a
 . simp only at a;omega
 . rename_i d;rw[qH d]
def N6.mapV (n:Nat) (p:DV->Bool) (f:DV->DV):∀l,N6 n l (Vc.mapV p f (n+1) l)
 | []=>trivial
 | (s,x)::l=>by
  refine⟨rfl,fun h=> ?_,N6.mapV n p f l⟩;cases a:p x.2 with
  |true=>simp only[a,qV]at h;omega
  |false=>rfl
def Y3.mapV (n:Nat) (p:DV->Bool) (f:DV->DV):∀l,Y3 n l (l.map (Vc.mapV p f (n+1)))
 | []=>trivial
 |x::l=>⟨N6.mapV n p f x,Y3.mapV n p f l⟩
def C3.freeze (b:St) (k:Nat) (c:C):C3 b (b.freeze k c):=by
 refine⟨uT _,fun s f a=> ?_,fun q f a=> ?_,Y3.mapV _ _ _ _⟩
 . rw[St.eS_freeze]at f a⊢;cases d:Wh k (b.S s)with
   |true=>simp only[d,qV]at a;omega
   |false=>rfl
 . rw[St.eL_freeze]at f a⊢;cases d:ZE k (if q=k then(b.ct+1,LC.none)else b.eL q).2 with
   |true=>simp only[d,qV]at a;omega
   |false=>
    simp only[d,rF]at a⊢;split at a
    . simp only at a;omega
    . rename_i g;rw[qH g]
def C3.settle (a:St) (cs:List C):C3 a (settle a cs):=by
 induction cs generalizing a with
 |nil=>exact C3.refl _
 |cons c cs b=>
  cases c with
  |row k=>
   simp only[Vc.settle];cases g:a.L k with
   |row t e l=>
    cases Nat.ble a.nm k with
    |true=>exact(C3.freeze a k _).trans (b _)
    |false=>exact b a
   |rows t e f h al d=>
    cases d with
    |some _=>exact b a
    |none=>
     cases Nat.ble a.nm k with
     |true=>exact(C3.freeze a k _).trans (b _)
     |false=>exact b a
   | _=>exact b a
  |win k _ _ _=>
   simp only[Vc.settle];cases d:a.L k with
   |row t e l=>
    cases Nat.ble a.nm k with
    |true=>exact(C3.freeze a k _).trans (b _)
    |false=>exact b a
   | _=>exact b a
  |mp k=>
   simp only[Vc.settle];cases d:a.L k with
   |map _ _ _ _ _=>
    cases Nat.ble a.nm k with
    |true=>exact(C3.freeze a k _).trans (b _)
    |false=>exact b a
   | _=>exact b a
  | _=>exact b a
def C3.settleO (a:St) (x:Operand):C3 a (settleO a x):=by
 unfold Vc.settleO;split
 . exact C3.settle _ _
 . exact C3.refl _
def C3.settleP (a:St) (b:List (Nat×Operand)):C3 a (settleP a b):=by
 induction b generalizing a with
 |nil=>exact C3.refl _
 |cons x b c=>exact(C3.settleO a x.2).trans (c _)
def C3.thawS (a:St) (s:SV):C3 a (thawS a s):=by
 unfold Vc.thawS;split
 . unfold thaw;split
   . cases Nat.ble a.nm _ with
     |true=>exact(C3.setL a _ _).trans (C3.setL _ _ _)
     |false=>exact C3.refl a
   . exact C3.refl a
 . exact C3.refl a
def C3.stillB (cx:Cx) (a:St) (k:Nat):C3 a (stillB cx a k):=by
 unfold Vc.stillB;split
 . rename_i T b _;cases Nat.ble a.nm k with
   |false=>exact C3.refl _
   |true=>
    simp only[qV];split
    . split
      . split
        . exact((C3.settle a b).trans (C3.setL _ _ _)).trans (C3.setL _ _ _)
        . exact C3.refl _
      . exact C3.refl _
    . exact C3.refl _
 . exact C3.refl _
def C3.stillL (cx:Cx):∀(b:List Nat) (a:St),C3 a (b.foldl (Vc.stillB cx) a)
 | [],a=>C3.refl a
 |k::b,a=>(C3.stillB cx a k).trans (C3.stillL cx b _)
def C3.stillF (cx:Cx):∀(a:St) (as:List AM) (ss:List SV),C3 a (stillF cx a as ss)
 |a,[],_=>C3.refl a
 |a,_:: _,[]=>C3.refl a
 |a,b::as,s::ss=>by
  simp only[Vc.stillF];split
  . exact(C3.stillL cx _ a).trans (C3.stillF cx _ as ss)
  . exact C3.stillF cx a as ss
def C3.settleA:∀(as:List AM) (ss:List SV) (a:St),C3 a (settleA a as ss)
 | [],_,a=>C3.refl a
 | .val _ _::as,s::ss,a=>(C3.settle a s.cs).trans (C3.settleA as ss _)
 | .row _ _::as,s::ss,a=>(C3.thawS a s).trans (C3.settleA as ss _)
 | .rows _ _ _::as,_::ss,a=>C3.settleA as ss a
 | .rows _ _ _:: _,[],a=>C3.refl a
 | .box _ _::as,_::ss,a=>C3.settleA as ss a
 | .fn _ _ _::as,_::ss,a=>C3.settleA as ss a
 | .val _ _:: _,[],a=>C3.refl a
 | .row _ _:: _,[],a=>C3.refl a
 | .box _ _:: _,[],a=>C3.refl a
 | .fn _ _ _:: _,[],a=>C3.refl a
def C3.dropM:∀(b:List Nat) (a:St),C3 a (dropM a b)
 | [],a=>C3.refl a
 |k::b,a=>(C3.setL a k _).trans (C3.dropM b _)
def C3.addM:∀(as:List AM) (o:Ll as) (b:List Nat) (a:St),C3 a (addM as o b a)
 | [],_,b,a=>by cases b<;>exact C3.refl a
 | .row t e::as,o,[],a=>C3.refl a
 | .box t e::as,o,[],a=>C3.refl a
 | .row t e::as,o,k::b,a=>(C3.setL a k _).trans (C3.addM as o.2 b _)
 | .box t e::as,o,k::b,a=>(C3.setL a k _).trans (C3.addM as o.2 b _)
 | .val _ _::as,o,b,a=>C3.addM as o b a
 | .fn _ _ _::as,o,b,a=>C3.addM as o b a
 | .rows _ _ _::as,o,[],a=>C3.refl a
 | .rows _ _ _::as,o,k::b,a=>(C3.setL a k _).trans (C3.addM as o.2 b _)
def C3.place:∀(rs:List RT) (r:Ae rs) (a:St),C3 a (F6 rs r a).2
 | [],_,a=>C3.refl a
 | .val _ _::rs,r,a=>C3.place rs r.2 a
 | .own t e::rs,r,a=>(C3.newL a (.row t e r.1)).trans (C3.place rs r.2 _)
 | .obox T t::rs,r,a=>(C3.newL a (.box T (explode t r.1))).trans (C3.place rs r.2 _)
 | .rows t e b::rs,r,a=>(C3.newL a (.rows t e b r.1 [] none)).trans (C3.place rs r.2 _)
def C3.boxS (a:St) (d:Tmp) (T:TypeId) (cs:List C):C3 a (boxS a d T cs):=(C3.newL _ _).trans (C3.setS _ _ _)
def C3.rowS (a:St) (d:Tmp) (t:Ty) (e:TypeId) (l:List t.den):C3 a (rowS a d t e l):=(C3.newL _ _).trans (C3.setS _ _ _)
def C3.dropR (a:St) (c:C):C3 a (dropR a c):=by
 cases c with
 |row k=>exact C3.setL _ _ _
 | _=>exact C3.refl _
section
variable {cx:Cx} {sp:H1} {all:List Oper} {k k':St->Prop} {st:St}
def C3.detO (st:St) (x:Operand):C3 st (detO st x):=by
 have c:∀(b:Bool) (a:St),C3 st a->C3 st (bif b then a else st):=by
  intro b a h;cases b
  . exact C3.refl _
  . exact h
 unfold Vc.detO;split
 . unfold B1y;split
   . split
     . split
       . split
         . exact c _ _ ((C3.setL _ _ _).trans (C3.setL _ _ _))
         . exact C3.refl _
       . exact C3.refl _
     . exact C3.refl _
   . exact C3.refl _
 . exact C3.refl _
def ZS {d:Tmp} {T:TypeId} {x:Operand} {a:St} (h:ZR cx st d T x=some a):C3 st a:=by
 simp only[ZR,qG,bind_some]at h;obtain⟨ti,_,c,_,h⟩:=h;split at h
 . split at h
   . obtain⟨_,h⟩:=D7 h;cases h;exact((C3.newL _ _).trans (C3.setL _ _ _)).trans (C3.setS _ _ _)
   . cases h
 . cases h
def A2y {d:Tmp} {T:TypeId} {x y:Operand} {a:St} (h:gJ cx st d T x y=some a):C3 st a:=by
 simp only[gJ,qG,bind_some]at h;obtain⟨ti,_,t,_,b,_,c,_,f,_,h⟩:=h;cases b with
 |row k=>
  simp only at h;split at h
  . split at h
    . obtain⟨_,h⟩:=D7 h;cases h;exact(C3.setL _ _ _).trans (C3.setS _ _ _)
    . cases h
  . cases h
 | _=>simp at h
def A6y {d:Tmp} {op:Op} {φ:Option Prop} {f:St} (h:A6x cx st d op=some (φ,f)):C3 st f:=by
 unfold A6x at h;split at h
 . simp only[qG,bind_some]at h;obtain⟨s,_,h⟩:=h;obtain⟨_,h⟩:=D7 h;cases h;exact C3.boxS _ _ _ _
 . simp only[qG,bind_some]at h;obtain⟨s,_,h⟩:=h;cases h;exact C3.boxS _ _ _ _
 . simp only[qG,bind_some]at h;obtain⟨ti,_,t,_,n,_,o,_,h⟩:=h;obtain⟨_,h⟩:=D7 h;cases h;exact(C3.settleP _ _).trans (C3.rowS _ _ _ _ _)
 . simp only[qG,bind_some]at h;obtain⟨ti,_,t,_,l,_,k,_,h⟩:=h;cases c:ti.rows with
   |true=>
    simp only[c,qV,qJ]at h;obtain⟨g,a,h⟩:=h;cases h;unfold SQ at a;split at a
    . simp only[qJ]at a;obtain⟨_,_,a⟩:=a;subst a;exact(C3.newL _ _).trans (C3.setS _ _ _)
    . cases a
   |false=>
    simp only[c,rF]at h;obtain⟨_,h⟩:=D7 h;cases h;exact C3.rowS _ _ _ _ _
 . split at h
   . obtain⟨_,h⟩:=D7 h;simp only[B5q,qG,bind_some]at h;obtain⟨ti,_,t,_,i,_,j,_,l,_,r,_,h⟩:=h;obtain⟨_,h⟩:=D7 h;cases h;exact(C3.detO _ _).trans ((C3.dropR _ _).trans (C3.rowS _ _ _ _ _))
   . cases h
 . simp only[qG,bind_some]at h;obtain⟨ti,_,h⟩:=h;split at h
   . cases h;exact(C3.newL _ _).trans (C3.setS _ _ _)
   . simp only[qJ]at h;obtain⟨_,_,h⟩:=h;cases h;exact(C3.newL _ _).trans (C3.setS _ _ _)
   . cases h
 . split at h
   . simp only[qG,bind_some]at h;obtain⟨ti,_,h⟩:=h;split at h
     . simp only[bind_some]at h;obtain⟨_,_,_,_,h⟩:=h;cases h;exact C3.setS _ _ _
     . cases h
   . cases h
 . simp only[qJ]at h;obtain⟨g,b,h⟩:=h;cases h;exact ZS b
 . simp only[qG,bind_some]at h;obtain⟨ti,_,h⟩:=h;split at h
   . simp only[bind_some]at h;obtain⟨_,_,_,_,h⟩:=h;cases h;exact(C3.settleO _ _).trans ((C3.newL _ _).trans (C3.setS _ _ _))
   . cases h
 . simp only[qG,bind_some]at h;obtain⟨_,_,h⟩:=h;split at h
   . split at h
     . obtain⟨_,h⟩:=D7 h;cases h;exact C3.setS _ _ _
     . cases h
   . cases h
 . split at h
   . simp only[qJ]at h;obtain⟨g,b,h⟩:=h;cases h;exact A2y b
   . cases h
 . cases h
def mY {T:TypeId} {x:Operand} {a:St} (h:QY cx st T x=some a):C3 st a:=by unfold QY at h;cases h
def SS {T:TypeId} {m x y:Operand} {a:St} (h:KQ cx st T m x y=some a):C3 st a:=by
 simp only[KQ,qG,bind_some]at h;obtain⟨ti,_,c,_,b,_,d,_,h⟩:=h;split at h
 . simp only[bind_some]at h;obtain⟨_,_,_,_,_,_,h⟩:=h;cases h;exact(C3.settleO _ _).trans (C3.setL _ _ _)
 . cases h
def pI {ti:TI} {s:SV} {k sz i off:Nat} {a:St} (h:eE ti st s k sz i off=some a):C3 st a:=by
 unfold eE at h;split at h
 . obtain⟨_,h⟩:=D7 h;split at h
   . cases h;exact C3.setL _ _ _
   . cases h
 . split at h
   . split at h
     . obtain⟨_,h⟩:=D7 h;split at h
       . cases h;exact C3.setL _ _ _
       . cases h
     . cases h
   . cases h
 . cases h
def pJ {T:TypeId} {p v:Operand} {φ:Option Prop} {a:St} (h:UR cx st T p v=some (φ,a)):C3 st a:=by
 simp only[UR,qG,bind_some]at h;obtain⟨ti,_,c,_,h⟩:=h;split at h
 . simp only[bind_some]at h;obtain⟨s,_,h⟩:=h;split at h
   . obtain⟨_,h⟩:=D7 h;cases h;exact C3.setL _ _ _
   . cases h
 . split at h
   . split at h
     . obtain⟨_,h⟩:=D7 h;unfold Vc.attach at h;split at h
       . split at h
         . obtain⟨_,h⟩:=D7 h;cases h;exact(((C3.setL _ _ _).trans (C3.setL _ _ _)).trans (C3.setL _ _ _)).trans (C3.setL _ _ _)
         . cases h
       . cases h
     . cases h
   . simp only[bind_some,qJ]at h;obtain⟨s,_,d,b,h⟩:=h;cases h;exact(C3.settleO _ _).trans (pI b)
 . cases h
def V5 {sh:Bool} {mu:List Nat} :∀ {as:List AM} {ss:List SV} {k k':A5 as->Prop},K7 cx sp st mu sh as ss k->(∀x,k x->k' x)->K7 cx sp st mu sh as ss k'
 | [],[],_,_,h,b=>b _ h
 | [],_:: _,_,_,h,_=>h.elim
 |a::r,[],_,_,h,_=>by cases a<;>exact h.elim
 | .val a t::r,s::ss,_,_,h,b=>by
  simp only[K7]at h⊢;split at h
  . exact V5 h fun y=>b _
  . exact h.elim
 | .row t d::r,s::ss,_,_,h,c=>by
  simp only[K7]at h⊢;split at h
  . split at h
    . obtain⟨b,h⟩:=B8 h;simp only[b,qV];exact V5 h fun y=>c _
    . exact h.elim
  . exact h.elim
 | .box t d::r,s::ss,_,_,h,c=>by
  simp only[K7]at h⊢;split at h
  . split at h
    . obtain⟨b,h⟩:=B8 h;simp only[b,qV];exact V5 h fun y=>c _
    . exact h.elim
  . exact h.elim
 | .rows t d f::r,s::ss,_,_,h,c=>by
  simp only[K7]at h⊢;split at h
  . split at h
    . obtain⟨b,h⟩:=B8 h;simp only[b,qV];exact V5 h fun y=>c _
    . exact h.elim
  . exact h.elim
 | .fn j n l::r,s::ss,_,_,h,b=>by
  simp only[K7]at h⊢;split at h
  . split at h
    . obtain⟨c,h⟩:=B8 h;simp only[c,qV];obtain⟨g,i,f,h⟩:=h;exact⟨g,i,f,V5 h fun y=>b _⟩
    . exact h.elim
  . split at h
    . rename_i d;rw[g4v d];exact⟨h.1,h.2.1,V5 h.2.2 fun y=>b _⟩
    . exact h.elim
  . exact h.elim
def MD {d:Tmp} {s:B4} {ss:List SV} (h:DG cx sp st d s ss k) (g:∀f,C3 st f->k f->k' f):DG cx sp st d s ss k':=by
 unfold DG at h⊢;split at h
 . obtain⟨i,h⟩:=B8 h;simp only[i,qV];cases j:O6 s.args<;>simp only[j,rF,qV]at h⊢
   . exact V5 h fun x a=>⟨a.1,fun r c b=>g _ ((C3.place _ _ _).trans (C3.setS _ _ _)) (a.2 r c b)⟩
   . exact V5 h fun x a=>⟨a.1,fun r o c l b n=>g _ ((C3.dropM _ _).trans ((C3.place _ _ _).trans ((C3.addM _ _ _ _).trans (C3.setS _ _ _)))) (a.2 r o c l b n)⟩
 . exact h
def bV {d:Tmp} {f:Operand} {args:List Operand} (h:Yx cx sp st d f args k) (b:∀a,C3 st a->k a->k' a):Yx cx sp st d f args k':=by
 unfold Yx at h⊢;split at h
 . split at h
   . split at h
     . exact⟨h.1,h.2.1,fun n=>b _ (C3.setS _ _ _) (h.2.2 n)⟩
     . exact h
   . exact h
 . split at h
   . split at h
     . obtain⟨g,h⟩:=B8 h;simp only[g,qV];rename_i s _ _;cases c:s.inl with
       |some o=>
        simp only[c]at h⊢;exact o.step h fun a r ev j=>b _ (ev.trans (C3.setS _ _ _)) j
       |none=>
       simp only[c]at h⊢;cases l:s.shared<;>simp only[l,rF,qV]at h⊢
       . exact MD h b
       . split at h
         . obtain⟨i,h⟩:=B8 h;simp only[i,qV];exact MD h fun a ev=>b a (((C3.stillF _ _ _ _).trans (C3.settleA _ _ _)).trans ev)
         . exact h
     . exact h
   . exact h
def WX {ctx:Hc} {t:Tmp} {b:Bool} {d:Tmp} {f:Operand} {args:List Operand} (h:Oj cx sp st ctx t b d f args k) (a:∀l,C3 st l->k l->k' l):Oj cx sp st ctx t b d f args k':=by
 unfold Oj at h⊢;split at h
 . split at h
   . split at h
     . exact⟨h.1,h.2.1,fun x=>a _ (C3.setS _ _ _) (h.2.2 x)⟩
     . exact h
   . exact h
 split at h
 . split at h
   . split at h
     . split at h
       . obtain⟨g,h⟩:=B8 h;simp only[g,qV];exact a _ (C3.setS _ _ _) h
       . exact h
     obtain⟨g,h⟩:=B8 h;simp only[g,qV];rename_i z _ _ _ _;cases s:O6 z.args<;>simp only[s,rF,qV]at h⊢
     case true=>
      obtain⟨o,h⟩:=B8 h;simp only[o,qV];unfold bU at h⊢;split at h
      . obtain⟨n,h⟩:=B8 h;simp only[n,qV];refine V5 h fun A j=>⟨fun c=>⟨(j.1 c).1,fun r y i u v w=> ?_⟩,fun c=> ?_⟩
        . have:=(j.1 c).2 r y i u v w;split at this
          . exact a _ ((C3.dropM _ _).trans ((C3.place _ _ _).trans ((C3.addM _ _ _ _).trans (C3.setS _ _ _)))) this
          . exact this
        . have:=j.2 c;split at this
          . exact a _ (C3.setS _ _ _) this
          . exact this
      . exact h
     refine V5 h fun A h=>⟨h.1,fun r i=> ?_⟩
     have:=h.2 r i;split at this
     . exact a _ (C3.setS _ _ _) this
     . exact this
   . exact h
 . exact h
def nW {d:Tmp} {T:TypeId} {m x:Operand} {a:St} (h:SR cx st d T m x=some a):C3 st a:=by unfold SR at h;cases h
def nE {m s y:Operand} {a:St} (h:RQ st m s y=some a):C3 st a:=by unfold RQ at h;cases h
def N1 {α:Type} {c:Bool} {a:Option α} {x:α} (h:(bif c then a else none)=some x):a=some x:=by
 cases c with
 |true=>exact h
 |false=>cases h
def C3.giveS (st:St) (k:Nat):C3 st (giveS st k):=by
 unfold Vc.giveS;split
 . split
   . cases Nat.ble st.nm k&&Nat.ble st.nm _ && !(Nat.beq _ k)with
     |true=>exact(C3.setL _ _ _).trans (C3.setL _ _ _)
     |false=>exact C3.refl _
   . exact C3.setL _ _ _
 . exact C3.refl _
def A4v {φ:Option Prop} {b:St} {d:Tmp} {p i:Nat} (a:aX st d p i=some (φ,b)):C3 st b:=by
 unfold aX at a;split at a
 . have a:=N1 a;cases a;exact(((C3.setL _ _ _).trans (C3.newL _ _)).trans (C3.setL _ _ _)).trans (C3.setS _ _ _)
 . cases a
def A4d {φ:Option Prop} {b:St} {p r i:Nat} (a:UG st p r i=some (φ,b)):C3 st b:=by
 unfold UG at a;split at a
 . split at a
   . have a:=N1 a;split at a
     . cases a;exact((C3.setL _ _ _).trans (C3.setL _ _ _)).trans (C3.setL _ _ _)
     . cases a;exact((C3.setL _ _ _).trans (C3.setL _ _ _)).trans (C3.setL _ _ _)
     . cases a
   . cases a
 . cases a
def jR {φ:Option Prop} {b:St} {op:Op} {f:Option Tmp} (a:Ly cx st f op=some (φ,b)):C3 st b:=by
 unfold Ly at a;split at a
 . simp only[qG,bind_some]at a;obtain⟨d,_,ti,_,a⟩:=a;have a:=N1 a;simp only[bind_some]at a;obtain⟨t,_,n,_,l,_,c,_,a⟩:=a;have a:=N1 a;cases a;exact(C3.newL _ _).trans (C3.setS _ _ _)
 . simp only[qG,bind_some]at a;obtain⟨d,_,ti,_,c,_,a⟩:=a;split at a
   . have a:=N1 a;exact(C3.giveS _ _).trans (A4v a)
   . cases a
 . split at a
   . simp only[qG,bind_some]at a;obtain⟨ti,_,c,_,r,_,a⟩:=a;split at a
     . have a:=N1 a;exact A4d a
     . cases a
   . cases a
 . simp only[qG,bind_some]at a;obtain⟨d,_,ti,_,c,_,a⟩:=a;split at a
   . simp only[bind_some]at a;obtain⟨g,_,a⟩:=a;have a:=N1 a;cases a;exact((C3.setL _ _ _).trans (C3.newL _ _)).trans (C3.setS _ _ _)
   . cases a
 . simp only[qG,bind_some]at a;obtain⟨d,_,c,_,a⟩:=a;split at a
   . split at a
     . have a:=N1 a;cases a;exact C3.setS _ _ _
     . cases a
   . cases a
 . split at a
   . simp only[qG,bind_some]at a;obtain⟨ti,_,c,_,k,_,a⟩:=a;split at a
     . simp only[bind_some]at a;obtain⟨g,_,j,_,a⟩:=a;cases a;exact C3.setL _ _ _
     . cases a
   . cases a
 . split at a
   . simp only[qG,bind_some]at a;obtain⟨ti,_,t,_,h,_,i,_,o,_,a⟩:=a;split at a
     . simp only[bind_some]at a;obtain⟨l,_,a⟩:=a;have a:=N1 a;cases a;exact((C3.setL _ _ _).trans (C3.newL _ _)).trans (C3.setS _ _ _)
     . cases a
   . cases a
 . cases a
def A3t {φ:Option Prop} {b:St} {q r i:Nat} (a:TA st q r i=some (φ,b)):C3 st b:=by
 unfold TA at a;split at a
 . split at a
   . split at a
     . have a:=N1 a;cases a;exact((C3.setL _ _ _).trans (C3.setL _ _ _)).trans (C3.setL _ _ _)
     . cases a
   . cases a
 . cases a
def pA {φ:Option Prop} {b:St} {op:Op} {d:Option Tmp} (a:Xb cx st d op=some (φ,b)):C3 st b:=by
 unfold Xb at a;split at a
 . split at a
   . simp only[qG,bind_some]at a;obtain⟨ti,_,a⟩:=a;have a:=N1 a;simp only[bind_some]at a;obtain⟨t,_,f,_,c,_,a⟩:=a;split at a
     . simp only[bind_some]at a;obtain⟨l,_,a⟩:=a;have a:=N1 a;cases a;exact((C3.setL _ _ _).trans (C3.newL _ _)).trans (C3.setS _ _ _)
     . cases a
   . cases a
 . split at a
   . simp only[qG,bind_some]at a;obtain⟨ti,_,c,_,r,_,a⟩:=a;split at a
     . exact A3t (N1 a)
     . cases a
   . cases a
 . split at a
   . simp only[qG,bind_some]at a;obtain⟨ti,_,a⟩:=a;have a:=N1 a;simp only[bind_some]at a;obtain⟨t,_,f,_,g,_,h,_,i,_,a⟩:=a;split at a
     . simp only[bind_some]at a;obtain⟨j,_,a⟩:=a;have a:=N1 a;cases a;exact(((C3.dropR _ _).trans (C3.setL _ _ _)).trans (C3.newL _ _)).trans (C3.setS _ _ _)
     . cases a
   . cases a
 . cases a
def oB {φ:Option Prop} {b:St} {op:Op} {c:Option Tmp} (a:DY cx st c op=some (φ,b)):C3 st b:=by
 unfold DY at a;split at a
 . rename_i y d;cases a;exact jR d
 . exact pA a
def ZQ {ctx:Hc} {s d:Tmp} {b:Bool} {T:TypeId} {x:Operand} {c:St} (a:ZP cx st ctx s b d T x=some c):C3 st c:=by
 simp only[ZP,qG,bind_some]at a;obtain⟨ti,_,f,_,a⟩:=a;split at a
 . split at a
   . have a:=N1 a;cases a;exact((C3.newL _ _).trans (C3.setL _ _ _)).trans (C3.setS _ _ _)
   . cases a
 . cases a
def oC {d:Tmp} {p:Nat} (h:ZY st d p k) (b:∀a,C3 st a->k a->k' a):ZY st d p k':=by
 unfold ZY at h⊢;split at h
 . obtain⟨a,h⟩:=YO h;rw[a];exact⟨fun a=>b _ (((C3.setL _ _ _).trans (C3.setL _ _ _)).trans (C3.setS _ _ _)) (h.1 a),fun c y f a=>b _ ((C3.setL _ _ _).trans (C3.setS _ _ _)) (h.2 c y f a)⟩
 . exact h
def dF {d:Tmp} {x:Operand} (h:Zo st d x k) (b:∀a,C3 st a->k a->k' a):Zo st d x k':=by
 unfold Zo at h⊢;split at h
 . split at h
   . exact oC h b
   . exact h
 . exact h
def ET {o:Oper} (h:BU cx sp all o k st) (a:∀d,C3 st d->k d->k' d):BU cx sp all o k' st:=by
 obtain⟨t,w,y,x,r,u⟩:=o;unfold BU at h⊢;simp only at h⊢;split at h
 . split at h
   . split at h
     . exact E5.2 ⟨(E5.1 h).1,a _ (C3.setS _ _ _) (E5.1 h).2⟩
     . exact h
   split at h
   . rename_i b;exact E5.2 ⟨(E5.1 h).1,a _ (oB b) (E5.1 h).2⟩
   . rename_i j;clear j;split at h
     . split at h
       . split at h
         . rename_i b;exact E5.2 ⟨(E5.1 h).1,a _ (pJ b) (E5.1 h).2⟩
         . exact h
       . exact h
     . split at h
       . split at h
         . rename_i b;exact a _ (SS b) h
         . exact h
       . exact h
     . split at h
       . split at h
         . rename_i b;exact a _ (SS b) h
         . exact h
       . exact h
     . split at h
       . exact bV h a
       . exact h
     . split at h
       . rename_i z str v A s;cases str with
         |true=>exact h
         |false=>exact dF h a
       . exact h
     . split at h
       . split at h
         . rename_i b;exact a _ (nW b) h
         . exact h
       . exact h
     . split at h
       . split at h
         . rename_i b;exact a _ (nE b) h
         . exact h
       . exact h
     . split at h
       . split at h
         . rename_i b;exact a _ (mY b) h
         . exact h
       . exact h
     . split at h
       . split at h
         . rename_i f;exact E5.2 ⟨(E5.1 h).1,a _ (A6y f) (E5.1 h).2⟩
         . exact h
       . exact h
 . split at h
   . obtain⟨g,h⟩:=B8 h;simp only[g,qV];split at h
     . obtain⟨n,h⟩:=B8 h;simp only[n,qV];split at h
       . obtain⟨l,h⟩:=B8 h;simp only[l,qV];exact E5.2 ⟨(E5.1 h).1,a _ (C3.setS _ _ _) (E5.1 h).2⟩
       . exact h
       . split at h
         . exact WX h a
         . split at h
           . rename_i c;refine a _ ?_ h;simp only[bQ,qG,bind_some]at c;obtain⟨_,_,_,_,_,_,_,_,c⟩:=c;obtain⟨_,c⟩:=D7 c;cases c;exact C3.setS _ _ _
           . exact h
         . split at h
           . rename_i i;exact a _ (ZQ i) h
           . exact h
         . exact h
     . exact h
   . exact h
def MX:∀ {ops:List Oper} {k k':St->Prop} {st:St},UO cx sp all ops k st->(∀a,C3 st a->k a->k' a)->UO cx sp all ops k' st
 | [],_,_,st,h,a=>a st (C3.refl st) h
 | _:: _,_,_,_,h,f=>ET h fun b a c=>MX c fun g b d=>f g (a.trans b) d
end
inductive Tk where
 |val (t:Ty)
 |own (t:Ty) (e:TypeId)
 |ownR (t:Ty) (e e':TypeId)
 |fix (k:Nat)
 |fixB (k:Nat)
def Tk.pin:Tk->Option Nat
 | .fix k=>some k
 | .fixB k=>some k
 | _=>none
@[reducible] def shD:List Tk->Type->Type
 | [],T=>T
 | .val t::r,T=>t.den×shD r T
 | .own t _::r,T=>List t.den×shD r T
 | .ownR t _ _::r,T=>List (List t.den)×shD r T
 | .fix _::r,T=>shD r T
 | .fixB _::r,T=>shD r T
inductive LT where
 |row (t:Ty) (e:TypeId)
 |map (ka:Bool) (kt:Ty) (va:Bool) (vt:Ty)
 |rows (t:Ty) (e e':TypeId)
 |iter (ka:Bool) (kt:Ty) (va:Bool) (vt:Ty)
 |nest (t:Ty) (e e':TypeId)
 |itM (ka:Bool) (kt:Ty) (va:Bool) (vt:Ty) (q:Nat)
@[reducible] def LT.den:LT->Type
 | .row t _=>List t.den
 | .map _ a _ b=>List (a.den×b.den)
 | .rows t _ _=>List (List t.den)
 | .iter _ a _ b=>List (a.den×b.den)
 | .nest t _ _=>List t.den×List Nat
 | .itM _ a _ b _=>List (a.den×b.den)×List (a.den×b.den)
def LT.wf:(l:LT)->l.den->Prop
 | .row t _,x=>(Ty.sl t).wf x
 | .map a b c d,x=>(Ty.mp a b c d).wf x
 | .rows t _ _,x=>(Ty.sl (Ty.sl t)).wf x
 | .iter a b c d,x=>(Ty.mp a b c d).wf x
 | .nest _ _ _,x=>x.1.length<=9223372036854775807
 | .itM a b c d _,x=>(Ty.mp a b c d).wf x.2
def LT.lc:(l:LT)->l.den->LC
 | .row t e,x=> .row t e x
 | .map a b c d,x=> .map a b c d x
 | .rows t e a,x=> .rows t e a x [] none
 | .iter a b c d,x=> .iter a b c d x none
 | .nest t e a,x=> .nest t e a x.1 [] x.2
 | .itM a b c d q,x=> .itM a b c d x.1 x.2 none q
def plugL:List (Nat×LT)->St->St
 | [],a=>a
 | (k, .nest _ _ _)::r,a=>plugL r (giveS a k)
 | (k, .row _ _)::r,a=>plugL r (thaw a k)
 | _::r,a=>plugL r a
def LT.need:LT->Option Nat
 | .itM _ _ _ _ q=>some q
 | _=>none
def nZ (a:St) (t:Ty) (e e':TypeId) (k:Nat):Option (List t.den×List Nat):=match a.L k with
 | .nest f d a c [] b=>if h:f=t then(bif Nat.beq d e&&Nat.beq a e' then some (h▸c,b)else none)else none
 | _=>none
def nT (a:St) (k:Nat):(l:LT)->Option l.den
 | .row t e=>Ts a t e k
 | .map b c d f=>mapM a b c d f k
 | .rows t e b=>rowsAt a t e b k
 | .iter b d g i=>match a.L k with
  | .iter c f h j n _=>if o:Ty.mp c f h j=Ty.mp b d g i then some (o▸(show(Ty.mp c f h j).den from n):(Ty.mp b d g i).den)else none
  | _=>none
 | .nest t e b=>nZ a t e b k
 | .itM b c f h q=>match a.L k with
  | .itM a d g i j left _ o=>bif Nat.beq q o&&Nat.blt q k then(if n:Ty.mp a d g i=Ty.mp b c f h then some (n▸(show(Ty.mp a d g i).den×(Ty.mp a d g i).den from(j,left)):(Ty.mp b c f h).den×(Ty.mp b c f h).den)else none)else none
  | _=>none
@[reducible] def kG:List (Nat×LT)->Type
 | []=>Unit
 | (_,t)::r=>t.den×kG r
structure CM where
 keepS:List Nat
 keepL:List Nat
 modS:List (Nat×Bool×List Tk)
 boxL:List (Nat×TypeId×List Tk)
 rowL:List (Nat×LT)
def B9w:List (Nat×Bool×List Tk)->List Tk->List Tk
 | [],r=>r
 | (_,_,a)::l,r=>a++B9w l r
def B9v:List (Nat×TypeId×List Tk)->List Tk
 | []=> []
 | (_,_,a)::l=>a++B9v l
def CM.shs (A:CM):List Tk:=B9w A.modS (B9v A.boxL)
@[reducible] def CM.den (A:CM):Type:=shD A.shs (kG A.rowL)
def shW:(shs:List Tk)-> {T:Type} ->(T->Prop)->shD shs T->Prop
 | [],_,q,x=>q x
 | .val t::r,_,q,x=>t.wf x.1/\shW r q x.2
 | .own t _::r,_,q,x=>(Ty.sl t).wf x.1/\shW r q x.2
 | .ownR t _ _::r,_,q,x=>(Ty.sl (Ty.sl t)).wf x.1/\shW r q x.2
 | .fix _::r,_,q,x=>shW r q x
 | .fixB _::r,_,q,x=>shW r q x
def B7o:(l:List (Nat×LT))->kG l->Prop
 | [],_=>True
 | (_,t)::r,x=>t.wf x.1/\B7o r x.2
def CM.wf (A:CM) (p:A.den):Prop:=shW A.shs (B7o A.rowL) p
def bY (b:St):List (Nat×Bool×List Tk)->List C->Option (List C)
 | [],r=>some r
 | (s,d,shs)::l,r=>match b.S s with
  | .one ⟨c,a⟩=>bif(c==d)&&Nat.beq a.length shs.length then(bY b l r).map (a++ ·)else none
  | _=>none
def bX (b:St):List (Nat×TypeId×List Tk)->Option (List C)
 | []=>some []
 | (k,T,shs)::l=>match b.L k with
  | .box T' a=>bif Nat.beq T' T&&Nat.beq a.length shs.length then(bX b l).map (a++ ·)else none
  | _=>none
def CM.cells (A:CM) (a:St):Option (List C):=(bX a A.boxL).bind (bY a A.modS)
def settleSh:St->List Tk->List C->St
 |b, .val _::r,c::a=>settleSh (settle b [c]) r a
 |b, .own _ _::r,c::a=>settleSh (thawS b ⟨false,[c]⟩) r a
 |b, .ownR _ _ _::r,_::a=>settleSh b r a
 |b, .fix _::r,_::a=>settleSh b r a
 |b, .fixB _::r,_::a=>settleSh b r a
 |a,_,_=>a
def B9n (k:Nat):C->Bool
 | .row j=>Nat.beq j k
 | _=>false
def B9l (k:Nat):C->Bool
 | .box j 0=>Nat.beq j k
 | _=>false
def W3 (a:St):(shs:List Tk)-> {T:Type} ->T->List C->Option (shD shs T)
 | [],_,x,[]=>some x
 | .val t::r,_,x,c::b=>(QV t c).bind fun y=>(W3 a r x b).map fun z=>(y,z)
 | .own t e::r,_,x,c::b=>(LK a t e c).bind fun y=>(W3 a r x b).map fun z=>(y,z)
 | .ownR t e d::r,_,x,c::b=>(aO a t e d c).bind fun y=>(W3 a r x b).map fun z=>(y,z)
 | .fix k::r,_,x,c::b=>bif B9n k c then W3 a r x b else none
 | .fixB k::r,_,x,c::b=>bif B9l k c then W3 a r x b else none
 | _,_,_,_=>none
def A7f (l:List (Nat×LT)) (bl:List (Nat×TypeId×List Tk)):Tk->Bool
 | .fixB k=>bl.any fun x=>Nat.beq x.1 k
 | .fix k=>l.any fun x=>Nat.beq x.1 k
 | _=>true
def A4h (a:St):(l:List (Nat×LT))->Option (kG l)
 | []=>some ()
 | (k,t)::r=>(nT a k t).bind fun y=>(A4h a r).map fun z=>(y,z)
def M5:List Tk->List C->List Nat
 | .own _ _::r, .row k::a=>k::M5 r a
 | .ownR _ _ _::r, .row k::a=>k::M5 r a
 | _::r,_::a=>M5 r a
 | _,_=> []
def jH {α:Type} (d:α) (l:List (Nat×α)):List Nat->List (Nat×α)
 | []=> []
 |s::r=>(s,find d s l)::jH d l r
def gath (A:CM) (b:St):Option (St×A.den):=do
 let c<-A.cells (plugL A.rowL b)
 let a:=settleSh (plugL A.rowL b) A.shs c
 let b<-A.cells a
 let tl<-A4h a A.rowL
 let p<-W3 a A.shs tl b
 bif DZ (A.keepL++(M5 A.shs b++((A.rowL.map fun x=>x.1)++(A.boxL.map fun x=>x.1))))&&A.shs.all (A7f A.rowL A.boxL)then some (a,p)else none
def B7h:(t:Ty)->t.den->C
 | .ptr t,x=> .pf t x 0
 |t,x=> .val t x
def placeSh:(shs:List Tk)-> {T:Type} ->shD shs T->St->List C×St×T
 | [],_,x,a=>([],a,x)
 | .val t::r,_,x,a=>(fun p=>(B7h t x.1::p.1,p.2)) (placeSh r x.2 a)
 | .own t e::r,_,x,a=>(fun p=>(C.row a.nx::p.1,p.2)) (placeSh r x.2 (a.newL (.row t e x.1)))
 | .ownR t e b::r,_,x,a=>(fun p=>(C.row a.nx::p.1,p.2)) (placeSh r x.2 (a.newL (.rows t e b x.1 [] none)))
 | .fix k::r,_,x,a=>(fun p=>(C.row k::p.1,p.2)) (placeSh r x a)
 | .fixB k::r,_,x,a=>(fun p=>(C.box k 0::p.1,p.2)) (placeSh r x a)
def putRows:(l:List (Nat×LT))->kG l->St->St
 | [],_,a=>a
 | (k,t)::r,x,a=>putRows r x.2 (a.setL k (t.lc x.1))
def putS:List (Nat×Bool×List Tk)->List C->St->List C×St
 | [],a,b=>(a,b)
 | (s,b,shs)::r,a,c=>putS r (a.drop shs.length) (c.setS s (.one ⟨b,a.take shs.length⟩))
def putB:List (Nat×TypeId×List Tk)->List C->St->St
 | [],_,a=>a
 | (k,T,shs)::r,a,b=>putB r (a.drop shs.length) (b.setL k (.box T (a.take shs.length)))
def A4w:List (Nat×TypeId×List Tk)->Nat->Nat
 | [],n=>n
 |y::r,n=>A4w r (bif Nat.blt y.1 n then n else y.1+1)
def Mh:∀(l:List (Nat×TypeId×List Tk)) (n:Nat),n<=A4w l n
 | [],n=>qR n
 |y::r,n=>by
  refine qX ?_ (Mh r _);cases a:Nat.blt y.1 n with
  |true=>exact qR n
  |false=>
   have:¬y.1<n:=fun h=>by rw[show Nat.blt y.1 n=true from by rw[Nat.blt_eq];exact h]at a;cases a
   show n<=y.1+1;omega
def UV:∀ {l:List (Nat×TypeId×List Tk)} {n:Nat},∀y∈l,y.1<A4w l n
 |y::r,n,z,a=>by
  rcases qT.1 a with rfl|a
  . refine rC ?_ (Mh r _);cases b:Nat.blt z.1 n with
    |true=>rw[Nat.blt_eq]at b;exact b
    |false=>exact rM _
  . exact UV (l:=r) z a
def kept (A:CM) (a:St):St:=⟨jH (0, .dead) a.sl A.keepS,jH (0, .none) a.lc A.keepL,A4w A.boxL a.nx,a.ct+1,a.nm,a.fr⟩
def reflect (A:CM) (a:St) (p:A.den):St:=
 (fun q=>(fun r=>putB A.boxL r.1 r.2) (putS A.modS q.1 (putRows A.rowL q.2.2 q.2.1))) (placeSh A.shs p (kept A a))
def cO (n:Nat) (g:Nat):Bool:=Nat.ble 1 g&&Nat.ble g n
def A8f (A:CM) (a b:St):Bool:=(A.keepS.all fun s=>cO a.ct (b.eS s).1)&&(A.keepL.all fun k=>cO a.ct (b.eL k).1)&&(A.rowL.all fun x=>Nat.blt x.1 a.nx)&&B7g a.ct b.fr
def JY (A:CM) (b:St) (J:A.den->Prop) (a:St):Prop:=
 match gath A a with
 |some (a,p)=>bif A8f A b a then J p else False
 |none=>False
section
variable {za:Zn} {w0 w:World} {Z:Nat->Prop} {B:Nat->Value} {st st0:St} {E:G6}
def C3.plugL:∀(l:List (Nat×LT)) (st:St),C3 st (plugL l st)
 | [],st=>C3.refl st
 | (k, .nest _ _ _)::r,st=>(C3.giveS st k).trans (C3.plugL r _)
 | (k, .row _ _)::r,st=>(C3.thawS st ⟨false,[.row k]⟩).trans (C3.plugL r _)
 | (_, .map _ _ _ _)::r,st=>C3.plugL r st
 | (_, .rows _ _ _)::r,st=>C3.plugL r st
 | (_, .iter _ _ _ _)::r,st=>C3.plugL r st
 | (_, .itM _ _ _ _ _)::r,st=>C3.plugL r st
def C2.plugL (a:za.b0=0):∀ {l:List (Nat×LT)} {st:St} {Z:Nat->Prop},C2 za w0 st E w Z B->∃Z',C2 za w0 (plugL l st) E w Z' B
 | [],_,Z,h=>⟨Z,h⟩
 | (k, .nest _ _ _)::r,_,_,h=>C2.plugL a (l:=r) (h.giveS a k)
 | (k, .row _ _)::r,_,_,h=>by
  obtain⟨Z1,b⟩:=h.thaw k;exact C2.plugL a (l:=r) b
 | (_, .map _ _ _ _)::r,_,_,h=>C2.plugL a (l:=r) h
 | (_, .rows _ _ _)::r,_,_,h=>C2.plugL a (l:=r) h
 | (_, .iter _ _ _ _)::r,_,_,h=>C2.plugL a (l:=r) h
 | (_, .itM _ _ _ _ _)::r,_,_,h=>C2.plugL a (l:=r) h
def C3.settleSh:∀(shs:List Tk) (cs:List C) (st:St),C3 st (settleSh st shs cs)
 | .val _::r,c::cs,st=>(C3.settle st [c]).trans (C3.settleSh r cs _)
 | .own _ _::r,c::cs,st=>(C3.thawS st ⟨false,[c]⟩).trans (C3.settleSh r cs _)
 | .ownR _ _ _::r,_::cs,st=>C3.settleSh r cs st
 | .ownR _ _ _:: _,[],st=>C3.refl st
 | .fix _::r,_::cs,st=>C3.settleSh r cs st
 | .fixB _::r,_::cs,st=>C3.settleSh r cs st
 | .fixB _:: _,[],st=>C3.refl st
 | [],_,st=>C3.refl st
 | .val _:: _,[],st=>C3.refl st
 | .own _ _:: _,[],st=>C3.refl st
 | .fix _:: _,[],st=>C3.refl st
def C2.settleSh:∀ {shs:List Tk} {cs:List C} {st:St} {Z:Nat->Prop},C2 za w0 st E w Z B->∃Z',C2 za w0 (settleSh st shs cs) E w Z' B
 | .val _::r,c::cs,st,Z,h=>by
  obtain⟨Z1,a⟩:=h.settle [c];exact C2.settleSh (shs:=r) (cs:=cs) a
 | .own _ _::r,c::cs,st,Z,h=>by
  obtain⟨Z1,a⟩:=h.thawS ⟨false,[c]⟩;exact C2.settleSh (shs:=r) (cs:=cs) a
 | .ownR _ _ _::r,_::cs,st,Z,h=>C2.settleSh (shs:=r) (cs:=cs) h
 | .ownR _ _ _:: _,[],st,Z,h=>⟨Z,h⟩
 | .fix _::r,_::cs,st,Z,h=>C2.settleSh (shs:=r) (cs:=cs) h
 | .fixB _::r,_::cs,st,Z,h=>C2.settleSh (shs:=r) (cs:=cs) h
 | .fixB _:: _,[],st,Z,h=>⟨Z,h⟩
 | [],_,st,Z,h=>⟨Z,h⟩
 | .val _:: _,[],st,Z,h=>⟨Z,h⟩
 | .own _ _:: _,[],st,Z,h=>⟨Z,h⟩
 | .fix _:: _,[],st,Z,h=>⟨Z,h⟩
def C3.putRows:∀(l:List (Nat×LT)) (x:kG l) (st:St),C3 st (putRows l x st)
 | [],_,st=>C3.refl st
 | (k,t)::r,x,st=>(C3.setL st k _).trans (C3.putRows r x.2 _)
def C3.placeSh:∀(shs:List Tk) {T:Type} (x:shD shs T) (st:St),C3 st (placeSh shs x st).2.1
 | [],_,_,st=>C3.refl st
 | .val t::r,_,x,st=>C3.placeSh r x.2 st
 | .own t e::r,_,x,st=>(C3.newL st (.row t e x.1)).trans (C3.placeSh r x.2 _)
 | .ownR t e a::r,_,x,st=>(C3.newL st (.rows t e a x.1 [] none)).trans (C3.placeSh r x.2 _)
 | .fix _::r,_,x,st=>C3.placeSh r x st
 | .fixB _::r,_,x,st=>C3.placeSh r x st
def C3.putS:∀(l:List (Nat×Bool×List Tk)) (cs:List C) (st:St),C3 st (putS l cs st).2
 | [],_,st=>C3.refl st
 | (s,a,shs)::r,cs,st=>(C3.setS st s _).trans (C3.putS r _ _)
def C3.putB:∀(l:List (Nat×TypeId×List Tk)) (cs:List C) (st:St),C3 st (putB l cs st)
 | [],_,st=>C3.refl st
 | (k,T,shs)::r,cs,st=>(C3.setL st k _).trans (C3.putB r _ _)
def C3.reflect (A:CM) (st0:St) (p:A.den):C3 (kept A st0) (reflect A st0 p):=
 (C3.placeSh A.shs p _).trans ((C3.putRows _ _ _).trans ((C3.putS _ _ _).trans (C3.putB _ _ _)))
def DJ {α:Type} (d:α) (l:List (Nat×α)) (q:Nat):∀b:List Nat,find d q (jH d l b)=if q∈b then find d q l else d
 | []=>rfl
 |s::r=>by
  simp only[jH,find,DJ d l q r];cases a:Nat.beq s q with
  |true=>have:=qD a;subst this;simp
  |false=>
   have:q≠s:=fun h=>by subst h;simp at a
   simp[this]
def cY (A:CM) (st:St) (s:Nat):(kept A st).eS s=if s∈A.keepS then st.eS s else(0, .dead):=DJ ..
def cX (A:CM) (st:St) (k:Nat):(kept A st).eL k=if k∈A.keepL then st.eL k else(0, .none):=DJ ..
def kF {A:CM} {p:A.den} {s:Nat} (a:((reflect A st0 p).eS s).1≠0) (b:((reflect A st0 p).eS s).1<=st0.ct):(reflect A st0 p).eS s=st0.eS s:=by
 have e:=(C3.reflect A st0 p).s s a (xL b);rw[e]at a⊢;rw[cY]at a⊢;split
 . rfl
 . rename_i b;rw[qH b]at a;exact absurd rfl a
def dY {A:CM} {p:A.den} {k:Nat} (a:((reflect A st0 p).eL k).1≠0) (b:((reflect A st0 p).eL k).1<=st0.ct):(reflect A st0 p).eL k=st0.eL k:=by
 have e:=(C3.reflect A st0 p).l k a (xL b);rw[e]at a⊢;rw[cX]at a⊢;split
 . rfl
 . rename_i b;rw[qH b]at a;exact absurd rfl a
structure B1k (n:Nat) (st:St):Prop where
 nms:st.nm=n/\n<=st.nx
 refs:∀s,HT st.nx (st.S s)
 refl:∀k,AR st.nx (st.L k)
 fresh:∀k,st.nx<=k->st.L k= .none
 frf:fD st.nx st.fr
def C2.pure (h:C2 za w0 st E w Z B):B1k za.n st:=⟨h.nms,h.refs,h.refl,h.fresh,h.frf⟩
structure Hb (za:Zn) (w0:World) (st2:St) (E:G6) (w:World) (Z:Nat->Prop) (B:Nat->Value) (used:List Nat) (st:St) (BX:Nat->Value):Prop where
 rel:C2 za w0 st E w Z BX
 own:∀j b,A9 w (BX j) (st.L j) b->∃q,q∈used/\A9 w (B q) (st2.L q) b
def Hb.disj {a:St} {d:List Nat} {BX:Nat->Value} (f:C2 za w0 a E w Z B) (c:Hb za w0 a E w Z B d st BX) {q:Nat} (h:q∉d):∀k b,A9 w (B q) (a.L q) b->¬A9 w (BX k) (st.L k) b:=fun k b a d=>by
 obtain⟨j,i,g⟩:=c.own k b d;exact f.disj q j b (fun d=>h (d▸i)) a g
end
section
variable {za:Zn} {w0 w:World} {Z:Nat->Prop} {B:Nat->Value} {st st0 st2:St} {E:G6}
def C2.setSame (h:C2 za w0 st E w Z B) (s:Nat) {x:DV} (c:RD w Z B E x (E s)) (b:HT st.nx x):C2 za w0 (st.setS s x) E w Z B:=by
 have e:upd E s (E s)=E:=by
  funext t;by_cases a:t=s
  . subst a;exact C1 _ _ _
  . exact C5 _ _ _ _ a
 have:=h.setS s (x:=x) (v:=E s) (by rw[e];exact c) b;rwa[e]at this
def B5x {A:CM} (a:C2 za w0 st2 E w Z B) (d:B1k za.n st0) (c:∀s∈A.keepS,st2.eS s=st0.eS s) (b:∀k∈A.keepL,st2.eL k=st0.eL k) (j:st2.fr=st0.fr):Hb za w0 st2 E w Z B A.keepL (kept A st0) B:=by
 have eS:∀s,(kept A st0).S s=if s∈A.keepS then st2.S s else .dead:=fun s=>by
  show((kept A st0).eS s).2= _;rw[cY];split
  . rename_i f;rw[<-c s f];rfl
  . rfl
 have eL:∀k,(kept A st0).L k=if k∈A.keepL then st2.L k else .none:=fun k=>by
  show((kept A st0).eL k).2= _;rw[cX];split
  . rename_i c;rw[<-b k c];rfl
  . rfl
 have i:∀s,(kept A st0).S s=if s∈A.keepS then st0.S s else .dead:=fun s=>by
  show((kept A st0).eS s).2= _;rw[cY];split<;>rfl
 have g:∀k,(kept A st0).L k=if k∈A.keepL then st0.L k else .none:=fun s=>by
  show((kept A st0).eL s).2= _;rw[cX];split<;>rfl
 have f:∀k b,A9 w (B k) ((kept A st0).L k) b->k∈A.keepL/\A9 w (B k) (st2.L k) b:=fun k b c=>by
  rw[eL]at c;split at c
  . rename_i h;exact⟨h,c⟩
  . exact c.elim
 refine⟨⟨a.ext,a.zlt,fun s=> ?_,fun k=> ?_,fun k h b l o r=>a.disj k h b l (f k b o).2 (f h b r).2,fun s=> ?_,fun k=> ?_,fun k c=> ?_,a.bone,a.zin,⟨d.nms.1,qX d.nms.2 (Mh _ _)⟩,a.bfix,⟨a.mrk.1,fun k b c h=>a.mrk.2 k b c (f k b h).2⟩,(by have:=a.frs;rw[j]at this;exact this),d.frf.le (Mh _ _)⟩,fun j b h=>⟨j,(f j b h).1,(f j b h).2⟩⟩
 . rw[eS];split
   . exact a.slots s
   . trivial
 . rw[eL];split
   . exact a.locs k
   . trivial
 . rw[i];split
   . exact(d.refs s).le (Mh _ _)
   . trivial
 . rw[g];split
   . exact(d.refl k).le (Mh _ _)
   . trivial
 . rw[g];split
   . exact d.fresh k (qX (Mh _ _) c)
   . rfl
def LM (j:C2 za w0 st2 E w Z B) {t:Ty} {e:TypeId} {c:C} {l:List t.den} {v:Value} (o:RC w Z B c v) (a:LK st2 t e c=some l):
 ∃xs,w.ownsRow w0.heap.size e t.size v l.length xs/\F9 (C6 t w Z) xs l/\(∀b,v.ownBlock=some b->¬Z b)/\((∃q,c= .row q/\live (st2.L q)/\v=B q)\/(root v=none/\∀q,c≠ .row q)):=by
 unfold LK at a;split at a
 . rename_i q;split at a
   . rename_i G A F f;split at a
     . rename_i x;subst x;obtain⟨g,a⟩:=D7 a;cases a;simp only[qC]at g;have D:=qP g.2;have u:=qD g.1;subst u;have n:=j.locs q;rw[f]at n;obtain⟨xs,r,s,k⟩:=n;have h:v=B q:=o;subst h;have z:∀b,(B q).ownBlock=some b->w0.heap.size<=b:=fun b d=>by
        rcases(k b d).1 with i|i
        . exact i.2
        . have:=j.nms.1;omega
       exact⟨xs,dN r z,s,fun b d=>(k b d).2, .inl ⟨q,rfl,by rw[f];trivial,rfl⟩⟩
     . cases a
   . cases a
 . obtain⟨y,a⟩:=D7 a;cases a;have h:v= .slice none 0 0:=by rw[o.1];exact Fa y
   subst h;exact⟨[],World.ownsRow_nil _ _ _ _,rfl,fun b d=>(by cases d), .inr ⟨rfl,fun q f=>(by cases f)⟩⟩
 . cases a
def kK (j:C2 za w0 st2 E w Z B) {t:Ty} {e e':TypeId} {c:C} {ls:List (List t.den)} {v:Value} (k:RC w Z B c v) (a:aO st2 t e e' c=some ls):
 Az w Z t e e' v ls/\v.oneCell'=true/\(∀b,A9 w v (.rows t e e' ls [] none) b->¬Z b/\w0.heap.size<=b/\b<w.heap.size)/\((∃q,c= .row q/\v=B q/\∀b,A9 w v (.rows t e e' ls [] none) b->A9 w (B q) (st2.L q) b)\/((∀b,¬A9 w v (.rows t e e' ls [] none) b)/\∀q,c≠ .row q)):=by
 unfold aO at a;split at a
 . rename_i q;obtain⟨h,a⟩:=D7 a;obtain⟨al,o⟩:=W4 a;obtain⟨n,g⟩:=j.rowsAt o (qP h);have f:v=B q:=k;subst f;exact⟨n,j.bone q,fun b d=>⟨(g b d).1,(g b d).2.1,(g b d).2.2.1⟩, .inl ⟨q,rfl,rfl,fun b d=>(g b d).2.2.2⟩⟩
 . obtain⟨s,a⟩:=D7 a;cases a;have f:v= .slice none 0 0:=by rw[k.1];exact Fa s
   exact⟨⟨[],by rw[f];exact World.ownsRow_nil _ _ _ _,fun l y u r=>(by simp at r),fun l x u v b _ i=>(by simp at i),fun l u b i=>(by simp at i)⟩,by rw[f];rfl,fun b d=>absurd d (TF f), .inr ⟨fun b=>TF f,fun q h=>(by cases h)⟩⟩
 . cases a
def B3e {t:Ty} {v:Value} {x:t.den} (h:C6 t w Z [v] x):RC w Z B (B7h t x) v:=by
 cases t with
 |ptr t=>
  obtain⟨b,o,a,e,r⟩:=h;simp only[sK,vR]at e;exact⟨b,o,a,by rw[e];rfl,r⟩
 | _=>exact h
def A9i {n:Nat} {t:Ty} {x:t.den} :Br n (B7h t x):=by cases t<;>trivial
def Pj (l:za.b0=0) (f:C2 za w0 st2 E w Z B):∀ {shs:List Tk} {T:Type} {tl:T} {cs:List C} {vs:List Value} {p:shD shs T} {st:St} {BX:Nat->Value} {a:List Nat},Hb za w0 st2 E w Z B a st BX->Cj w Z B cs vs->W3 st2 shs tl cs=some p->(∀q∈M5 shs cs,q∉a)->(M5 shs cs).Nodup->(∀c∈shs,∀k,c.pin=some k->k<st.nx/\BX k=B k)->
 ∃BX',Hb za w0 st2 E w Z B (M5 shs cs++a) (placeSh shs p st).2.1 BX'/\Cj w Z BX' (placeSh shs p st).1 vs/\(∀c∈(placeSh shs p st).1,Br (placeSh shs p st).2.1.nx c)/\(∀k,k<st.nx->BX' k=BX k)/\st.nx<=(placeSh shs p st).2.1.nx/\(placeSh shs p st).2.2=tl
 | [],_,tl,[],vs,p,st,BX,a,c,d,b,_,_,_=>by
  simp only[W3,rA]at b;exact⟨BX,c,d,by simp[placeSh],fun _ _=>rfl,qR _,b.symm⟩
 | [],_,_,_:: _,_,_,_,_,_,_,_,b,_,_,_=>by cases b
 | .val t::r,_,_,[],_,_,_,_,_,_,_,b,_,_,_=>by cases b
 | .own t e::r,_,_,[],_,_,_,_,_,_,_,b,_,_,_=>by cases b
 | .ownR t e d::r,_,_,[],_,_,_,_,_,_,_,b,_,_,_=>by cases b
 | .fix k::r,_,_,[],_,_,_,_,_,_,_,b,_,_,_=>by cases b
 | .fixB k::r,_,_,[],_,_,_,_,_,_,_,b,_,_,_=>by cases b
 | .fix k::u,T,tl,d::cs,vs,p,st,BX,a,c,⟨v,I,e,G,H⟩,b,t,s,o=>by
  simp only[W3]at b;obtain⟨r,b⟩:=D7 b;have D:M5 (.fix k::u) (d::cs)=M5 u cs:=by cases d<;>rfl
  rw[D]at t s⊢;obtain⟨BX',x,y,z,i,n,A⟩:=Pj l f c H b t s (fun j F=>o j (qL _ F));subst e;have g:=o _ rH k rfl;cases d with
  |row j=>
   have:=qD r;subst this;refine⟨BX',x,⟨v,I,rfl, ?_,y⟩,fun q h=> ?_,i,n,A⟩
   . show v=BX' j;rw[i j g.1,g.2];exact G
   . rcases qT.1 h with rfl|h
     . exact rC g.1 n
     . exact z q h
  | _=>cases r
 | .fixB k::x,T,tl,d::cs,vs,p,st,BX,a,c,⟨v,O,e,M,N⟩,b,t,s,r=>by
  simp only[W3]at b;obtain⟨g,b⟩:=D7 b;have H:M5 (.fixB k::x) (d::cs)=M5 x cs:=by cases d<;>rfl
  rw[H]at t s⊢;obtain⟨BX',z,A,D,n,o,F⟩:=Pj l f c N b t s (fun j I=>r j (qL _ I));subst e;have h:=r _ rH k rfl;cases d with
  |box j u=>
   cases u with
   |succ u=>cases g
   |zero=>
   have:=qD g;subst this;refine⟨BX',z,⟨v,O,rfl, ?_,A⟩,fun q i=> ?_,n,o,F⟩
   . obtain⟨y,G,J⟩:=M;exact⟨y,by rw[n j h.1,h.2];exact G,J⟩
   . rcases qT.1 i with rfl|i
     . exact rC h.1 o
     . exact D q i
  | _=>cases g
 | .val I::r,T,tl,d::cs,vs,p,st,BX,a,c,⟨v,J,e,A,D⟩,h,i,g,x=>by
  simp only[W3,bind_some,qJ]at h;obtain⟨M,F,N,G,rfl⟩:=h;have y:M5 (.val I::r) (d::cs)=M5 r cs:=by cases d<;>rfl
  rw[y]at i g⊢;obtain⟨BX',j,n,o,s,t,u⟩:=Pj l f c D G i g (fun H z=>x H (qL _ z));subst e;refine⟨BX',j,⟨v,J,rfl,B3e (bO A F),n⟩,fun q b=> ?_,s,t,u⟩;rcases qT.1 b with rfl|b
  . exact A9i
  . exact o q b
 | .ownR t i j::r,T,tl,G::cs,vs,p,st,BX,a,c,⟨v,ag,e,a9,ab⟩,F,u,A,a3=>by
  simp only[W3,bind_some,qJ]at F;obtain⟨x,a5,ai,ac,rfl⟩:=F;subst e;obtain⟨ae,aa,O,af⟩:=kK f a9 a5;have ad:∃h,Hb za w0 st2 E w Z B h (st.newL (.rows t i j x [] none)) (upd BX st.nx v)/\(∀q∈M5 r cs,q∉h)/\(M5 r cs).Nodup/\(∀q,q∈M5 (.ownR t i j::r) (G::cs)++a↔q∈M5 r cs++h):=by
   have mk:∀h,(∀q∈a,q∈h)->(∀b,A9 w v (.rows t i j x [] none) b->∃q,q∈h/\A9 w (B q) (st2.L q) b)->(∀k b,A9 w v (.rows t i j x [] none) b->¬A9 w (BX k) (st.L k) b)->Hb za w0 st2 E w Z B h (st.newL (.rows t i j x [] none)) (upd BX st.nx v):=by
    intro h a7 s a2;refine⟨c.rel.new (v:=v) (lc:= .rows t i j x [] none) (Az.rl (by rw[C1];exact ae) fun b d=>by rw[C1]at d;exact⟨.inl ⟨c.rel.nms.2,(O b d).2.1⟩,(O b d).1,(O b d).2.2⟩) a2 (fun p F=>by cases F) aa (fun b _ _=>by rw[l];exact rI _),fun o b g=> ?_⟩;rw[St.L_newL]at g;by_cases M:o=st.nx
    . subst M;rw[C1,qK rfl]at g;exact s b g
    . rw[qH M,C5 _ _ _ _ M]at g;obtain⟨q,H,I⟩:=c.own o b g;exact⟨q,a7 q H,I⟩
   rcases af with⟨q,rfl,ah,U⟩ | ⟨V,a6⟩
   . have J:M5 (.ownR t i j::r) (.row q::cs)=q::M5 r cs:=rfl;rw[J]at u A⊢;have D:=sH.1 A;refine⟨q::a,mk _ (fun y n=>qL _ n) (fun b d=>⟨q,by simp,U b d⟩) (fun k b d=> ?_),fun y n=> ?_,D.2,fun y=>by grind⟩
     . exact c.disj f (u q (by simp)) k b (U b d)
     . intro N;rcases qT.1 N with rfl|N
       . exact D.1 n
       . exact u y (qL _ n) N
   . have J:M5 (.ownR t i j::r) (G::cs)=M5 r cs:=by cases G<;>first|rfl|exact absurd rfl (a6 _)
     rw[J]at u A⊢;exact⟨a,mk _ (fun y n=>n) (fun b d=>absurd d (V b)) (fun k b d=>absurd d (V b)),u,A,fun y=>xR⟩
  obtain⟨h,W,a8,D,a4⟩:=ad;obtain⟨BX',P,X,Y,Q,R,a0⟩:=Pj l f W ab ac a8 D (fun o g k z=>by
   obtain⟨d,b⟩:=a3 o (qL _ g) k z;exact⟨uH d,(C5 _ _ _ _ (uC d)).trans b⟩)
  have a1:BX' st.nx=v:=by rw[Q st.nx (rM _),C1]
  refine⟨BX',⟨P.rel,fun o b g=> ?_⟩,⟨v,ag,rfl,a1.symm,X⟩,fun q s=> ?_,fun k z=> ?_,qX (uT _) R,a0⟩
  . obtain⟨q,H,I⟩:=P.own o b g;exact⟨q,(a4 q).2 H,I⟩
  . rcases qT.1 s with rfl|s
    . exact rC (rM _) R
    . exact Y q s
  . rw[Q k (uH z),C5 _ _ _ _ (uC z)]
 | .own t i::r,T,tl,D::cs,vs,p,st,BX,a,c,⟨v,ai,e,aa,ac⟩,U,s,y,a4=>by
  simp only[W3,bind_some,qJ]at U;obtain⟨M,a6,am,ad,rfl⟩:=U;subst e;obtain⟨aj,A,af,ag,ah⟩:=LM f aa a6;have ab:v.oneCell'=true:=by rcases A.2 with⟨V,_⟩ | ⟨_,_,_,V,_⟩<;>rw[V]<;>rfl
  have ak:=D8 A;have ae:∃h,Hb za w0 st2 E w Z B h (st.newL (.row t i M)) (upd BX st.nx v)/\(∀q∈M5 r cs,q∉h)/\(M5 r cs).Nodup/\(∀q,q∈M5 (.own t i::r) (D::cs)++a↔q∈M5 r cs++h):=by
   have mk:∀h,(∀q∈a,q∈h)->(∀b,root v=some b->∃q,q∈h/\A9 w (B q) (st2.L q) b)->(∀k b,root v=some b->¬A9 w (BX k) (st.L k) b)->Hb za w0 st2 E w Z B h (st.newL (.row t i M)) (upd BX st.nx v):=by
    intro h a8 o a3;refine⟨c.rel.new (v:=v) (lc:= .row t i M) ⟨aj,by rw[C1];exact Jw A (rI _),af,fun b d=>by rw[C1]at d;exact⟨.inl ⟨c.rel.nms.2,(World.ownsRow.lt A b d).1⟩,ag b d⟩⟩ a3 trivial ab (fun b _ _=>by rw[l];exact rI _),fun n b g=> ?_⟩;rw[St.L_newL]at g;by_cases I:n=st.nx
    . subst I;rw[C1,qK rfl]at g;exact o b g
    . rw[qH I,C5 _ _ _ _ I]at g;obtain⟨q,F,G⟩:=c.own n b g;exact⟨q,a8 q F,G⟩
   rcases ah with⟨q,rfl,Q,W⟩ | ⟨R,a7⟩
   . have H:M5 (.own t i::r) (.row q::cs)=q::M5 r cs:=rfl;rw[H]at s y⊢;have z:=sH.1 y;refine⟨q::a,mk _ (fun x j=>qL _ j) (fun b d=>⟨q,by simp,A9.of Q (by rw[<-W];exact d)⟩) (fun k b d=> ?_),fun x j=> ?_,z.2,fun x=>by grind⟩
     . rw[W]at d;exact c.disj f (s q (by simp)) k b (A9.of Q d)
     . intro J;rcases qT.1 J with rfl|J
       . exact z.1 j
       . exact s x (qL _ j) J
   . have H:M5 (.own t i::r) (D::cs)=M5 r cs:=by cases D<;>first|rfl|exact absurd rfl (a7 _)
     rw[H]at s y⊢;exact⟨a,mk _ (fun x j=>j) (fun b d=>by rw[R]at d;cases d) (fun k b d=>by rw[R]at d;cases d),s,y,fun x=>xR⟩
  obtain⟨h,X,a9,z,a5⟩:=ae;obtain⟨BX',N,Y,a0,O,P,a1⟩:=Pj l f X ac ad a9 z (fun n g k u=>by
   obtain⟨d,b⟩:=a4 n (qL _ g) k u;exact⟨uH d,(C5 _ _ _ _ (uC d)).trans b⟩)
  have a2:BX' st.nx=v:=by rw[O st.nx (rM _),C1]
  refine⟨BX',⟨N.rel,fun n b g=> ?_⟩,⟨v,ai,rfl,a2.symm,Y⟩,fun q o=> ?_,fun k u=> ?_,qX (uT _) P,a1⟩
  . obtain⟨q,F,G⟩:=N.own n b g;exact⟨q,(a5 q).2 F,G⟩
  . rcases qT.1 o with rfl|o
    . exact rC (rM _) P
    . exact a0 q o
  . rw[O k (uH u),C5 _ _ _ _ (uC u)]
end
section
variable {za:Zn} {w0 w:World} {Z:Nat->Prop} {B:Nat->Value} {st st0 st2:St} {E:G6}
def QA (E:G6):List (Nat×Bool×List Tk)->List Value->List Value->Prop
 | [],b,a=>b=a
 | (s,b,shs)::l,f,d=>∃a c,f=a++c/\a.length=shs.length/\(b=true->E s= .agg a.toArray)/\(b=false->a= [E s])/\QA E l c d
def bD (za:Zn) (w0:World) (w:World) (Z:Nat->Prop) (B:Nat->Value) (st2:St):List (Nat×TypeId×List Tk)->List Value->Prop
 | [],a=>a= []
 | (k,T,shs)::l,d=>∃a c,d=a++c/\a.length=shs.length/\live (st2.L k)/\(∃b,B k= .pointer (some ⟨b,0,none⟩)/\up za w0 k b/\¬Z b/\JI w b a.toArray T)/\bD za w0 w Z B st2 l c
def YT (f:C2 za w0 st2 E w Z B):∀ {l:List (Nat×Bool×List Tk)} {r cs:List C} {b:List Value},Cj w Z B r b->bY st2 l r=some cs->∃vs,Cj w Z B cs vs/\QA E l vs b
 | [],r,cs,b,a,h=>by cases h;exact⟨b,a,rfl⟩
 | (s,z,shs)::l,r,cs,b,x,h=>by
  simp only[bY]at h;split at h
  . rename_i n o y;obtain⟨c,h⟩:=D7 h;simp only[qJ]at h;obtain⟨A,t,rfl⟩:=h;simp only[qC,g1b]at c;obtain⟨u,c⟩:=c;subst u;have j:=qD c;obtain⟨d,g,i⟩:=YT f x t;have a:=f.slots s;rw[y]at a;cases n with
    |true=>
     obtain⟨k,e,a⟩:=a;exact⟨k++d,a.append g,k,d,rfl,by rw[<-j,a.len],fun _=>e,fun v=>(by cases v),i⟩
    |false=>
     have a:Cj w Z B o [E s]:=a;exact⟨[E s]++d,a.append g,[E s],d,rfl,by rw[<-j,a.len],fun k=>(by cases k),fun _=>rfl,i⟩
  . cases h
def YS (b:C2 za w0 st2 E w Z B):∀ {l:List (Nat×TypeId×List Tk)} {cs:List C},bX st2 l=some cs->∃vs,Cj w Z B cs vs/\bD za w0 w Z B st2 l vs
 | [],cs,h=>by cases h;exact⟨[],rfl,rfl⟩
 | (v,T,shs)::l,cs,h=>by
  simp only[bX]at h;split at h
  . rename_i T' x f;obtain⟨a,h⟩:=D7 h;simp only[qJ]at h;obtain⟨y,j,rfl⟩:=h;simp only[qC]at a;have t:=qD a.1;subst t;have u:=qD a.2;obtain⟨g,k,n⟩:=YS b j;have d:=b.locs v;rw[f]at d;obtain⟨i,vs,e,o,r,s,c⟩:=d;exact⟨vs.toList++g,c.append k,vs.toList,g,rfl,by rw[<-u,c.len],by rw[f];trivial,⟨i,e,o,r,by simpa using s⟩,n⟩
  . cases h
def ZX {k:Nat} {t:Ty} {e e':TypeId} {x:List t.den×List Nat} (a:nZ st2 t e e' k=some x):st2.L k= .nest t e e' x.1 [] x.2:=by
 unfold nZ at a;split at a
 . rename_i j f g i h d;split at a
   . rename_i c;subst c;obtain⟨b,a⟩:=D7 a;cases a;simp only[qC]at b;rw[d,qD b.1,qD b.2]
   . cases a
 . cases a
def SI {k q:Nat} {c f:Bool} {d g:Ty} {x:(LT.itM c d f g q).den} (a:nT st2 k (.itM c d f g q)=some x):∃cur,st2.L k= .itM c d f g x.1 x.2 cur q/\q<k:=by
 simp only[nT]at a;split at a
 . rename_i l n r s j left cur o i;obtain⟨b,a⟩:=D7 a;simp only[qC]at b;split at a
   . rename_i h;cases h;cases a;have:=qD b.1;subst this;exact⟨cur,i,qP b.2⟩
   . cases a
 . cases a
def ZN {k q:Nat} {t:LT} {x:t.den} (b:nT st2 k t=some x) (a:t.need=some q):q<k:=by
 cases t with
 |itM c d g h f=>cases a;exact(SI b).choose_spec.2
 | _=>cases a
def GZ (b:C2 za w0 st2 E w Z B) {k:Nat} {t:LT} {x:t.den} (a:nT st2 k t=some x):live (st2.L k)/\RL (up za w0 k) w Z B k (t.lc x)/\t.wf x:=by
 cases t with
 |row t e=>
  have d:=Hl a;have c:=b.locs k;rw[d]at c;refine⟨by rw[d];trivial,c, ?_⟩;obtain⟨h,f,g,_⟩:=c;exact C6.wf (Bd (Z:=fun _=>True) f (g.mono fun _ _=>C6.mono (fun _ _=>trivial) (fun _ _=>rfl)) (fun _ _=>trivial))
 |map n o r s=>
  have d:=PN a;have c:=b.locs k;rw[d]at c;refine⟨by rw[d];trivial,c, ?_⟩;obtain⟨i,l,j,e,_,_,f,h,g⟩:=c;exact C6.wf (dA (Z:=fun _=>True) f h (g.mono (fun _ _=>trivial) (fun _ _=>rfl)) trivial)
 |rows t e o=>
  obtain⟨al,d⟩:=W4 a;have f:=b.locs k;have c:=f;rw[d]at c;have c:=c.rowsR;refine⟨by rw[d];trivial,c.rl fun j l=> ?_,c.wf⟩;have n:A9 w (B k) (st2.L k) j:=by rw[d];exact(T5 fun _ _=>rfl).1 l
  obtain⟨g,h,i⟩:=f.root n;exact⟨g,i,h⟩
 |iter J N P R=>
  simp only[nT]at a;cases d:st2.L k with
  |iter M O Q T I H=>
   rw[d]at a;simp only at a;split at a
   . rename_i D;cases D;cases a;have l:=b.locs k;rw[d]at l;obtain⟨G,e,z,A,j⟩:=l;refine⟨trivial,⟨G,e,z,A,j.imp (fun h=>⟨h.1,h.2.1,rfl⟩) fun⟨m,seen,i,g,n,o,r,s,f,F⟩=>⟨m,seen,i,g,n,o,r,s,f,fun x c=>by cases c⟩⟩, ?_⟩;rcases j with⟨_,h,_⟩ | ⟨m,seen,i,g,n,o,r,s,f,F⟩
     . rw[h];intro x c;cases c
     . intro x c;obtain⟨m,_,u,v⟩:=R4.mem f c;exact⟨R9.wf' (fun _ _=>C6.wf) u,R9.wf' (fun _ _=>C6.wf) v⟩
   . cases a
  | _=>rw[d]at a;cases a
 |nest t e h=>
  have d:=ZX a;have c:=b.locs k;rw[d]at c;refine⟨by rw[d];trivial,c, ?_⟩;obtain⟨l,g,_⟩:=c;rcases g.own.2 with⟨_,j⟩ | ⟨_,_,_,_,_,_,i,f,_⟩
  . show x.1.length<= _;omega
  . show x.1.length<= _;simp only[maxLen]at f;omega
 |itM D F G H q=>
  obtain⟨A,f,_⟩:=SI a;have d:=b.locs k;rw[f]at d;obtain⟨z,m,seen,j,g,h,i,c,o,r,s,u⟩:=d;refine⟨by rw[f];trivial,⟨z,m,seen,j,g,h,i,⟨c.it,c.mp,c.ok,c.all,c.rest,fun x v=>(by cases v)⟩,o,r,s,u⟩,fun y hy=> ?_⟩;obtain⟨m,_,l,n⟩:=R4.mem c.rest hy;exact⟨R9.wf' (fun _ _=>C6.wf) l,R9.wf' (fun _ _=>C6.wf) n⟩
def RL.setB {U:Nat->Prop} {B':Nat->Value} {k:Nat} {t:LT} {x:t.den} (h:RL U w Z B k (t.lc x)) (e:B' k=B k) (d:∀q,t.need=some q->B' q=B q):RL U w Z B' k (t.lc x):=by
 cases t with
 |nest t g i=>
  obtain⟨f,a,b⟩:=h;exact⟨f,⟨by rw[e];exact a.own,fun p c=>(by cases c),a.elt,a.dis,by rw[e];exact a.top⟩,by rw[e];exact b⟩
 |itM i j l n q=>
  obtain⟨r,m,seen,f,a,b,c,g⟩:=h;exact⟨r,m,seen,f,a,e.trans b,(d q rfl).trans c,g⟩
 |row t g=>obtain⟨f,a,b,c⟩:=h;exact⟨f,by rw[e];exact a,b,by rw[e];exact c⟩
 |map g i j l=>obtain⟨b,f,c,a,r⟩:=h;exact⟨b,f,c,e.trans a,r⟩
 |iter c f g i=>obtain⟨r,a,b⟩:=h;exact⟨r,e.trans a,b⟩
 |rows t l n=>
  obtain⟨j,a,⟨o,b,c⟩,f,g⟩:=h;exact⟨j,by rw[e];exact a,⟨fun p i=>(by cases i),b,c⟩,by rw[e];exact f,by rw[e];exact g⟩
def B2u (c:C2 za w0 st2 E w Z B) {k b:Nat} {t:LT} {x:t.den} (a:nT st2 k t=some x) (h:A9 w (B k) (t.lc x) b):A9 w (B k) (st2.L k) b:=by
 cases t with
 |row t e=>exact A9.of (GZ c a).1 h
 |map d f g i=>exact A9.of (GZ c a).1 h
 |iter d f g i=>exact A9.of (GZ c a).1 h
 |rows t e f=>
  obtain⟨al,d⟩:=W4 a;rw[d];exact(T5 fun _ _=>rfl).1 h
 |nest t e d=>rw[ZX a];exact h
 |itM g i j l q=>obtain⟨f,d,_⟩:=SI a;rw[d];exact h
def UE (d:C2 za w0 st2 E w Z B) {BX:Nat->Value} {n0:Nat} (s:∀k,k<n0->BX k=B k):∀ {l:List (Nat×LT)} {x:kG l} {st:St} {c:List Nat},Hb za w0 st2 E w Z B c st BX->n0<=st.nx->A4h st2 l=some x->(∀y∈l,y.1<n0)->(∀y∈l,y.1∉c)->(l.map fun y=>y.1).Nodup->
 Hb za w0 st2 E w Z B ((l.map fun y=>y.1)++c) (putRows l x st) BX/\(putRows l x st).nx=st.nx
 | [],_,st,c,a,_,_,_,_,_=>⟨a,rfl⟩
 | (k,t)::Q,x,st,c,o,H,n,G,I,v=>by
  simp only[A4h,bind_some,qJ]at n;obtain⟨l,i,R,O,rfl⟩:=n;have h:=G (k,t) (by simp);have F:=I (k,t) (by simp);simp only at h F;obtain⟨P,J,_⟩:=GZ d i;have D:BX k=B k:=s k h;simp only[rW,sH]at v;have u:∀b,A9 w (BX k) (t.lc l) b->A9 w (B k) (st2.L k) b:=fun b f=>B2u d i (by rw[<-D];exact f)
  have c1:Hb za w0 st2 E w Z B (k::c) (st.setL k (t.lc l)) BX:=by
   refine⟨o.rel.addL (by omega) (J.setB D fun q N=>s q (Nat.lt_trans (ZN i N) h)) (fun j b _ f a=> ?_) (by cases t<;>first|trivial|exact fun p n=>(by cases n) |exact rC (Nat.lt_trans (ZN i rfl) h) H) (fun b hk f=>d.mrk.2 k b hk (u b f)),fun j b a=> ?_⟩
   . exact o.disj d F j b (u b f) a
   . rw[St.L_setL]at a;by_cases g:j=k
     . subst g;rw[qK rfl]at a;exact⟨j,by simp,u b a⟩
     . rw[qH g]at a;obtain⟨q,A,r⟩:=o.own j b a;exact⟨q,qL _ A,r⟩
  obtain⟨z,M⟩:=UE d s c1 H O (fun y hy=>G y (qL _ hy)) (fun y hy=>by
   intro g;rcases qT.1 g with g|g
   . exact v.1 (g▸vS hy)
   . exact I y (qL _ hy) g) v.2
  refine⟨⟨z.rel,fun j b a=> ?_⟩,M⟩;obtain⟨q,A,r⟩:=z.own j b a;refine⟨q, ?_,r⟩;simp only[rW];grind
def A1p {BX:Nat->Value} :∀ {l:List (Nat×Bool×List Tk)} {cs:List C} {vs d:List Value} {st:St} {b:List Nat},Hb za w0 st2 E w Z B b st BX->Cj w Z BX cs vs->QA E l vs d->(∀c∈cs,Br st.nx c)->
 Hb za w0 st2 E w Z B b (putS l cs st).2 BX/\Cj w Z BX (putS l cs st).1 d/\(∀c∈(putS l cs st).1,Br st.nx c)/\(putS l cs st).2.nx=st.nx
 | [],cs,vs,d,st,b,c,a,g,f=>by rw[show vs=d from g]at a;exact⟨c,a,f,rfl⟩
 | (s,f,shs)::l,cs,vs,d,st,b,c,j,⟨t,u,e,h,n,o,r⟩,i=>by
  subst e;have a:=j.take shs.length;have g:=j.drop shs.length;rw[<-h,g2y]at a;rw[<-h,g2w]at g;rw[h]at a g;have k:RS w Z BX ⟨f,cs.take shs.length⟩ (E s):=by
   cases f with
   |true=>exact⟨t,n rfl,a⟩
   |false=>rw[o rfl]at a;exact a
  have c1:Hb za w0 st2 E w Z B b (st.setS s (.one ⟨f,cs.take shs.length⟩)) BX:=⟨c.rel.setSame s k (fun x hx=>i x (sD hx)),c.own⟩;have:=A1p (l:=l) (cs:=cs.drop shs.length) c1 g r (fun x hx=>i x (vL hx));exact this
def A1o (g:C2 za w0 st2 E w Z B) {BX:Nat->Value} {n0:Nat} (s:∀k,k<n0->BX k=B k):∀ {l:List (Nat×TypeId×List Tk)} {cs:List C} {vs:List Value} {st:St} {f:List Nat},Hb za w0 st2 E w Z B f st BX->n0<=st.nx->Cj w Z BX cs vs->bD za w0 w Z B st2 l vs->(∀c∈cs,Br st.nx c)->(∀y∈l,y.1<n0)->(∀y∈l,y.1∉f)->(l.map fun y=>y.1).Nodup->
 C2 za w0 (putB l cs st) E w Z BX
 | [],_,_,st,f,c,_,_,_,_,_,_,_=>c.rel
 | (k,T,shs)::l,cs,vs,st,f,c,Q,F,⟨W,X,e,i,P,⟨H,I,M,R,N⟩,U⟩,u,D,G,n=>by
  subst e;have b:=F.take shs.length;have d:=F.drop shs.length;rw[<-i,g2y]at b;rw[<-i,g2w]at d;rw[i]at b d;have z:=D (k,T,shs) (by simp);have A:=G (k,T,shs) (by simp);simp only at z A;have t:BX k=B k:=s k z;simp only[rW,sH]at n;have h:∀q,A9 w (BX k) (.box T (cs.take shs.length)) q->A9 w (B k) (st2.L k) q:=fun q o=>A9.of P (by rw[<-t];exact o)
  have c1:Hb za w0 st2 E w Z B (k::f) (st.setL k (.box T (cs.take shs.length))) BX:=by
   refine⟨c.rel.addL (by omega) ⟨H,W.toArray,t.trans I,M,R,N,by simpa using b⟩ (fun j q _ o a=> ?_) (fun x r=>u x (sD r)) (fun q O J=>g.mrk.2 k q O (h q J)),fun j q a=> ?_⟩
   . exact c.disj g A j q (h q o) a
   . rw[St.L_setL]at a;by_cases v:j=k
     . subst v;rw[qK rfl]at a;exact⟨j,by simp,h q a⟩
     . rw[qH v]at a;obtain⟨V,b,d⟩:=c.own j q a;exact⟨V,qL _ b,d⟩
  have:=A1o (l:=l) (cs:=cs.drop shs.length) g s c1 Q d U (fun x r=>u x (vL r)) (fun y hy=>D y (qL _ hy)) (fun y hy=>by
   intro a;rcases qT.1 a with a|a
   . exact n.1 (a▸vS hy)
   . exact G y (qL _ hy) a) n.2
  exact this
def Jd (a:C2 za w0 st2 E w Z B):∀ {shs:List Tk} {T:Type} {tl:T} {q:T->Prop} {cs:List C} {vs:List Value} {p:shD shs T},q tl->Cj w Z B cs vs->W3 st2 shs tl cs=some p->shW shs q p
 | [],_,tl,q,[],vs,p,c,_,b=>by simp only[W3,rA]at b;subst b;exact c
 | [],_,_,_,_:: _,_,_,_,_,b=>by cases b
 | .val t::r,_,_,_,[],_,_,_,_,b=>by cases b
 | .own t e::r,_,_,_,[],_,_,_,_,b=>by cases b
 | .ownR t e c::r,_,_,_,[],_,_,_,_,b=>by cases b
 | .fix k::r,_,_,_,[],_,_,_,_,b=>by cases b
 | .fixB k::r,_,_,_,[],_,_,_,_,b=>by cases b
 | .fixB k::r,_,tl,q,f::cs,vs,p,d,⟨v,h,_,g,c⟩,b=>by
  simp only[W3]at b;exact Jd (shs:=r) a d c (D7 b).2
 | .fix k::r,_,tl,q,f::cs,vs,p,d,⟨v,h,_,g,c⟩,b=>by
  simp only[W3]at b;exact Jd (shs:=r) a d c (D7 b).2
 | .val t::r,_,tl,q,i::cs,vs,p,f,⟨v,j,e,c,d⟩,b=>by
  simp only[W3,bind_some,qJ]at b;obtain⟨y,g,z,h,rfl⟩:=b;exact⟨C6.wf (bO c g),Jd a f d h⟩
 | .own t e::r,_,tl,q,k::cs,vs,p,g,⟨v,n,_,c,d⟩,b=>by
  simp only[W3,bind_some,qJ]at b;obtain⟨l,f,z,h,rfl⟩:=b;obtain⟨o,i,j,_⟩:=LM a c f;exact⟨C6.wf (Bd (Z:=fun _=>True) i (j.mono fun _ _=>C6.mono (fun _ _=>trivial) (fun _ _=>rfl)) (fun _ _=>trivial)),Jd a g d h⟩
 | .ownR t e j::r,_,tl,q,i::cs,vs,p,g,⟨v,k,_,c,d⟩,b=>by
  simp only[W3,bind_some,qJ]at b;obtain⟨l,f,z,h,rfl⟩:=b;exact⟨Az.wf (kK a c f).1,Jd a g d h⟩
def A1v (a:C2 za w0 st2 E w Z B):∀ {l:List (Nat×LT)} {x:kG l},A4h st2 l=some x->B7o l x
 | [],_,_=>trivial
 | (k,t)::r,x,b=>by
  simp only[A4h,bind_some,qJ]at b;obtain⟨l,c,z,d,rfl⟩:=b;exact⟨(GZ a c).2.2,A1v a d⟩
def A0x {A:CM} {p:A.den} {o:St} (F:za.b0=0) (h:C2 za w0 st E w Z B) (g:gath A st=some (o,p)) (ab:B1k za.n st0) (a0:∀s∈A.keepS,o.eS s=st0.eS s) (X:∀k∈A.keepL,o.eL k=st0.eL k) (Y:∀y∈A.rowL,y.1<st0.nx) (W:o.fr=st0.fr):
 A.wf p/\∃Z' B',C2 za w0 (reflect A st0 p) E w Z' B':=by
 simp only[gath,qG,bind_some]at g;obtain⟨u,_,cs,j,tl,I,af,G,g⟩:=g;obtain⟨f,g⟩:=D7 g;cases g;simp only[qC,tT]at f;obtain⟨f,a5⟩:=f;obtain⟨Z0,V⟩:=h.plugL F (l:=A.rowL);obtain⟨Z1,d⟩:=C2.settleSh (shs:=A.shs) (cs:=u) V;generalize settleSh (plugL A.rowL st) A.shs u=st2 at*;have f:=Hh f;simp only[CM.cells,bind_some]at j;obtain⟨ac,a4,j⟩:=j;obtain⟨ag,a2,a3⟩:=YS d a4;obtain⟨ah,H,a6⟩:=YT d a2 j;refine⟨Jd d (A1v d I) H G, ?_⟩;have O:=B5x d ab a0 X W;have D:∀y∈A.rowL,y.1<A4w A.boxL st0.nx:=fun y b=>rC (Y y b) (Mh _ _)
 rw[tO]at f;obtain⟨ae,J,r⟩:=f;rw[tO]at J;obtain⟨a7,M,N⟩:=J;rw[tO]at M;obtain⟨a8,a9,aa⟩:=M;obtain⟨BX,P,Q,R,T,v,U⟩:=Pj F d O H G (fun q hq hk=>r q hk q (by simp[hq]) rfl) a7 (fun c hc k hk=>by
  have:=a5 _ hc;cases c with
  |fix ad=>
   cases hk;simp only[A7f,xT]at this;obtain⟨y,b,a1⟩:=this;have:=qD a1;subst this;exact⟨D y b,rfl⟩
  |fixB ad=>
   cases hk;simp only[A7f,xT]at this;obtain⟨y,b,a1⟩:=this;have:=qD a1;subst this;exact⟨UV y b,rfl⟩
  | _=>cases hk)
 have z:∀k,k<A4w A.boxL st0.nx->BX k=B k:=T;have t:=UE d z (x:=(placeSh A.shs p (kept A st0)).2.2) P v (by rw[U];exact I) D (fun y b a=>by
  rcases qZ.1 a with a|a
  . exact N y.1 a y.1 (by simp only[qZ,tD];exact .inl ⟨y,b,rfl⟩) rfl
  . exact r y.1 a y.1 (by simp only[qZ,tD];exact .inr (.inl ⟨y,b,rfl⟩)) rfl) a8
 have i:=A1p (l:=A.modS) t.1 Q a6 (by rw[t.2];exact R);refine⟨Z1,BX, ?_⟩;exact A1o d z i.1 (by rw[i.2.2.2,t.2];exact v) i.2.1 a3 (by rw[i.2.2.2];exact i.2.2.1) (fun y b=>UV y b) (fun y b a=>by
  rcases qZ.1 a with a|a
  . exact aa y.1 a y.1 (vS b) rfl
  . rcases qZ.1 a with a|a
    . exact N y.1 a y.1 (by simp only[qZ,tD];exact .inr ⟨y,b,rfl⟩) rfl
    . exact r y.1 a y.1 (by simp only[qZ,tD];exact .inr (.inr ⟨y,b,rfl⟩)) rfl) a9
end
def addA (a:St) (d:Tmp) (lc:LC) (mk:Nat->C):St:=(a.newL lc).setS d (one1 (mk a.nx))
def JO (cx:Cx) (a:St) (d:Tmp):Op->Option (Option Prop×LC×(Nat->C))
 | .alloc T=>do
  let ti<-cx.ti T
  some (none, .box T (Ys ti.ty),fun k=> .box k 0)
 | .makeSlice T c b=>do
  let ti<-cx.ti T
  let t<-slT ti.ty
  let l<-cR a c
  let c<-cR a b
  bif ti.nest.any (Nat.beq d)then do
   let a<-cx.ti ti.elem
   bif HP t then some (some (0<=l/\l<=c/\(ti.bytes:Int)*c<=281474976710656/\c<=9223372036854775807), .nest t ti.elem a.elem (List.replicate l.toNat t.dflt) [] (Nj t l.toNat), .row)else none
  else bif !ti.rows&&Ou t then some (some (0<=l/\l<=c/\(ti.bytes:Int)*c<=281474976710656/\c<=9223372036854775807), .row t ti.elem (List.replicate l.toNat t.dflt), .row)else none
 | _=>none
def A5s (lc:LC) (mk:Nat->C) (X:Obj) (f:Nat->Value):Prop:=
 ∀(d:Zn) (c w:World) (a:St) (E:G6) (Z:Nat->Prop) (B:Nat->Value) (h b:Nat),C2 d c a E w Z B->w.heap[b]? =some X->c.heap.size<=b->¬Z b->(∀k,¬A9 w (B k) (a.L k) b)->d.b0<=b->
  C2 d c (addA a h lc mk) (upd E h (f b)) w Z (upd B a.nx (f b))/\∀g,A9 w (f b) lc g->g=b
section
variable {za:Zn} {w0 w w':World} {st:St} {E:G6} {Z:Nat->Prop} {B:Nat->Value} {cx:Cx} {d:Tmp} {φ:Option Prop}
def C3.addA (st:St) (d:Tmp) (lc:LC) (mk:Nat->C):C3 st (addA st d lc mk):=(C3.newL _ _).trans (C3.setS _ _ _)
def A9n {a b e sz n c:Nat} {cs:Array Value} (h:w.heap[b]? =some (.cells cs e (0,0))) (g:a<=b) (d:cs.size=c*sz) (f:n<=c) (i:c<=maxLen):w.ownsRow a e sz (.slice (some ⟨b,0,none⟩) n c) n (cs.toList.take (n*sz)):=by
 refine⟨?_, .inr ⟨b,c,cs,rfl,g,h,f,i,d,rfl⟩⟩;rw[qY,sM,d];exact sZ (rK _ f)
def A2i {op:Op} {lc:LC} {mk:Nat->C} (h:C2 za w0 st E w Z B) (U:G2 cx.P cx.tys=true) (a:JO cx st d op=some (φ,lc,mk)) (Y:HE φ):
 ∃(X:Obj) (f:Nat->Value),(∀ty w',Gw.E4 cx.P E ty op w' (f w'.heap.size) (w'.alloc X))/\A5s lc mk X f:=by
 unfold JO at a;split at a
 . simp only[qG,bind_some]at a;obtain⟨ti,I,a⟩:=a;cases a;obtain⟨z,J,k⟩:=Eo (K5 (C0 U I)).2.2;rename_i T;refine⟨.cells z.cells T,fun b=> .pointer (some ⟨b,0,none⟩),fun ty w'=>A2c J,fun za w0 w st E Z B d b h i o A y s=> ?_⟩;have F:=Bh (w:=w) (Z:=Z) (B:=B) (n:=st.nx) (Cw ti.ty);have G:∀c,A9 w (.pointer (some ⟨b,0,none⟩)) (.box T (Ys ti.ty)) c->c=b:=fun c g=>by
    simp only[A9,root,rA]at g;exact g.symm
   have a7:=h.new (v:= .pointer (some ⟨b,0,none⟩)) (lc:= .box T (Ys ti.ty)) ⟨b,z.cells,C1 _ _ _, .inl ⟨h.nms.2,o⟩,A,i,
    Cj.mono (n:=st.nx) (fun _=>id) (fun _ _=>rfl) (fun a0 aa=>C5 _ _ _ _ (uC aa)) F.2 (by rw[k];exact F.1)⟩
    (fun a0 c g u=>y a0 (G c g▸u)) (fun c g=>(F.2 c g).le (uT _)) rfl (fun c _ g=>by rw[G c g];exact s)
   refine⟨a7.setS d (x:=one1 (.box st.nx 0)) ⟨_,[],rfl,⟨b,C1 _ _ _,rfl⟩,rfl⟩ (fun c g=> ?_),G⟩;simp at g;subst g;exact rM _
 . rename_i T ai a4;simp only[qG,bind_some]at a;obtain⟨ti,I,t,H,l,ab,c,g,a⟩:=a;have H:=Hs H;have a1:∀ {φ':Option Prop},HE (some (0<=l/\l<=c/\(ti.bytes:Int)*c<=281474976710656/\c<=9223372036854775807))->∃z:Value,z.cells.toList=Cw t/\z.cells.size=t.size/\l.toNat<=c.toNat/\c.toNat<=maxLen/\∀ty w',Gw.E4 cx.P E ty (.makeSlice T ai a4) w' (.slice (some ⟨w'.heap.size,0,none⟩) l.toNat c.toNat) (w'.alloc (.cells (madeCells z.cells (c.toNat*t.size)) ti.elem)):=by
    intro _ ⟨D,M,N,O⟩;obtain⟨a5,z,a2,Q,J,W,k,a3,i,a9⟩:=Ey (C0 U I) H;obtain⟨a6,j,_⟩:=h.int (F1 E) ab;obtain⟨a8,r,_⟩:=h.int (F1 E) g;refine⟨z,k,a3,by omega,by simp only[maxLen];omega,fun ty w'=> ?_⟩;have V:=run_make (P:=cx.P) w' T ti.elem a5 z a2 Q J a6 a8 l c D M (by rw[i];exact N) O;rw[<-W];exact fun _ _ _ _=>by simp[execOp,j,r,V]
   cases R:ti.nest.any (Nat.beq d)with
   |true=>
    simp only[R,qV,qG,bind_some]at a;obtain⟨aj,_,a⟩:=a;cases D:HP t with
    |false=>simp only[D,rF]at a;cases a
    |true=>
     simp only[D,qV]at a;cases a;obtain⟨z,k,ah,ac,ad,W⟩:=a1 (φ':=none) Y;obtain⟨ag,N,V⟩:=aD D;rw[ag]at ah W;refine⟨_,fun b=> .slice (some ⟨b,0,none⟩) l.toNat c.toNat,W,fun za w0 w st E Z B d b h i o A y s=> ?_⟩;generalize Q:madeCells z.cells (c.toNat*1)=O at i;have a8:O.size=c.toNat*1:=by rw[<-Q];simp[madeCells]
     have af:=A9n (sz:=1) i o a8 ac ad;have ae:∀x∈O.toList.take (l.toNat*1),x=N:=fun x j=>by
      have j:=sD j;rw[<-Q]at j;simp only[madeCells,g1l,tD]at j;obtain⟨M,_,rfl⟩:=j;have r:z.cells.toList= [N]:=k.trans V;have a2:z.cells= #[N]:=by rw[<-tX (xs:=z.cells),r]
      rw[a2];simp[g4r]
     obtain⟨ak,am⟩:=aG D V.symm;obtain⟨a5,a6⟩:=h.newNestE d (t:=t) (e':=aj.elem) (dd:=Nj t l.toNat) af (fun M x j=>by
      have:=ae x (sV j);subst this;have a9:M<l.toNat:=by have:=(sN.1 j).1;rw[qY]at this;omega
      exact⟨ak,am _ _ _ M _ a9⟩) (fun a2 r=>by
      simp only[Value.ownBlock,rA]at r;subst r;exact⟨A,y⟩) (fun a2 _ r=>by simp only[Value.ownBlock,rA]at r;subst r;exact s)
     exact⟨a5,fun a3 u=>by have:=a6 a3 u;simp only[Value.ownBlock,rA]at this;exact this.symm⟩
   |false=>
    simp only[R,rF]at a;cases r: !ti.rows&&Ou t with
    |false=>simp only[r,rF]at a;cases a
    |true=>
     simp only[r,qV]at a;cases a;simp only[qC]at r;obtain⟨z,k,a5,M,W,a3⟩:=a1 (φ':=none) Y;refine⟨_,fun b=> .slice (some ⟨b,0,none⟩) l.toNat c.toNat,a3,fun za w0 w st E Z B d b h i o A y s=> ?_⟩;have D:F9 (C6 t w Z) ((madeCells z.cells (c.toNat*t.size)).toList.take (l.toNat*t.size)) (List.replicate l.toNat t.dflt):=KP k r.2 a5 _ _ M;generalize Q:madeCells z.cells (c.toNat*t.size)=O at i D;have V:O.size=c.toNat*t.size:=by rw[<-Q];simp[madeCells]
     have a2:=A9n i o V M W;refine⟨h.newRowE d (t:=t) (e:=ti.elem) (l:=List.replicate l.toNat t.dflt) (by rw[rN];exact a2) D (fun N j=>by
      simp only[Value.ownBlock,rA]at j;subst j;exact⟨A,y⟩) (fun N _ j=>by simp only[Value.ownBlock,rA]at j;subst j;exact s),fun a6 u=> ?_⟩
     have:=u;simp only[A9,root,rA]at this;exact this.symm
 . cases a
end
def BS (cx:Cx) (all:List Oper) (a:St):List Nat->(St->Prop)->St->Prop
 | [],k=>k
 |i::r,k=>fun b=>match all[i]? with
  |some o=>match JO cx a (Ep all i) o.op with
   |some (c,lc,mk)=>WW c (BS cx all a r k (addA b (Ep all i) lc mk))
   |none=>False
  |none=>False
def pT (all:List Oper) (f:Nat->Nat->Value) (bl:Nat->Nat):List Nat->G6->G6
 | [],E=>E
 |i::r,E=>pT all f bl r (upd E (Ep all i) (f i (bl i)))
section
variable {za:Zn} {w0 w w':World} {Z:Nat->Prop} {cx:Cx} {all:List Oper} {st0:St} {k k':St->Prop} {f:Nat->Nat->Value} {X:Nat->Obj} {bl:Nat->Nat}
def aR:∀ {ls:List Nat} {c:St},BS cx all st0 ls k c->∀i∈ls,∃o φ lc mk,all[i]? =some o/\JO cx st0 (Ep all i) o.op=some (φ,lc,mk)/\HE φ
 | [],_,_,_,h=>by cases h
 |i::r,c,a,j,b=>by
  simp only[BS]at a;split at a
  . rename_i o h;split at a
    . rename_i φ lc mk g;obtain⟨d,f⟩:=E5.1 a;rcases qT.1 b with rfl|b
      . exact⟨o,φ,lc,mk,h,g,d⟩
      . exact aR f j b
    . exact a.elim
  . exact a.elim
def UM:∀ {ls:List Nat} {a:St},BS cx all st0 ls k a->(∀b,C3 a b->k b->k' b)->BS cx all st0 ls k' a
 | [],a,h,c=>c a (C3.refl a) h
 |i::r,a,h,c=>by
  simp only[BS]at h⊢;split at h
  . split at h
    . exact E5.2 ⟨(E5.1 h).1,UM (E5.1 h).2 fun b e a=>c b ((C3.addA _ _ _ _).trans e) a⟩
    . exact h
  . exact h
def EW {x:Nat} :∀ {l:List Nat} {E:G6},x∉Z9 all l->pT all f bl l E x=E x
 | [],_,_=>rfl
 |i::l,E,h=>by
  simp only[Z9,rW,qT,g4w]at h;simp only[pT];rw[EW h.2,C5 _ _ _ _ h.1]
def lH {i:Nat} :∀ {l:List Nat} {E:G6},(Z9 all l).Nodup->i∈l->pT all f bl l E (Ep all i)=f i (bl i)
 | [],_,_,h=>by cases h
 |j::l,E,b,h=>by
  simp only[Z9,rW]at b;obtain⟨c,d⟩:=sH.1 b;simp only[pT];by_cases a:i∈l
  . exact lH d a
  . rcases qT.1 h with rfl|h
    . rw[EW c,C1]
    . exact absurd h a
def kR:∀ {ls:List Nat} {a:St} {E:G6} {B:Nat->Value},C2 za w0 a E w Z B->(∀i∈ls,∀o φ lc mk,all[i]? =some o->JO cx st0 (Ep all i) o.op=some (φ,lc,mk)->A5s lc mk (X i) (f i))->
 (∀i∈ls,w.heap[bl i]? =some (X i)/\w0.heap.size<=bl i/\¬Z (bl i)/\za.b0<=bl i/\∀k,¬A9 w (B k) (a.L k) (bl i))->(∀i∈ls,∀j∈ls,i≠j->bl i≠bl j)->ls.Nodup->BS cx all st0 ls k a->∃s B',C2 za w0 s (pT all f bl ls E) w Z B'/\k s
 | [],a,E,B,h,_,_,_,_,b=>⟨a,B,h,b⟩
 |i::T,a,E,B,M,r,g,n,O,b=>by
  simp only[BS]at b;obtain⟨Q,R⟩:=sH.1 O;split at b
  . rename_i o P;split at b
    . rename_i φ lc mk h;obtain⟨_,b⟩:=E5.1 b;obtain⟨v,x,y,z,A⟩:=g i (rH);obtain⟨I,J⟩:=r i rH o φ lc mk P h za w0 w a E Z B (Ep all i) (bl i) M v x y A z;refine kR (ls:=T) (E:=upd E (Ep all i) (f i (bl i))) I (fun j c=>r j (qL _ c)) (fun j c=> ?_) (fun t h u g=>n t (qL _ h) u (qL _ g)) R b;obtain⟨c1,D,F,G,H⟩:=g j (qL _ c);refine⟨c1,D,F,G,fun q d=> ?_⟩;have N:(addA a (Ep all i) lc mk).L q=(a.newL lc).L q:=rfl;rw[N,St.L_newL]at d;by_cases l:q=a.nx
      . subst l;rw[qK rfl,C1]at d;exact n i rH j (qL _ c) (fun e=>Q (e▸c)) (J _ d).symm
      . rw[qH l,C5 _ _ _ _ l]at d;exact H q d
    . exact b.elim
  . exact b.elim
def aP:∀(l:List Nat) (E:G6) (w:World),l.Nodup->(Z9 all l).Nodup->P7 w (Es all f X l E w).2/\∃bl:Nat->Nat,(∀i∈l,w.heap.size<=bl i/\(Es all f X l E w).2.heap[bl i]? =some (X i)/\(Es all f X l E w).1 (Ep all i)=f i (bl i))/\∀i∈l,∀j∈l,i≠j->bl i≠bl j
 | [],_,w,_,_=>⟨P7.refl w,fun _=>0,by simp,by simp⟩
 |i::r,E,w,z,o=>by
  obtain⟨D,F⟩:=sH.1 z;simp only[Z9,rW]at o;obtain⟨s,t⟩:=sH.1 o;obtain⟨n,bl,h,x⟩:=aP r (upd E (Ep all i) (f i w.heap.size)) (w.alloc (X i)) F t;have B:P7 w (w.alloc (X i)):=P7.alloc w _;have A:(w.alloc (X i)).heap.size=w.heap.size+1:=Array.size_push ..;simp only[Es];refine⟨B.trans n,fun j=>if j=i then w.heap.size else bl j,fun j d=> ?_,fun a ha b hb hab=> ?_⟩
  . rcases qT.1 d with rfl|d
    . have y:(if j=j then w.heap.size else bl j)=w.heap.size:=qK rfl;show w.heap.size<=(if j=j then w.heap.size else bl j)/\(Es all f X r _ _).2.heap[if j=j then w.heap.size else bl j]? = _ /\ _=f j (if j=j then w.heap.size else bl j);rw[y];refine⟨qR _, ?_,by rw[Gt _ _ _ s,C1]⟩;rw[n.block _ (by rw[A];exact rM _)];exact heap_alloc_new w _
    . have:j≠i:=fun e=>D (e▸d)
      simp only[qH this];obtain⟨G,u,v⟩:=h j d;exact⟨by omega,u,v⟩
  . simp only;have g:∀q,q∈i::r->q≠i->q∈r:=fun q hq hqi=>(qT.1 hq).resolve_left hqi
    by_cases c:a=i
    . rw[qK c,qH (fun e=>hab (c.trans e.symm))];have:=(h b (g b hb (fun e=>hab (c.trans e.symm)))).1;omega
    . rw[qH c];by_cases k:b=i
      . rw[qK k];have:=(h a (g a ha c)).1;omega
      . rw[qH k];exact x a (g a ha c) b (g b hb k) hab
end
structure K where
 n:St->Prop
 x:Nat->St->Prop
 r:St->Prop
def K.at (k:K):Exit->St->Prop
 | .normal=>k.n
 | .exit i=>k.x i
 | .ret=>k.r
 | _=>fun _=>False
structure An where
 join:List (Nat×CM):= []
 loop:List (Nat×CM):= []
 plan:List (Nat×List Nat×List Nat×Bool×Pl):= []
def lead:Code->Option Nat
 | .region id _ _=>some id
 | .seq a b=>match lead a with
  |some i=>some i
  |none=>lead b
 | .cond _ a b=>match lead a with
  |some i=>some i
  |none=>lead b
 | .block _ c=>lead c
 | .loop c=>lead c
 | _=>none
def B4z (l:List (Nat×CM)):Option Nat->Option CM
 |some i=>Ew i l
 |none=>none
def C1v (A:CM) (a:St) (b:(St->Prop)->Prop) (c:St->Prop):Prop:=
 ∃J:A.den->Prop,b (JY A a J)/\∀p,A.wf p->J p->c (reflect A a p)
def B5n (A:CM) (a:St) (d:(St->Prop)->St->Prop):Prop:=
 match gath A a with
 |some (a,f)=>bif(A.rowL.all fun x=>Nat.blt x.1 a.nx)&&(A.boxL.all fun x=>Nat.blt x.1 a.nx)then
  (∃(I:A.den->Prop) (c:A.den->Nat),I f/\∀p,A.wf p->I p->d (JY A a fun b=>I b/\c b<c p) (reflect A a p))else False
 |none=>False
def Mf (cx:Cx) (all:List Oper) (o:Oper) (k:St->Prop) (a:St):Prop:=
 match o.guard with
 |none=>match Wy cx a [] o.op with
  |some (b,v)=>match o.dst with
   |some d=>WW b (k (a.setS d v))
   |none=>False
  |none=>match o.op with
   | .load T x=>match o.dst with
    |some d=>(match ZR cx a d T x with
     |some b=>k b
     |none=>False)
    |none=>False
   | _=>False
 |some (j,b)=>match(all[j]?).bind (·.dst)with
  |some t=>bif Lu a 20 t then(match o.dst with
   |some d=>bif !(Nat.beq t d)then(match Wy cx a (gctx a 20 t b) o.op with
    |some (c, .one s)=>bif s.cs.all (A9z a.nx)then WW (B2p (ctxP a (gctx a 20 t b)) c) (k (a.setS d (.cnd t b s)))else False
    |some _=>False
    |none=>match o.op with
     | .load T x=>(match ZP cx a (gctx a 20 t b) t b d T x with
      |some a=>k a
      |none=>False)
     | _=>False)else False
   |none=>False)else False
  |none=>False
def MY (cx:Cx) (all:List Oper):List Nat->(St->Prop)->St->Prop
 | [],k=>k
 |j::r,k=>fun a=>match all[j]? with
  |some o=>bif !(A8t o.op)&&B4d (aB all j) (Z9 all (j::r))then Mf cx all o (MY cx all r k) a else False
  |none=>False
def Q3 (cx:Cx) (sp:H1) (all:List Oper) (tails:List Nat) (n0:Nat) (nw:Bool):Pl->Bool->Bool->(St->Prop)->St->Prop
 | .done,_,_,k=>k
 | .q i p,a,t,k=>fun b=>match all[i]? with
  |some o=>bif a|| !nw then Mf cx all o (Q3 cx sp all tails n0 nw p a t k) b else False
  |none=>False
 | .p i p,a,t,k=>fun b=>match all[i]? with
  |some o=>bif !(A8t o.op)then Mf cx all o (Q3 cx sp all tails n0 nw p a t k) b else False
  |none=>False
 | .e i p,_,t,k=>fun a=>match all[i]? with
  |some o=>bif((t||tails.contains i) || !(WL sp a o) || (nw&&frO n0 a o.op))&&(!nw||dK sp n0 a o.op)then BU cx sp all o (Q3 cx sp all tails n0 nw p false (t||tails.contains i) k) a else False
  |none=>False
 | .or i p q,b,t,k=>fun a=>
  (match all[i]? with
  |some o=>bif((t||tails.contains i) || !(WL sp a o) || (nw&&frO n0 a o.op))&&(!nw||dK sp n0 a o.op)then BU cx sp all o (Q3 cx sp all tails n0 nw p false (t||tails.contains i) k) a else False
  |none=>False)/\Q3 cx sp all tails n0 nw q b t k a
 | .al a b p,_,t,k=>fun c=>bif A2h all a b then BS cx all c a (MY cx all b (Q3 cx sp all tails n0 nw p false t k)) c else False
def Lp (cx:Cx) (sp:H1) (an:An):Code->K->St->Prop
 | .skip,k=>k.n
 | .label _,k=>k.n
 | .region id ops b,k=>fun a=>bif b then(match Ew id an.plan with
  |some (c,b,d,p)=>bif B5i ops.toList c b p&&cx.P.follows .mixedOrders then Q3 cx sp ops.toList b a.nx d p true false k.n a else False
  |none=>False)else UO cx sp ops.toList ops.toList k.n a
 | .seq c b,k=>fun a=>match B4z an.join (lead b)with
  |some A=>C1v A a (fun j=>Lp cx sp an c {k with n:=j} a) (Lp cx sp an b k)
  |none=>Lp cx sp an c {k with n:=Lp cx sp an b k} a
 | .cond d b c,k=>fun a=>match(a.ev [] d).bind MC with
  |some e=>(e=true->Lp cx sp an b k a)/\(e=false->Lp cx sp an c k a)
  |none=>False
 | .block id c,k=>Lp cx sp an c {k with x:=fun i a=>bif Nat.beq i id then k.n a else k.x i a}
 | .loop c,k=>fun a=>match B4z an.loop (lead c)with
  |some A=>B5n A a fun j=>Lp cx sp an c {k with n:=j}
  |none=>False
 | .exit i,k=>k.x i
 | .ret,k=>k.r
 | _,_=>fun _=>False
section
variable {za:Zn} {w0:World} {cx:Cx} {sp:H1} {an:An} {all:List Oper}
def Sq {o:Oper} {k k':St->Prop} {b:St} (h:Mf cx all o k b) (a:∀c,C3 b c->k c->k' c):Mf cx all o k' b:=by
 unfold Mf at h⊢;split at h
 . split at h
   . split at h
     . exact E5.2 ⟨(E5.1 h).1,a _ (C3.setS _ _ _) (E5.1 h).2⟩
     . exact h
   . split at h
     . split at h
       . split at h
         . rename_i b;exact a _ (ZS b) h
         . exact h
       . exact h
     . exact h
 . split at h
   . obtain⟨c,h⟩:=B8 h;simp only[c,qV];split at h
     . obtain⟨c,h⟩:=B8 h;simp only[c,qV];split at h
       . obtain⟨c,h⟩:=B8 h;simp only[c,qV];exact E5.2 ⟨(E5.1 h).1,a _ (C3.setS _ _ _) (E5.1 h).2⟩
       . exact h
       . split at h
         . split at h
           . rename_i b;exact a _ (ZQ b) h
           . exact h
         . exact h
     . exact h
   . exact h
def UP:∀ {ls:List Nat} {k k':St->Prop} {a:St},MY cx all ls k a->(∀b,C3 a b->k b->k' b)->MY cx all ls k' a
 | [],_,_,a,h,b=>b a (C3.refl a) h
 |j::r,_,_,a,h,f=>by
  simp only[MY]at h⊢;split at h
  . obtain⟨a,h⟩:=B8 h;simp only[a,qV];exact Sq h fun b a c=>UP c fun g b d=>f g (a.trans b) d
  . exact h
def Z7 {tails:List Nat} {n0:Nat} {nw:Bool} :∀ {p:Pl} {pre t:Bool} {k k':St->Prop} {a:St},Q3 cx sp all tails n0 nw p pre t k a->(∀b,C3 a b->k b->k' b)->Q3 cx sp all tails n0 nw p pre t k' a
 | .done,_,_,_,_,a,h,b=>b a (C3.refl a) h
 | .q i p,pre,t,_,_,a,h,g=>by
  simp only[Q3]at h⊢;split at h
  . obtain⟨b,h⟩:=B8 h;simp only[b,qV]at h⊢;exact Sq h fun c b d=>Z7 d fun i c f=>g i (b.trans c) f
  . exact h
 | .p i p,pre,t,_,_,a,h,g=>by
  simp only[Q3]at h⊢;split at h
  . obtain⟨b,h⟩:=B8 h;simp only[b,qV];exact Sq h fun c b d=>Z7 d fun i c f=>g i (b.trans c) f
  . exact h
 | .e i p,pre,t,_,_,a,h,g=>by
  simp only[Q3]at h⊢;split at h
  . obtain⟨b,h⟩:=B8 h;simp only[b,qV];exact ET h fun c b d=>Z7 d fun i c f=>g i (b.trans c) f
  . exact h
 | .or i p q,pre,t,_,_,a,h,b=>by
  simp only[Q3]at h⊢;refine⟨?_,Z7 h.2 b⟩;have h:=h.1;split at h
  . obtain⟨c,h⟩:=B8 h;simp only[c,qV];exact ET h fun d c f=>Z7 f fun i d g=>b i (c.trans d) g
  . exact h
 | .al b c p,pre,t,_,_,a,h,g=>by
  simp only[Q3]at h⊢;obtain⟨a,h⟩:=B8 h;simp only[a,qV];exact UM h fun b a c=>UP c fun f b d=>Z7 d fun h c f=>g h (a.trans (b.trans c)) f
def C3.told (A:CM) (a:St) (p:A.den):C3 a (Vc.reflect A a p):=
 ⟨qX (uT _) (C3.reflect A a p).ct,fun _ b c=>kF b c,fun _ b c=>dY b c,(C3.reflect A a p).f.le (uT _)⟩
def C3.gath {A:CM} {a b:St} {p:A.den} (h:gath A a=some (b,p)):C3 a b:=by
 simp only[Vc.gath,qG,bind_some]at h;obtain⟨d,_,c,_,tl,_,f,_,h⟩:=h;obtain⟨_,h⟩:=D7 h;cases h;exact(C3.plugL _ _).trans (C3.settleSh _ _ _)
def LN:∀ {c:Code} {k k':K} {a:St},Lp cx sp an c k a->(∀e b,C3 a b->k.at e b->k'.at e b)->Lp cx sp an c k' a:=by
 intro c
 induction c with
 |skip=>intro k k' a h d;exact d .normal a (C3.refl a) h
 |label l=>intro k k' a h d;exact d .normal a (C3.refl a) h
 |region id ops f=>
  intro k k' a h d;simp only[Lp]at h⊢;cases f with
  |true=>
   simp only[qV]at h⊢;split at h
   . obtain⟨g,h⟩:=B8 h;simp only[g,qV];exact Z7 h fun b e=>d .normal b e
   . exact h
  |false=>
   simp only[rF]at h⊢;exact MX h fun b e=>d .normal b e
 |seq v w j l=>
  intro k k' a h f;simp only[Lp]at h⊢;split at h
  . rename_i A _;obtain⟨J,r,i⟩:=h;refine⟨J,j r fun e b ev d=> ?_,fun p t s=>l (i p t s) fun e b ev d=> ?_⟩
    . cases e with
      |normal=>exact d
      |exit o=>exact f (.exit o) b ev d
      |ret=>exact f .ret b ev d
      | _=>exact d
    . exact f e b ((C3.told A a p).trans ev) d
  . refine j h fun e n g d=> ?_
    cases e with
    |normal=>exact l d fun e u o i=>f e u (g.trans o) i
    |exit o=>exact f (.exit o) n g d
    |ret=>exact f .ret n g d
    | _=>exact d
 |cond c i j f g=>
  intro k k' a h d;simp only[Lp]at h⊢;split at h
  . exact⟨fun e=>f (h.1 e) d,fun e=>g (h.2 e) d⟩
  . exact h
 |block id c j=>
  intro k k' a h f;simp only[Lp]at h⊢;refine j h fun e b ev d=> ?_
  cases e with
  |exit i=>
   simp only[K.at]at d⊢;cases g:Nat.beq i id with
   |true=>simp only[g,qV]at d⊢;exact f .normal b ev d
   |false=>simp only[g,rF]at d⊢;exact f (.exit i) b ev d
  |normal=>exact f .normal b ev d
  |ret=>exact f .ret b ev d
  | _=>exact d
 |loop c t=>
  intro k k' a h g;simp only[Lp]at h⊢;split at h
  . rename_i A _;unfold B5n at h⊢;split at h
    . rename_i i v f;obtain⟨o,h⟩:=B8 h;simp only[o,qV];obtain⟨I,u,j,l⟩:=h;refine⟨I,u,j,fun p r n=>t (l p r n) fun e b ev d=> ?_⟩;cases e with
      |normal=>exact d
      |exit s=>exact g (.exit s) b ((C3.gath f).trans ((C3.told A i p).trans ev)) d
      |ret=>exact g .ret b ((C3.gath f).trans ((C3.told A i p).trans ev)) d
      | _=>exact d
    . exact h
  . exact h
 |exit i=>intro k k' a h d;exact d (.exit i) a (C3.refl a) h
 |ret=>intro k k' a h d;exact d .ret a (C3.refl a) h
 | _=>intro k k' a h d;exact h
def YN {A:CM} (k:za.b0=0) {b c:St} {J:A.den->Prop} {E:G6} {w:World} {Z:Nat->Prop} {B:Nat->Value} (h:C2 za w0 c E w Z B) (a:JY A b J c) (v:B1k za.n b) (ev:C3 b c):∃p,A.wf p/\J p/\∃Z' B',C2 za w0 (reflect A b p) E w Z' B':=by
 unfold JY at a;split at a
 . rename_i b p d;obtain⟨b,a⟩:=B8 a;simp only[A8f,qC,tT]at b;obtain⟨⟨⟨i,j⟩,t⟩,u⟩:=b;have c:=ev.trans (C3.gath d);have b:∀ {n g:Nat},cO n g=true->g≠0/\g<=n:=fun hh=>by
    simp only[cO,qC]at hh;have o:=qP hh.1;have o:=qP hh.2;omega
   obtain⟨r,Z',B',o⟩:=A0x k h d v (fun s hs=>c.s s (b (i s hs)).1 (b (i s hs)).2) (fun q hq=>c.l q (b (j q hq)).1 (b (j q hq)).2) (fun y hy=>Vu (t y hy)) (c.f.old u);exact⟨p,r,a,Z',B',o⟩
 . exact a.elim
variable (hty:G2 cx.P cx.tys=true) (hsp:Ra cx.P sp)
include hty in
theorem EU {S:World->Prop} {o:Oper} {k:St->Prop} {I:St} {E:G6} {w:World} {Z:Nat->Prop} {B:Nat->Value} (j:∀w',S w'->(A8t o.op=true->P7 w w')) (h:C2 za w0 I E w Z B) (a:Mf cx all o k I):EQ cx.P S all o (Nx za w0 k) E w:=by
 obtain⟨a1,X,ty,G,A,a2⟩:=o;unfold Mf at a;simp only at a j;split at a
 . split at a
   . rename_i Y a6 y;split at a
     . rename_i d;replace a:=E5.1 a;obtain⟨u,c,f,r⟩:=Zq (ty:=ty) h hty (F1 E) y a.1;exact .inl ⟨rfl,u,fun w' g=>c w' (j w' g) _ _ _ _,_,_,_,h.setS d (f _) r,a.2⟩
     . exact a.elim
   . split at a
     . rename_i T x _;split at a
       . rename_i d;split at a
         . rename_i a4 s;obtain⟨u,B',c,f⟩:=jL (ty:=ty) h hty s;exact .inl ⟨rfl,u,fun w' g=>c w' (j w' g rfl) _ _ _ _,_,_,_,f,a⟩
         . exact a.elim
       . exact a.elim
     . exact a.elim
 . rename_i F i;split at a
   . rename_i t l;have a3:=(B8 a).1;replace a:=(B8 a).2;split at a
     . rename_i d;have U:=(B8 a).1;replace a:=(B8 a).2;have z:t≠d:=vD (by simpa using U);split at a
       . rename_i Y H y;obtain⟨R,a⟩:=B8 a;replace a:=E5.1 a;rw[iY]at a;by_cases b:E t= .bool i
         . have D:=h.gctx (n:=20) b;obtain⟨u,c,f,r⟩:=Zq (ty:=ty) h hty D y (a.1 (h.ctxP D));refine .inl ⟨HM l b,u,fun w' g=>c w' (j w' g) _ _ _ _,_,_,_,h.setS d (x:= .cnd t i H) (.inl ⟨?_,f E⟩) r,a.2⟩;rw[C5 _ _ _ _ z];exact b
         . have v:D4 all ⟨some d,X,ty,G,A,some (F,i)⟩ E=false:=by
            unfold D4 Y2;simp only[l];cases N:E t with
            |bool a0=>simp only[vH,g3r,rA];intro Q;exact b (by rw[N,Q])
            | _=>rfl
           refine .inr ⟨v,_,_,_,h.setS d (x:= .cnd t i H) (.inr ⟨?_,rfl⟩) (fun J O=>dX (tT.1 R J O)),a.2⟩;rw[C5 _ _ _ _ z];exact b
       . exact a.elim
       . split at a
         . rename_i T x _;split at a
           . rename_i a5 s;obtain⟨V,W⟩:=jK (ty:=ty) h hty z s;by_cases b:E t= .bool i
             . obtain⟨u,B',c,f⟩:=V b (h.gctx (n:=20) b);exact .inl ⟨HM l b,u,fun w' g=>c w' (j w' g rfl) _ _ _ _,_,_,_,f,a⟩
             . have v:D4 all ⟨some d, .load T x,ty,G,A,some (F,i)⟩ E=false:=by
                unfold D4 Y2;simp only[l];cases N:E t with
                |bool a0=>simp only[vH,g3r,rA];intro Q;exact b (by rw[N,Q])
                | _=>rfl
               obtain⟨B',M⟩:=W b;exact .inr ⟨v,_,_,_,M,a⟩
           . exact a.elim
         . exact a.elim
     . exact a.elim
   . exact a.elim
theorem UH {P:Program} {S:World->Prop} {o:Oper} {n a:G6->World->Prop} {E:G6} {w:World} (h:EQ P S all o n E w) (c:∀E',n E' w->a E' w):EQ P S all o a E w:=by
 rcases h with⟨a,v,b,d⟩ | ⟨a,b⟩
 . exact .inl ⟨a,v,b,c _ d⟩
 . exact .inr ⟨a,c _ b⟩
def RW (nw:Bool) (b0:Nat) (w w':World):Prop:=bif nw then(Below b0 w w'/\True)else P7 w w'
theorem RW.of {nw:Bool} {b0:Nat} {w w':World} (a:b0<=w.heap.size) (h:P7 w w'):RW nw b0 w w':=by
 cases nw with
 |true=>exact⟨⟨h.os,h.tape,h.output,h.size,fun k b=>h.block k (rC b a)⟩,h.drw⟩
 |false=>exact h
theorem RW.refl (nw:Bool) (b0:Nat) (w:World):RW nw b0 w w:=by
 cases nw with
 |true=>exact⟨Below.refl _ _,trivial⟩
 |false=>exact P7.refl _
theorem RW.trans {nw:Bool} {b0:Nat} {a b c:World} (h:RW nw b0 a b) (d:RW nw b0 b c):RW nw b0 a c:=by
 cases nw with
 |true=>exact⟨Below.trans h.1 d.1,trivial⟩
 |false=>exact P7.trans h d
include hty hsp in
theorem A1x {nw tl:Bool} {n0:Nat} {k:St->Prop} {o:Oper} {d:St} {E:G6} {w:World} {Z:Nat->Prop} {B:Nat->Value} (i:nw=true->za.k0=n0) (s:nw=false->za.b0=0) (h:C2 za w0 d E w Z B)
 (b:((tl|| !(WL sp d o) || (nw&&frO n0 d o.op))&&(!nw||dK sp n0 d o.op))=true) (a:BU cx sp all o k d):L3 cx.P all o (fun E' w'=>(tl=true\/RW nw za.b0 w w')/\Nx za w0 k E' w') E w:=by
 simp only[qC,vM,rO]at b;obtain⟨b,c⟩:=b;have j:za.b0=0\/dK sp za.k0 d o.op=true:=by
  cases f:nw with
  |false=>exact .inl (s f)
  |true=>rw[f]at c;exact .inr (by rw[i f];simpa using c)
 rcases b with(b|b) |b
 . refine N0 ?_ (UN h j hty hsp a);rintro E' w' ⟨_,n⟩;exact⟨.inl b,n⟩
 . refine N0 ?_ (UN h j hty hsp a);rintro E' w' ⟨y,n⟩;exact⟨.inr (RW.of h.mrk.1 (y b)),n⟩
 . obtain⟨v,b⟩:=b;subst v;obtain⟨l,D,H,F,A,r⟩:=o;have t:=b;unfold frO at b;split at b
   . rename_i T p z g;simp only at g;subst g;unfold BU at a;simp only at a;cases r with
     |none=>
      simp only[Wy]at a;cases l with
      |none=>
       simp only at a;have u:DX d (.store T p z)=false:=by
        rcases c with c|c
        . cases c
        . simp only[dK,qC,rO]at c;exact c.2
       rw[jS u]at a;simp only at a;split at a
       . rename_i I G x;refine N0 ?_ (aW h hty x (E5.1 a).1 (E5.1 a).2 rfl);rintro E' w' ⟨f,n⟩;exact⟨.inr (f (by rw[i rfl];exact t)),n⟩
       . exact a.elim
      |some f=>exact a.elim
     |some f=>
      obtain⟨x,u⟩:=f;simp only[Wy]at a;split at a
      . obtain⟨_,a⟩:=B8 a;split at a
        . obtain⟨_,a⟩:=B8 a;exact a.elim
        . exact a.elim
      . exact a.elim
   . cases b
include hty in
theorem kS {k:St->Prop} :∀ {d:List Nat},(∀j∈d,dS all j=true)->(Z9 all d).Nodup->∀ {f:St} {E:G6} {w:World} {Z:Nat->Prop} {B:Nat->Value},C2 za w0 f E w Z B->MY cx all d k f->∃F,(∀x,x∉Z9 all d->F x=E x)/\AlV cx.P all d F/\Nx za w0 k F w
 | [],_,_,f,E,w,Z,B,h,b=>⟨E,fun _ _=>rfl,fun _ a=>(by cases a),f,Z,B,h,b⟩
 |j::W,r,o,f,E,w,Z,B,A,b=>by
  simp only[MY]at b;simp only[Z9,rW]at o;obtain⟨T,U⟩:=sH.1 o;split at b
  . rename_i t i;obtain⟨g,b⟩:=B8 b;simp only[qC,rO]at g;obtain⟨G,H,I⟩:=Wx (r j rH) i;have N:=LO g.2;have J:=EU (S:=fun _=>True) (all:=all) hty (fun v _ hh=>by rw[hh]at g;cases g.1) A b;have R:D4 all t E=true:=by simp[D4,H]
    rcases J with⟨_,V,Q,X,Z1,B1,n,M⟩ | ⟨s,_⟩
    . rw[G]at n;obtain⟨F,h,y,z⟩:=kS (fun l c=>r l (qL _ c)) U n M;have D:F (Ep all j)=V:=by rw[h _ T];exact C1 _ _ _
      refine⟨F,fun x a=> ?_,fun l c=> ?_,z⟩
      . simp only[Z9,rW,qT,g4w]at a;rw[h x a.2];exact C5 _ _ _ _ a.1
      . rcases qT.1 c with rfl|c
        . refine⟨t,i,fun v=> ?_⟩;rw[D,KF (E:=F) (E':=E) i I fun u O=> ?_]
          . exact Q v trivial
          . have a:=N u O;simp only[Z9,rW,qT,g4w]at a;rw[h u a.2];exact C5 _ _ _ _ a.1
        . exact y l c
    . rw[R]at s;cases s
  . exact b.elim
theorem RW.size {nw:Bool} {b0:Nat} {a b:World} (h:RW nw b0 a b):a.heap.size<=b.heap.size:=by
 cases nw with
 |true=>exact h.1.size
 |false=>exact(show P7 a b from h).size
include hty in
theorem A4m {nw:Bool} {b s:List Nat} {k:St->Prop} {v:St} {E:G6} {w:World} {Z:Nat->Prop} {B:Nat->Value} (N:A2h all b s=true) (h:C2 za w0 v E w Z B) (M:BS cx all v b (MY cx all s k) v):∃f X,A5m cx.P (RW nw za.b0) all b s f X (Nx za w0 k) E w:=by
 simp only[A2h,qC,tT]at N;obtain⟨⟨⟨a6,u⟩,r⟩,ah⟩:=N;have u:=(tO.1 (Jq u)).1;have r:=Jq r;have r:(Z9 all b++Z9 all s).Nodup:=by simpa[Z9]using r
 obtain⟨F,T,a9⟩:=tO.1 r;have I:=aR M;have a1:∀i,∃x:Obj×(Nat->Value),i∈b->∀o n lc mk,all[i]? =some o->JO cx v (Ep all i) o.op=some (n,lc,mk)->(∀d,(execOp (ev E) o).run cx.P d= .ok (.value (x.2 d.heap.size)) (d.alloc x.1))/\A5s lc mk x.1 x.2:=fun i=>by
  by_cases a:i∈b
  . obtain⟨o,n,lc,mk,l,j,Q⟩:=I i a;obtain⟨X,f,U,V⟩:=A2i h hty j Q;refine⟨(X,f),fun _ ae aj ac ad J z=> ?_⟩;rw[l]at J;cases J;rw[j]at z;cases z;obtain⟨aa,af,a7,ag,a8,ab⟩:=o;exact⟨fun d=>U a7 d _ _ _ _,V⟩
  . exact⟨(.cells #[] 0 (0,0),fun _=>undef),fun a2=>absurd a2 a⟩
 obtain⟨g,H⟩:=g1m a1;refine⟨fun i=>(g i).2,fun i=>(g i).1,⟨fun i a=> ?_,fun i a d a5=>RW.of (qX h.mrk.1 a5.size) (P7.alloc d _),fun t c=> ?_⟩⟩
 . obtain⟨o,n,lc,mk,l,j,Q⟩:=I i a;exact⟨o,l,(H i a o n lc mk l j).1⟩
 . have a4:t.Nodup:=c.nodup_iff.2 u;have a3:(Z9 all t).Nodup:=(c.map _).nodup_iff.2 F;obtain⟨O,bl,D,R⟩:=aP (f:=fun i=>(g i).2) (X:=fun i=>(g i).1) t E w a4 a3;have W:=h.more (Z':=Z) O (fun _=>id) (fun _=> .inl);obtain⟨ai,B1,G,Y⟩:=kR (f:=fun i=>(g i).2) (X:=fun i=>(g i).1) (bl:=bl) W (fun i a o n lc mk l j=>(H i a o n lc mk l j).2) (fun i a=>by
    obtain⟨c1,z,a2⟩:=D i (c.symm.subset a);refine⟨z,qX h.ext.size c1,fun V=> ?_,qX h.mrk.1 c1,fun q U=> ?_⟩
    . have:=h.zlt _ V;omega
    . have:=((h.locs q).root (h.ft O U)).2.1;omega) (fun i a A y J=>R i (c.symm.subset a) A (c.symm.subset y) J) u M
   have a0:pT all (fun i=>(g i).2) bl b E=(Es all (fun i=>(g i).2) (fun i=>(g i).1) t E w).1:=funext fun x=>by
    by_cases z:x∈Z9 all b
    . obtain⟨i,a,e⟩:=J1.1 z;subst e;rw[lH F a,(D i (c.symm.subset a)).2.2]
    . rw[EW z,Gt _ _ _ fun J=>z ((c.map _).subset J)]
   rw[a0]at G;exact kS hty (fun A y=>a6 A (tJ _ y)) T G Y
include hty hsp in
theorem Ch {za0:Zn} {tails:List Nat} {n0:Nat} {nw:Bool} {k:St->Prop} (d:nw=true->za.k0=n0) (c:nw=false->za.b0=0) (f:∀ {a:St} {E:G6} {w:World} {Z:Nat->Prop} {B:Nat->Value},C2 za w0 a E w Z B->C2 za0 w0 a E w Z B):∀ {p:Pl} {pre t:Bool} {a:St} {E:G6} {w:World} {Z:Nat->Prop} {B:Nat->Value},(nw=true->pre=true->za.b0=w.heap.size)->C2 za w0 a E w Z B->Q3 cx sp all tails n0 nw p pre t k a->RI cx.P (RW nw za.b0) all tails (Nx za0 w0 k) p t E w
 | .done,_,_,_,_,_,_,_,_,h,b=>⟨_,_,_,f h,b⟩
 | .q u p,pre,t,a,E,w,Z,B,h,i,b=>by
  simp only[Q3]at b;split at b
  . rename_i r n;obtain⟨o,b⟩:=B8 b;refine⟨r,n,UH (EU hty (fun s g _=> ?_) i b) ?_⟩
    . cases nw with
      |false=>exact g
      |true=>
       have g:Below za.b0 w s/\True:=g;rw[h rfl (by simpa using o)]at g;exact⟨g.1,g.2⟩
    . rintro E' ⟨v,Z',B',j,l⟩;exact Ch d c f h j l
  . exact b.elim
 | .p s p,pre,t,a,E,w,Z,B,o,h,b=>by
  simp only[Q3]at b;split at b
  . rename_i r n;obtain⟨g,b⟩:=B8 b;refine⟨r,n,UH (EU hty (fun v _ j=>by rw[j]at g;cases g) h b) ?_⟩;rintro E' ⟨u,Z',B',i,l⟩;exact Ch d c f o i l
  . exact b.elim
 | .e r p,pre,t,a,E,w,Z,B,u,h,b=>by
  simp only[Q3]at b;split at b
  . rename_i s n;obtain⟨l,b⟩:=B8 b;refine⟨s,n,N0 ?_ (A1x hty hsp d c (tl:=t||tails.contains r) h l b)⟩;rintro E' x ⟨o,v,Z',B',g,j⟩;exact⟨o,Ch d c f (fun _ i=>by cases i) g j⟩
  . exact b.elim
 | .or s p q,pre,t,a,E,w,Z,B,o,h,b=>by
  simp only[Q3]at b;refine⟨?_,Ch d c f o h b.2⟩;have b:=b.1;split at b
  . rename_i u n;obtain⟨l,b⟩:=B8 b;refine⟨u,n,N0 ?_ (A1x hty hsp d c (tl:=t||tails.contains s) h l b)⟩;rintro E' x ⟨r,v,Z',B',g,j⟩;exact⟨r,Ch d c f (fun _ i=>by cases i) g j⟩
  . exact b.elim
 | .al y z p,pre,t,a,E,w,Z,B,x,l,b=>by
  simp only[Q3]at b;obtain⟨u,b⟩:=B8 b;obtain⟨h,X,g⟩:=A4m (nw:=nw) hty u l b;refine⟨h,X,g.one,g.rel,fun v s=> ?_⟩;obtain⟨F,i,j,A,Z',B',n,r⟩:=g.fin v s;exact⟨F,i,j,Ch d c f (fun _ o=>by cases o) n r⟩
theorem C2.marked {a:St} {E:G6} {w:World} {Z:Nat->Prop} {B:Nat->Value} (h:C2 za w0 a E w Z B):C2 {za with k0:=a.nx,b0:=w.heap.size} w0 a E w Z B:=
 ⟨h.ext,h.zlt,h.slots,h.locs,h.disj,h.refs,h.refl,h.fresh,h.bone,h.zin,h.nms,h.bfix,⟨qR _,fun k d c b=>by
  have:a.L k= .none:=h.fresh k c;rw[this]at b;exact b.elim⟩,h.frs,h.frf⟩
theorem C2.unmark {k0 b0:Nat} (a:za.b0=0) {b:St} {E:G6} {w:World} {Z:Nat->Prop} {B:Nat->Value} (h:C2 {za with k0:=k0,b0:=b0} w0 b E w Z B):C2 za w0 b E w Z B:=
 ⟨h.ext,h.zlt,h.slots,h.locs,h.disj,h.refs,h.refl,h.fresh,h.bone,h.zin,h.nms,h.bfix,⟨by rw[a];exact rI _,fun k b _ _=>by rw[a];exact rI _⟩,h.frs,h.frf⟩
end
section
variable {za:Zn} {w0:World} {cx:Cx} {sp:H1} {an:An}
def A7l {A:CM} {b c:St} {p:A.den} {E:G6} {w:World} {Z:Nat->Prop} {B:Nat->Value} (f:za.b0=0) (h:C2 za w0 b E w Z B) (a:gath A b=some (c,p)):∃Z',C2 za w0 c E w Z' B:=by
 simp only[Vc.gath,qG,bind_some]at a;obtain⟨i,_,g,_,tl,_,j,_,a⟩:=a;obtain⟨_,a⟩:=D7 a;cases a;obtain⟨Z0,d⟩:=h.plugL f (l:=A.rowL);exact C2.settleSh d
def post (za:Zn) (w0:World) (k:K):Exit->G6->World->Prop:=fun e E w=>Nx za w0 (k.at e) E w
variable (hty:G2 cx.P cx.tys=true) (hsp:Ra cx.P sp)
include hty hsp in
theorem A1w (g:za.b0=0) {n:Nat} :∀ {c:Code} {k:K} {a:St} {E:G6} {w:World} {Z:Nat->Prop} {B:Nat->Value},C2 za w0 a E w Z B->Lp cx sp an c k a->Gw.Wp cx.P n c (post za w0 k) E w:=by
 intro c
 induction c with
 |skip=>intro k a E w Z B h d _ f b;exact wp_skip ⟨E,b,a,Z,B,h,d⟩
 |label l=>intro k a E w Z B h d _ f b;exact wp_label ⟨E,b,a,Z,B,h,d⟩
 |exit i=>intro k a E w Z B h d _ f b;exact wp_exit ⟨E,b,a,Z,B,h,d⟩
 |ret=>intro k a E w Z B h d _ f b;exact wp_ret ⟨E,b,a,Z,B,h,d⟩
 |region id ops z=>
  intro k a E w Z B h b j f u;simp only[Av]at j;simp only[Lp]at b;have s:ops=ops.toList.toArray:=by simp
  cases z with
  |false=>
   simp only[rF]at b;rw[s];refine wp_region ?_;have:=TY (P:=cx.P) (Q:=post za w0 k) j ops.toList 0 (by simp) f E w u (aS g hty hsp h b);simpa[g2x]using this
  |true=>
   simp only[qV]at b;split at b
   . rename_i F tails nw p _;obtain⟨d,b⟩:=B8 b;simp only[qC]at d;obtain⟨d,D⟩:=d;simp only[B5i,qC]at d;rw[s];refine wp_region_any D (WK (S:=fun _=>True) (tails:=tails) _ _ _ _ ?_);have o:G3 tails (Array.replicate ops.toList.length false)=false:=by
      unfold G3;rw[zS];intro x _;simp only[yK,yZ];split<;>simp
     have l:=h.more (Z':=Z) (w':=w.drew) (P7.refl w).drew (fun _ h=>h) (fun _=> .inl);have fin:∀b0,RI cx.P (RW nw b0) ops.toList tails (Nx za w0 k.n) p false E w.drew->V6 cx.P ops.toList.toArray (DT n (post za w0 k)) (RW nw b0 w.drew) tails ops.toList.length (Array.replicate ops.toList.length false) f w.drew:=fun b0 hd=>
      A6t (P:=cx.P) (R:=RW nw b0) (RW.refl nw _) (fun f y=>f.trans y) (Q:=post za w0 k) j d.1.1 d.1.2 (fun c E w i=>by obtain⟨_,_,_,_,i⟩:=i;exact i) p ops.toList.length _ none d.2 ⟨gD _ _,fun v=>by rw[o]at v;cases v⟩ false o.symm f E w.drew u (fun _ i=>by cases i) hd
     cases nw with
     |true=>
      have:=fin _ (Ch (za0:=za) (nw:=true) hty hsp (n0:=a.nx) (fun _=>rfl) (fun i=>by cases i) (fun h=>h.unmark g) (fun _ _=>rfl) l.marked b);simpa using Hx (S':=fun _=>True) (fun _ _=>trivial) _ _ _ _ this
     |false=>
      have:=fin _ (Ch (za0:=za) (nw:=false) hty hsp (n0:=a.nx) (fun i=>by cases i) (fun _=>g) (fun h=>h) (fun i=>by cases i) l b);simpa using Hx (S':=fun _=>True) (fun _ _=>trivial) _ _ _ _ this
   . exact b.elim
 |seq O T y z=>
  intro k a E w Z B s l i u v;simp only[Av,qC]at i;simp only[Lp]at l;split at l
  . rename_i A _;obtain⟨J,D,G⟩:=l;have F:=LN (k':= {n:=fun d=>C3 a d/\JY A a J d,x:=k.x,r:=k.r}) D (fun e d ev j=>by
     cases e with
     |normal=>exact⟨ev,j⟩
     |exit H=>exact j
     |ret=>exact j
     | _=>exact j)
    refine wp_seq (wp_mono (y s F i.1 u v) ?_);rintro e o w' ⟨E',h,d,Z',B',f,b⟩;cases e with
    |normal=>
     obtain⟨p,N,M,Z2,B2,H⟩:=YN g f b.2 s.pure b.1;exact z H (G p N M) i.2 o h
    |exit H=>exact⟨E',h,d,Z',B',f,b⟩
    |ret=>exact⟨E',h,d,Z',B',f,b⟩
    | _=>exact b.elim
  . refine wp_seq (wp_mono (y s l i.1 u v) ?_);rintro e o w' ⟨E',h,d,Z',B',f,b⟩;cases e with
    |normal=>exact z f b i.2 o h
    |exit H=>exact⟨E',h,d,Z',B',f,b⟩
    |ret=>exact⟨E',h,d,Z',B',f,b⟩
    | _=>exact b.elim
 |cond c x z u v=>
  intro k a E w Z B h b d i f;simp only[Av,qC]at d;simp only[Lp]at b;split at b
  . rename_i e j;obtain⟨y,l,o⟩:=bind_some.1 j;have s:=Oi (h.ev (F1 E) l).1 o;refine wp_cond (t:=e) (by rw[f.ev];exact s) ?_;cases e with
    |true=>exact u h (b.1 rfl) d.1 i f
    |false=>exact v h (b.2 rfl) d.2 i f
  . exact b.elim
 |block id c v=>
  intro k a E w Z B l u o j s;refine wp_block (wp_mono (v l u o j s) ?_);rintro e z w' ⟨E',f,h,Z',B',d,b⟩;cases e with
  |normal=>exact⟨E',f,h,Z',B',d,b⟩
  |ret=>exact⟨E',f,h,Z',B',d,b⟩
  |exit y=>
   simp only[Exit.inBlock];simp only[K.at]at b;by_cases i:y=id
   . subst i;simp only[wA];simp at b;exact⟨E',f,h,Z',B',d,b⟩
   . simp only[i,yR];rw[E3 i]at b;exact⟨E',f,h,Z',B',d,b⟩
  | _=>exact b.elim
 |loop c a3=>
  intro k a E w Z B v b F a6 X;simp only[Av]at F;simp only[Lp]at b;split at b
  . rename_i A _;unfold B5n at b;split at b
    . rename_i l H D;obtain⟨z,b⟩:=B8 b;simp only[qC,tT]at z;obtain⟨I,i,M,N⟩:=b;obtain⟨Z1,G⟩:=A7l g v D;obtain⟨a2,Z2,B2,O⟩:=A0x g v D G.pure (fun _ _=>rfl) (fun _ _=>rfl) (fun a4 hy=>Vu (z.1 a4 hy)) rfl;refine wp_loop_ghost (fun m o w=>∃p E',i p=m/\Gw.C6 n o E'/\A.wf p/\I p/\∃Z B,C2 za w0 (reflect A l p) E' w Z B) (i H) ⟨H,E,rfl,X,a2,M,Z2,B2,O⟩ ?_;rintro m o w ⟨p,E',a7,Y,a0,W,Z3,B3,T⟩;have U:=LN (k':= {n:=fun d=>C3 (reflect A l p) d/\JY A l (fun h=>I h/\i h<i p) d,x:=k.x,r:=k.r}) (N p a0 W) (fun e d ev j=>by
       cases e with
       |normal=>exact⟨ev,j⟩
       |exit y=>exact j
       |ret=>exact j
       | _=>exact j)
      refine wp_mono (a3 T U F o Y) ?_;rintro e a5 w' ⟨E'',u,d,Z',B',s,f⟩;cases e with
      |normal=>
       obtain⟨h,a1,y,Z5,B5,V⟩:=YN g s f.2 G.pure ((C3.told A l p).trans f.1);exact⟨i h,by have:=y.2;omega,h,E'',rfl,u,a1,y.1,Z5,B5,V⟩
      |exit y=>exact⟨E'',u,d,Z',B',s,f⟩
      |ret=>exact⟨E'',u,d,Z',B',s,f⟩
      | _=>exact f.elim
    . exact b.elim
  . exact b.elim
 | _=>intro k a E w Z B h b;exact b.elim
end
abbrev Lk (α:Type):List α:= []
def Xa (cx:Cx) (a:St):List ResultVar->Option (List SV)
 | []=>some []
 | .tmp t::r=>match a.S t with
  | .one s=>(Xa cx a r).map (s:: ·)
  | _=>none
 | .cell b T::r=>do
  let ti<-cx.ti T
  match a.S b with
  | .one ⟨false,[.box k 0]⟩=>match a.L k with
   | .box _ b=>bif Nat.beq b.length ti.ty.size then(Xa cx a r).map (⟨ti.agg,b⟩:: ·)else none
   | _=>none
  | _=>none
def settleR:St->List RT->List SV->St
 |c, .val _ _::a,s::b=>settleR (settle c s.cs) a b
 |c, .own _ _::a,_::b=>settleR c a b
 |a, .obox _ _::c,s::d=>settleR (match c1 s with
  |some (.box k 0)=>(match a.L k with
   | .box _ b=>settle a b
   | _=>a)
  | _=>a) c d
 |c, .rows _ _ _::a,_::b=>settleR c a b
 |a,_,_=>a
def BP (a:St):(rs:List RT)->List SV->Option (Ae rs)
 | [],[]=>some ()
 | .val b t::rs,s::c=>(Pg b t s).bind fun x=>(BP a rs c).map fun y=>(x,y)
 | .own t e::rs,s::b=>((c1 s).bind (LK a t e)).bind fun x=>(BP a rs b).map fun y=>(x,y)
 | .obox T t::rs,s::b=>((YP s).bind fun k=>bif Nat.ble a.nm k then gA a T t k else none).bind fun x=>(BP a rs b).map fun y=>(x,y)
 | .rows t e b::rs,s::c=>((Pn s).bind fun k=>bif Nat.ble a.nm k then rowsAt a t e b k else none).bind fun x=>(BP a rs c).map fun y=>(x,y)
 | _,_=>none
def Aw:List RT->List SV->List Nat
 | .own _ _::a,⟨false,[.row k]⟩::b=>k::Aw a b
 | .obox _ _::a,⟨false,[.box k 0]⟩::b=>k::Aw a b
 | .rows _ _ _::a,⟨false,[.row k]⟩::b=>k::Aw a b
 | _::a,_::b=>Aw a b
 | _,_=> []
def settleM:St->List AM->Nat->St
 |a, .box _ _::r,j=>settleM (match a.L j with| .box _ cs=>settle a cs| _=>a) r (j+1)
 |a, .row _ _::r,j=>settleM a r (j+1)
 |a, .val _ _::r,j=>settleM a r j
 |a, .fn _ _ _::r,j=>settleM a r j
 |a, .rows _ _ _::r,j=>settleM a r (j+1)
 |a,[],_=>a
def XI (a:St):(as:List AM)->Nat->Option (Ll as)
 | [],_=>some ()
 | .row t e::r,j=>(Ts a t e j).bind fun x=>(XI a r (j+1)).map fun y=>(x,y)
 | .box T t::r,j=>(gA a T t j).bind fun x=>(XI a r (j+1)).map fun y=>(x,y)
 | .val _ _::r,j=>XI a r j
 | .fn _ _ _::r,j=>XI a r j
 | .rows t e b::r,j=>(rowsAt a t e b j).bind fun x=>(XI a r (j+1)).map fun y=>(x,y)
def B5e:AM->Bool
 | .row t _=>Jn t
 | .rows t _ _=>Jn t
 | .box _ t=>Jn t
 | _=>true
def B9b (s:B4) (x:A5 s.args) (r:Ae s.res) (o:Ll s.args):Prop:=bif O6 s.args then s.post x r/\s.mpost x r o else s.post x r
def fin (cx:Cx) (s:B4) (c:List ResultVar) (x:A5 s.args) (a:St):Prop:=
 match Xa cx a c with
 |some b=>match Xa cx (settleM (settleR a s.res b) s.args 0) c with
  |some c=>match BP (settleM (settleR a s.res b) s.args 0) s.res c,XI (settleM (settleR a s.res b) s.args 0) s.args 0 with
   |some r,some o=>bif(DZ (Aw s.res c)&&Kb s.res)&&(s.shared|| (s.res.all A0u&&s.args.all B5e))then B9b s x r o else False
   | _,_=>False
  |none=>False
 |none=>False
def Fz (P:Program):(as:List AM)->A5 as->Nat->Nat->List (Nat×Nat×DV)
 | [],_,_,_=> []
 | .val a t::r,x,i,j=>(i,1, .one ⟨a,explode t x.1⟩)::Fz P r x.2 (i+1) j
 | .row _ _::r,x,i,j=>(i,1, .one ⟨false,[.row j]⟩)::Fz P r x.2 (i+1) (j+1)
 | .box _ _::r,x,i,j=>(i,1, .one ⟨false,[.box j 0]⟩)::Fz P r x.2 (i+1) (j+1)
 | .rows _ _ _::r,x,i,j=>(i,1, .one ⟨false,[.row j]⟩)::Fz P r x.2 (i+1) (j+1)
 | .fn a c b::r,x,i,j=>(i,1, .one ⟨false,[.fv P a c b x.1.1 x.1.2]⟩)::Fz P r x.2 (i+1) j
def Cv:(as:List AM)->A5 as->Nat->List (Nat×Nat×LC)
 | [],_,_=> []
 | .val _ _::r,x,j=>Cv r x.2 j
 | .fn _ _ _::r,x,j=>Cv r x.2 j
 | .row t e::r,x,j=>(j,1, .row t e x.1)::Cv r x.2 (j+1)
 | .box T t::r,x,j=>(j,1, .box T (explode t x.1))::Cv r x.2 (j+1)
 | .rows t e a::r,x,j=>(j,1, .rows t e a x.1 [] none)::Cv r x.2 (j+1)
def Ix:List AM->Nat
 | []=>0
 | .row _ _::r=>Ix r+1
 | .box _ _::r=>Ix r+1
 | .rows _ _ _::r=>Ix r+1
 | .val _ _::r=>Ix r
 | .fn _ _ _::r=>Ix r
def nN (P:Program) (as:List AM) (x:A5 as):St:=⟨Fz P as x 0 0,Cv as x 0,Ix as,1,Ix as,[]⟩
def B7q (cx:Cx) (sp:H1) (an:An) (s:B4) (a:List ResultVar) (c:Code) (x:A5 s.args):Prop:=
 Lp cx sp an c ⟨fin cx s a x,fun _ _=>False,fin cx s a x⟩ (nN cx.P s.args x)
section
variable {za:Zn} {w0 w:World} {Z:Nat->Prop} {B:Nat->Value} {st:St} {E:G6} {cx:Cx} {sp:H1} {an:An}
def iT (tmps:Array Value):ResultVar->Sem Value
 | .tmp t=>pure (tmps.getD t undef)
 | .cell a t=>do loadVar t (<-asAddr (tmps.getD a undef))
def HU (j:G2 cx.P cx.tys=true) (h:C2 za w0 st E w Z B) {tmps:Array Value} (b:∀t,tmps.getD t undef=E t):∀ {A:List ResultVar} {ss:List SV},Xa cx st A=some ss->∃vs,(A.mapM (iT tmps)).run cx.P w= .ok vs w/\Ob w Z B ss vs
 | [],ss,a=>by cases a;exact⟨[],rfl,rfl⟩
 | .tmp t::r,ss,a=>by
  simp only[Xa]at a;split at a
  . rename_i s g;simp only[qJ]at a;obtain⟨k,i,rfl⟩:=a;obtain⟨vs,d,f⟩:=HU j h b i;have c:=h.slots t;rw[g]at c;refine⟨E t::vs, ?_,E t,vs,rfl,c,f⟩;rw[wP];simp only[iT,b,Sem.run_bind,Sem.run_pure,Result.andThen_ok,d]
  . cases a
 | .cell D T::a1,ss,a=>by
  simp only[Xa,qG,bind_some]at a;obtain⟨ti,W,a⟩:=a;split at a
  . rename_i X N;split at a
    . rename_i T' a0 O;obtain⟨J,a⟩:=D7 a;simp only[qJ]at a;obtain⟨a2,R,rfl⟩:=a;obtain⟨vs,r,s⟩:=HU j h b R;have Q:=qD J;have y:=h.slots D;rw[N]at y;obtain⟨_,_,F,⟨l,G,n⟩,_⟩:=y;cases F;have v:=h.locs X;rw[O]at v;obtain⟨Y,c,o,_,_,x,d⟩:=v;rw[G]at o;cases o;have k:c.toList.length=ti.ty.size:=by rw[<-Q,d.len]
      rcases(K5 (C0 j W)).2.1 with⟨i,I⟩ | ⟨i,V,U⟩
      . refine⟨.agg c.toList.toArray::vs, ?_,_,vs,rfl,by rw[i];exact⟨c.toList,rfl,d⟩,s⟩;obtain⟨f,H⟩:=Nl (P:=cx.P) (w:=w) I;have g:=run_loadCells_list (P:=cx.P) (w:=w) ⟨l,0,none⟩ c.toList x.cellsAt;rw[k]at g;unfold loadCells at g;rw[wP];simp[iT,b,n,asAddr,loadVar,f,H,g,r,go_sem]
      . rw[U]at k
        match z:c.toList,k with
        | [u],_=>
         rw[z]at d;have M:w.cell? ⟨l,0,none⟩=some u:=by
          have:=x.cellsAt 0 u (by rw[z];rfl);rwa[J9]at this
         refine⟨u::vs, ?_,u,vs,rfl,by rw[i];exact d,s⟩;have f:=Gu (P:=cx.P) (w:=w) V;rw[wP];simp[iT,b,n,asAddr,loadVar,f,M,r,go_sem]
    . cases a
  . cases a
def C2.settleR:∀ {rs:List RT} {ss:List SV} {st:St} {Z:Nat->Prop},C2 za w0 st E w Z B->∃Z',C2 za w0 (settleR st rs ss) E w Z' B
 | .val _ _::rs,s::ss,st,Z,h=>by
  obtain⟨Z1,a⟩:=h.settle s.cs;exact C2.settleR (rs:=rs) (ss:=ss) a
 | .own _ _::rs,_::ss,st,Z,h=>C2.settleR (rs:=rs) (ss:=ss) h
 | .obox _ _::rs,s::ss,st,Z,h=>by
  simp only[Vc.settleR];split
  . split
    . obtain⟨Z1,a⟩:=h.settle _;exact C2.settleR (rs:=rs) (ss:=ss) a
    . exact C2.settleR (rs:=rs) (ss:=ss) h
  . exact C2.settleR (rs:=rs) (ss:=ss) h
 | [],_,st,Z,h=>⟨Z,h⟩
 | .val _ _:: _,[],st,Z,h=>⟨Z,h⟩
 | .own _ _:: _,[],st,Z,h=>⟨Z,h⟩
 | .obox _ _:: _,[],st,Z,h=>⟨Z,h⟩
 | .rows _ _ _::rs,_::ss,st,Z,h=>C2.settleR (rs:=rs) (ss:=ss) h
 | .rows _ _ _:: _,[],st,Z,h=>⟨Z,h⟩
def Pf (h:C2 za w0 st E w Z B) {Zn:Nat->Prop} (f:∀b,Zn b->Z b):∀ {rs:List RT} {ss:List SV} {vs:List Value} {r:Ae rs},((∀b,Z b->Zn b)\/rs.all A0u=true)->Ob w Z B ss vs->BP st rs ss=some r->(Aw rs ss).Nodup->Kb rs=true->
 Ls w0.heap.size w Zn rs vs r/\∀u∈U2 rs vs,∀b,root u=some b->∃k∈Aw rs ss,A9 w (B k) (st.L k) b
 | [],[],vs,_,_,a,_,_,_=>⟨a,fun u c=>by simp[U2]at c⟩
 | [],_:: _,_,_,_,_,a,_,_=>by cases a
 | .val _ _:: _,[],_,_,_,_,a,_,_=>by cases a
 | .own _ _:: _,[],_,_,_,_,a,_,_=>by cases a
 | .obox _ _:: _,[],_,_,_,_,a,_,_=>by cases a
 | .rows _ _ _:: _,[],_,_,_,_,a,_,_=>by cases a
 | .rows v n o::rs,ac::ss,_,r,c,⟨ad,ae,e,Q,R⟩,A,z,F=>by
  simp only[BP,bind_some,qJ]at A;obtain⟨G,⟨q,l,s⟩,ai,g,rfl⟩:=A;subst e;obtain⟨a2,s⟩:=D7 s;have ah:=qP a2;have X:ac=⟨false,[.row q]⟩:=by
   unfold Pn at l;split at l
   . cases l;rfl
   . cases l
  subst X;obtain⟨_,_,N,t,_⟩:=Q;cases N;have t:ad=B q:=t;subst t;obtain⟨al,D⟩:=W4 s;have x:=h.locs q;rw[D]at x;have U:=x.rowsR;have y:∀b,A9 w (B q) (.rows v n o G [] none) b->A9 w (B q) (st.L q) b:=fun b a=>by rw[D];exact(T5 fun _ _=>rfl).1 a
  simp only[Kb,Aa,Nc,qC,zB,wL,rO]at F;obtain⟨⟨aa,H⟩,ab⟩:=F;have Y:Aw (.rows v n o::rs) (⟨false,[.row q]⟩::ss)=q::Aw rs ss:=rfl;rw[Y]at z⊢;have a1:=sH.1 z;obtain⟨O,P⟩:=Pf h f (c.imp id fun j=>by simp only[tH,qC]at j;exact j.2) R g a1.2 ab;have V:Az w Zn v n o (B q) G:=by
   obtain⟨ag,a6,a7,a8,a9⟩:=U;refine⟨ag,a6,fun a5 I af W a3=>(a7 a5 I af W a3).imp fun aj g=>⟨g.1, ?_⟩,a8,a9⟩;rcases c with c|c
   . exact g.2.mono fun _ _=>C6.mono c (fun _ _=>rfl)
   . simp only[tH,qC]at c;exact g.2.mono fun _ _ j=>C6.flat c.1 j
  refine⟨⟨B q,ae,rfl,⟨V,fun b a=> ?_⟩,fun _=>⟨⟨aa,fun _=>H⟩,fun b a u d=>by rw[Sm H]at d;cases d⟩,O⟩,fun u d b a=> ?_⟩
  . obtain⟨i,J,M⟩:=(h.locs q).root (y b a);refine⟨?_,fun a4=>M (f b a4),J⟩;rcases i with i|i
    . exact i.2
    . have:=h.nms.1;omega
  . simp only[U2,qT]at d;rcases d with rfl|d
    . exact⟨q,by simp,y b (.inl a)⟩
    . obtain⟨k,a0,r⟩:=P u d b a;exact⟨k,qL _ a0,r⟩
 | .val g F::rs,s::ss,_,r,a,⟨v,G,e,t,x⟩,j,i,l=>by
  simp only[Kb,qC]at l;obtain⟨H,z⟩:=l;simp only[BP,bind_some,qJ]at j;obtain⟨M,A,N,D,rfl⟩:=j;have y:Aw (.val g F::rs) (s::ss)=Aw rs ss:=by
   obtain⟨I,J⟩:=s;simp only[Aw]
  rw[y]at i⊢;obtain⟨n,o⟩:=Pf h f (a.imp id fun d=>by simp only[tH,qC]at d;exact d.2) x D i z;subst e;refine⟨⟨v,G,rfl, ?_,fun d=>(by cases d),n⟩,o⟩;have c:=Dd t A;rcases a with a|a
  . exact c.mono a (fun _ _=>rfl)
  . simp only[tH,qC]at a;cases g with
    |true=>obtain⟨cs,e,c⟩:=c;exact⟨cs,e,C6.flat a.1 c⟩
    |false=>exact C6.flat (cs:= [v]) a.1 c
 | .own y D::rs,ab::ss,_,r,g,⟨z,V,e,X,F⟩,M,l,P=>by
  simp only[Kb,Aa,Nc,qC,zB,wL,g0s,g0n,g3n,rO]at P;obtain⟨N,O⟩:=P;simp only[BP,bind_some,qJ]at M;obtain⟨a8,⟨n,j,a0⟩,ac,R,rfl⟩:=M;subst e;have Y:ab=⟨false,[n]⟩:=by
   unfold c1 at j;split at j
   . cases j;rfl
   . cases j
  subst Y;obtain⟨_,_,W,a4,_⟩:=X;cases W;obtain⟨A,x,U,a9,aa⟩:=LM h a4 a0;have a6:=D8 x;have G:F9 (C6 y w Zn) A a8:=by
   rcases g with g|g
   . exact U.mono fun _ _=>C6.mono g (fun _ _=>rfl)
   . simp only[tH,qC]at g;exact U.mono fun _ _ d=>C6.flat g.1 d
  have H:(∀b,Z b->Zn b)\/rs.all A0u=true:=g.imp id fun d=>by simp only[tH,qC]at d;exact d.2
  rcases aa with⟨q,rfl,I,Q⟩ | ⟨a2,a1⟩
  . have s:Aw (.own y D::rs) (⟨false,[.row q]⟩::ss)=q::Aw rs ss:=rfl;rw[s]at l⊢;have J:=sH.1 l;obtain⟨o,i⟩:=Pf h f H F R J.2 O;refine⟨⟨z,V,rfl,⟨A,x,G,fun b a a7=>a9 b a (f b a7)⟩,fun _=>⟨⟨N,fun d=>(by cases d)⟩,fun b a u c hub=> ?_⟩,o⟩,fun u c b a=> ?_⟩
    . obtain⟨k,t,a5⟩:=i u c b hub;have a3:root (B q)=some b:=by rw[<-Q];exact a
      exact h.disj q k b (fun d=>J.1 (d▸t)) (A9.of I a3) a5
    . simp only[U2,qT]at c;rcases c with rfl|c
      . exact⟨q,by simp,A9.of I (by rw[<-Q];exact a)⟩
      . obtain⟨k,t,r⟩:=i u c b a;exact⟨k,qL _ t,r⟩
  . have s:Aw (.own y D::rs) (⟨false,[n]⟩::ss)=Aw rs ss:=by cases n<;>first|rfl|exact absurd rfl (a1 _)
    rw[s]at l⊢;obtain⟨o,i⟩:=Pf h f H F R l O;have v:∀b,root z≠some b:=fun b a=>by rw[a2]at a;cases a
    refine⟨⟨z,V,rfl,⟨A,x,G,fun b a=>absurd (a6.trans a) (v b)⟩,fun _=>⟨⟨N,fun d=>(by cases d)⟩,fun b a=>absurd a (v b)⟩,o⟩,fun u c b a=> ?_⟩;simp only[U2,qT]at c;rcases c with rfl|c
    . exact absurd a (v b)
    . exact i u c b a
 | .obox T M::rs,ab::ss,_,r,a,⟨ac,ad,e,V,W⟩,G,D,J=>by
  simp only[Kb,Aa,Nc,qC,zB,wL,g0s,g0n,g3n,rO]at J;obtain⟨a5,a6⟩:=J;simp only[BP,bind_some,qJ]at G;obtain⟨ae,⟨q,l,t⟩,ag,a9,rfl⟩:=G;subst e;obtain⟨a3,t⟩:=D7 t;have a0:ab=⟨false,[.box q 0]⟩:=by
   unfold YP at l;split at l
   . cases l;rfl
   . cases l
  subst a0;obtain⟨_,_,R,⟨i,x,o⟩,_⟩:=V;cases R;obtain⟨cs,H,a4⟩:=Vv t;have z:=h.locs q;rw[H]at z;obtain⟨af,N,v,j,O,P,Q⟩:=z;rw[v]at x;cases x;have I:=Fg Q a4;have a7:C6 M w Zn N.toList ae:=by
   rcases a with a|a
   . exact C6.mono a (fun _ _=>rfl) I
   . simp only[tH,qC]at a;exact C6.flat a.1 I
  have a1:(∀b,Z b->Zn b)\/rs.all A0u=true:=a.imp id fun d=>by simp only[tH,qC]at d;exact d.2
  have a2:Aw (.obox T M::rs) (⟨false,[.box q 0]⟩::ss)=q::Aw rs ss:=rfl;rw[a2]at D⊢;have F:=sH.1 D;obtain⟨U,y⟩:=Pf h f a1 W a9 F.2 a6;have X:w0.heap.size<=i:=by
   rcases j with j|j
   . exact j.2
   . have:=h.nms.1;have:=qP a3;omega
  have A:∀n,root (Value.pointer (some ⟨i,0,none⟩))=some n->A9 w (B q) (st.L q) n:=fun n Y=>by rw[H,v];exact Y
  refine⟨⟨ac,ad,rfl,⟨i,N,o,X,fun aa=>O (f i aa),P,a7⟩,fun _=>⟨⟨a5,fun d=>(by cases d)⟩,fun b c u g hub=> ?_⟩,U⟩,fun u g b c=> ?_⟩
  . obtain⟨k,s,a8⟩:=y u g b hub;rw[o]at c;exact h.disj q k b (fun d=>F.1 (d▸s)) (A b c) a8
  . simp only[U2,qT]at g;rcases g with rfl|g
    . rw[o]at c;exact⟨q,by simp,A b c⟩
    . obtain⟨k,s,r⟩:=y u g b c;exact⟨k,qL _ s,r⟩
def C2.settleM:∀ {as:List AM} {st:St} {j:Nat} {Z:Nat->Prop},C2 za w0 st E w Z B->∃Z',C2 za w0 (settleM st as j) E w Z' B
 | [],st,_,Z,h=>⟨Z,h⟩
 | .row _ _::r,st,j,Z,h=>C2.settleM (as:=r) h
 | .val _ _::r,st,j,Z,h=>C2.settleM (as:=r) h
 | .fn _ _ _::r,st,j,Z,h=>C2.settleM (as:=r) h
 | .rows _ _ _::r,st,j,Z,h=>C2.settleM (as:=r) h
 | .box _ _::r,st,j,Z,h=>by
  simp only[Vc.settleM];split
  . obtain⟨Z1,a⟩:=h.settle _;exact C2.settleM (as:=r) a
  . exact C2.settleM (as:=r) h
def Ze (h:C2 za w0 st E w Z B) {Zn:Nat->Prop} :∀ {as:List AM} {vs:List Value} {o:Ll as} {j:Nat},((∀b,Z b->Zn b)\/as.all B5e=true)->(∀m u,(D3 as vs)[m]? =some u->B (j+m)=u)->(∀m p,(O7 as vs)[m]? =some p->∀b,up za w0 (j+m) b->A9 w0 p.2 (lcA p.1) b)->vs.length=as.length->XI st as j=some o->Ul w0 w Zn as vs o
 | [],_,_,_,_,_,_,_,_=>trivial
 |a::r,[],_,_,_,_,_,c,_=>by simp at c
 | .val _ _::r,v::vs,o,j,g,d,f,i,k=>Ze (as:=r) h (g.imp id fun c=>by simp only[tH,qC]at c;exact c.2) d f (by simpa using i) k
 | .fn _ _ _::r,v::vs,o,j,g,d,f,i,k=>Ze (as:=r) h (g.imp id fun c=>by simp only[tH,qC]at c;exact c.2) d f (by simpa using i) k
 | .row D e::z,v::vs,o,j,c,k,s,t,n=>by
  simp only[XI,bind_some,qJ]at n;obtain⟨F,x,G,y,rfl⟩:=n;have r:B j=v:=k 0 v (by simp[D3,K0]);have l:=h.locs j;rw[Hl x]at l;obtain⟨A,g,i,_⟩:=l;rw[r]at g;refine⟨⟨A,g, ?_⟩,Ze (as:=z) h (c.imp id fun d=>by simp only[tH,qC]at d;exact d.2) (fun m u f=>by rw[show j+1+m=j+(m+1)from by omega];exact k (m+1) u (by simpa[D3,K0]using f)) (fun m p f=>by rw[show j+1+m=j+(m+1)from by omega];exact s (m+1) p (by simpa[O7,K0]using f)) (by simpa using t) y⟩;rcases c with c|c
  . exact i.mono fun _ _=>C6.mono c (fun _ _=>rfl)
  . simp only[tH,qC]at c;exact i.mono fun _ _ d=>C6.flat c.1 d
 | .box T I::F,v::vs,o,j,c,g,t,y,l=>by
  simp only[XI,bind_some,qJ]at l;obtain⟨J,A,M,D,rfl⟩:=l;have s:B j=v:=g 0 v (by simp[D3,K0]);obtain⟨H,x,z⟩:=Vv A;have i:=h.locs j;rw[x]at i;obtain⟨b,G,f,_,_,n,r⟩:=i;rw[s]at f;refine⟨⟨b,G,f,n, ?_⟩,Ze (as:=F) h (c.imp id fun k=>by simp only[tH,qC]at k;exact k.2) (fun m u d=>by rw[show j+1+m=j+(m+1)from by omega];exact g (m+1) u (by simpa[D3,K0]using d)) (fun m p d=>by rw[show j+1+m=j+(m+1)from by omega];exact t (m+1) p (by simpa[O7,K0]using d)) (by simpa using y) D⟩;have:=Fg r z;rcases c with c|c
  . exact C6.mono c (fun _ _=>rfl) this
  . simp only[tH,qC]at c;exact C6.flat c.1 this
 | .rows P e A::O,v::vs,o,j,c,n,t,i,y=>by
  simp only[XI,bind_some,qJ]at y;obtain⟨z,l,R,f,rfl⟩:=y;have r:B j=v:=n 0 v (by simp[D3,K0]);have s:=h.locs j;obtain⟨al,x⟩:=W4 l;rw[x]at s;have g:=s.rowsR;rw[r]at g;refine⟨⟨?_,fun b I=> ?_⟩,Ze (as:=O) h (c.imp id fun d=>by simp only[tH,qC]at d;exact d.2) (fun m u k=>by rw[show j+1+m=j+(m+1)from by omega];exact n (m+1) u (by simpa[D3,K0]using k)) (fun m p k=>by rw[show j+1+m=j+(m+1)from by omega];exact t (m+1) p (by simpa[O7,K0]using k)) (by simpa using i) f⟩
  . rcases c with c|c
    . exact g.mono c
    . simp only[tH,qC]at c;obtain⟨Q,D,F,G,H⟩:=g;exact⟨Q,D,fun M N z i l=>(F M N z i l).imp fun U f=>⟨f.1,f.2.mono fun _ _ d=>C6.flat c.1 d⟩,G,H⟩
  . have J:A9 w (B j) (st.L j) b:=by rw[x,r];exact(T5 fun _ _=>rfl).1 I
    exact t 0 (.rows P e A,v) (by simp[O7,K0]) b ((h.locs j).root J).1
variable {P:Program}
def Gj {n:Nat} :∀ {as:List AM} {vs:List Value} {x:A5 as} {i j s:Nat},Y4 P w Z as vs x->i<=s->(∀m u,(D3 as vs)[m]? =some u->B (j+m)=u)->j+Ix as<=n->RD w Z B E (find (0, .dead) s (Fz P as x i j)).2 ((vs[s-i]?).getD undef)/\HT n (find (0, .dead) s (Fz P as x i j)).2
 | [],_,_,_,_,_,_,_,_,_=>⟨trivial,trivial⟩
 |a::z,_,x,i,j,s,⟨v,F,e,g,f⟩,y,b,c=>by
  subst e;by_cases d:i=s
  . subst d;cases a with
    |val a t=>
     simp only[Fz,find,yB,qV,xM];exact⟨Au.explode g,E6⟩
    |row t e=>
     simp only[Fz,find,yB,qV,xM];have k:B j=v:=b 0 v (by simp[D3,K0]);exact⟨⟨v,[],rfl,k.symm,rfl⟩,fun l h=>by simp at h;subst h;simp only[Ix]at c;show j<n;omega⟩
    |box T A=>
     simp only[Fz,find,yB,qV,xM];have o:B j=v:=b 0 v (by simp[D3,K0]);obtain⟨l,D,h,_⟩:=g;exact⟨⟨v,[],rfl,⟨l,o.trans h,h⟩,rfl⟩,fun t k=>by simp at k;subst k;simp only[Ix]at c;show j<n;omega⟩
    |rows t e o=>
     simp only[Fz,find,yB,qV,xM];have k:B j=v:=b 0 v (by simp[D3,K0]);exact⟨⟨v,[],rfl,k.symm,rfl⟩,fun l h=>by simp at h;subst h;simp only[Ix]at c;show j<n;omega⟩
    |fn k o=>
     simp only[Fz,find,yB,qV,xM];exact⟨⟨v,[],rfl,g,rfl⟩,fun l h=>by simp at h;subst h;trivial⟩
  . have r:s-i=(s-(i+1))+1:=by omega
    rw[r];cases a with
    |val a t=>
     simp only[Fz,find,E3 d,rF,uN];exact Gj (i:=i+1) (s:=s) f (by omega) b c
    |fn h k=>
     simp only[Fz,find,E3 d,rF,uN];exact Gj (i:=i+1) (s:=s) f (by omega) b c
    |row t e=>
     simp only[Fz,find,E3 d,rF,uN];exact Gj (i:=i+1) (s:=s) f (by omega) (fun m u h=>by rw[show j+1+m=j+(m+1)from by omega];exact b (m+1) u (by simpa[D3,K0]using h)) (by simp only[Ix]at c;omega)
    |box t e=>
     simp only[Fz,find,E3 d,rF,uN];exact Gj (i:=i+1) (s:=s) f (by omega) (fun m u h=>by rw[show j+1+m=j+(m+1)from by omega];exact b (m+1) u (by simpa[D3,K0]using h)) (by simp only[Ix]at c;omega)
    |rows t e k=>
     simp only[Fz,find,E3 d,rF,uN];exact Gj (i:=i+1) (s:=s) f (by omega) (fun m u h=>by rw[show j+1+m=j+(m+1)from by omega];exact b (m+1) u (by simpa[D3,K0]using h)) (by simp only[Ix]at c;omega)
def nO {n:Nat} {U:Nat->Nat->Prop} :∀ {as:List AM} {vs:List Value} {x:A5 as} {j k:Nat},Y4 P w Z as vs x->(∀m p,(O7 as vs)[m]? =some p->B (j+m)=p.2/\∀b,A9 w p.2 (lcA p.1) b->U (j+m) b)->
 RL (U k) w Z B k (find (0, .none) k (Cv as x j)).2/\AR n (find (0, .none) k (Cv as x j)).2/\(live (find (0, .none) k (Cv as x j)).2->j<=k/\∃p,(O7 as vs)[k-j]? =some p/\∀b,A9 w (B k) (find (0, .none) k (Cv as x j)).2 b->A9 w p.2 (lcA p.1) b):=by
 intro as
 induction as with
 |nil=>intro _ _ _ _ _ _;exact⟨trivial,trivial,fun h=>h.elim⟩
 |cons f r o=>
  intro vs x j k D c;obtain⟨v,y,e,h,i⟩:=D;subst e;have l:K0 f=true->j≠k->RL (U k) w Z B k (find (0, .none) k (Cv r x.2 (j+1))).2/\AR n (find (0, .none) k (Cv r x.2 (j+1))).2/\(live (find (0, .none) k (Cv r x.2 (j+1))).2->j<=k/\∃p,(O7 (f::r) (v::y))[k-j]? =some p/\∀b,A9 w (B k) (find (0, .none) k (Cv r x.2 (j+1))).2 b->A9 w p.2 (lcA p.1) b):=fun hm a=>by
   obtain⟨t,u,g⟩:=o (vs:=y) (x:=x.2) (j:=j+1) (k:=k) i (fun m p s=>by rw[show j+1+m=j+(m+1)from by omega];exact c (m+1) p (by simpa[O7,hm]using s));refine⟨t,u,fun d=>⟨by have:=(g d).1;omega, ?_⟩⟩;obtain⟨E,p,z,A⟩:=g d;refine⟨p, ?_,A⟩;rw[show k-j=(k-(j+1))+1 from by omega];simpa[O7,hm]using z
  cases f with
  |val f t=>exact o (x:=x.2) i c
  |fn f t=>exact o (x:=x.2) i c
  |row u s=>
   simp only[Cv,find];by_cases a:j=k
   . subst a;simp only[yB,qV];obtain⟨g,E⟩:=c 0 (.row u s,v) (by simp[O7,K0]);obtain⟨F,t,z,A⟩:=h;have g:B j=v:=g;refine⟨⟨F,by rw[g];exact t,z,fun b d=> ?_⟩,trivial,fun _=>⟨qR _,(.row u s,v),by simp[O7,K0],fun b d=>by rw[g]at d;exact d⟩⟩;rw[g]at d;exact⟨E b ((D8 t).trans d),A b d⟩
   . simp only[E3 a,rF];exact l rfl a
  |box T t=>
   simp only[Cv,find];by_cases a:j=k
   . subst a;simp only[yB,qV];obtain⟨d,E⟩:=c 0 (.box T t,v) (by simp[O7,K0]);obtain⟨b,F,g,u,z,A⟩:=h;have d:B j=v:=d;exact⟨⟨b,F,d.trans g,E b (by rw[g];rfl),u,z,S1 A⟩,E6,fun _=>⟨qR _,(.box T t,v),by simp[O7,K0],fun b s=>by rw[d]at s;exact s⟩⟩
   . simp only[E3 a,rF];exact l rfl a
  |rows u s t=>
   simp only[Cv,find];by_cases a:j=k
   . subst a;simp only[yB,qV];obtain⟨g,E⟩:=c 0 (.rows u s t,v) (by simp[O7,K0]);obtain⟨z,A⟩:=h;have g:B j=v:=g;refine⟨Az.rl (by rw[g];exact z) fun b d=> ?_,fun p F=>(by cases F),fun _=>⟨qR _,(.rows u s t,v),by simp[O7,K0],fun b d=>by rw[g]at d;exact(T5 fun _ _=>rfl).1 d⟩⟩;rw[g]at d;exact⟨E b ((T5 fun _ _=>rfl).1 d),A b d⟩
   . simp only[E3 a,rF];exact l rfl a
def Y4.len:∀ {as:List AM} {vs:List Value} {x:A5 as},Y4 P w Z as vs x->vs.length=as.length
 | [],_,_,h=>by rw[show _= _ from h];rfl
 | _:: _,_,_,⟨v,b,e,_,a⟩=>by rw[e,rE,rE,Y4.len a]
def Y5:∀ {as:List AM} {vs:List Value},vs.length=as.length->(D3 as vs).length=Ix as
 | [],vs,_=>by cases vs<;>rfl
 |a::r,[],h=>by simp at h
 | .val _ _::r,v::vs,h=>Y5 (as:=r) (by simpa using h)
 | .fn _ _ _::r,v::vs,h=>Y5 (as:=r) (by simpa using h)
 | .row _ _::r,v::vs,h=>by simp only[D3,K0,qV,rE,Ix];rw[Y5 (as:=r) (by simpa using h)]
 | .box _ _::r,v::vs,h=>by simp only[D3,K0,qV,rE,Ix];rw[Y5 (as:=r) (by simpa using h)]
 | .rows _ _ _::r,v::vs,h=>by simp only[D3,K0,qV,rE,Ix];rw[Y5 (as:=r) (by simpa using h)]
def Sc:∀(as:List AM) (vs:List Value),D3 as vs=(O7 as vs).map (·.2)
 | [],vs=>by cases vs<;>rfl
 | _:: _,[]=>rfl
 |a::r,v::vs=>by
  simp only[D3,O7];cases K0 a
  . exact Sc r vs
  . simp only[qV,rW,Sc r vs]
def Dis.get:∀ {l:List (AM×Value)} {m c b:Nat} {u a:AM×Value},Dis w l->m<c->l[m]? =some u->l[c]? =some a->A9 w u.2 (lcA u.1) b->¬A9 w a.2 (lcA a.1) b
 | [],_,_,_,_,_,_,_,h,_,_=>by simp at h
 |v::l,0,c+1,b,u,a,g,i,h,d,f=>by
  simp at h d;subst h;exact g.1 b f a (sV d)
 |v::l,m+1,c+1,b,u,a,g,i,h,d,f=>by
  simp at h d;exact Dis.get g.2 (by omega) h d f
 |v::l,_,0,_,_,_,_,d,_,_,_=>by omega
def dD (as:List AM) (vs:List Value):Nat->Value:=fun j=>((D3 as vs)[j]?).getD (.bool false)
def Zl:∀ {as:List AM} {vs:List Value} {x:A5 as},Y4 P w Z as vs x->∀u∈D3 as vs,u.oneCell'=true
 | [],vs,_,_,u,a=>by cases vs<;>cases a
 | .val _ _::r,_,_,⟨v,c,e,_,a⟩,u,b=>by subst e;exact Zl (as:=r) a u b
 | .fn _ _ _::r,_,_,⟨v,c,e,_,a⟩,u,b=>by subst e;exact Zl (as:=r) a u b
 | .row t d::r,_,_,⟨v,f,e,⟨h,g,_⟩,c⟩,u,a=>by
  subst e;simp only[D3,K0,qV,qT]at a;rcases a with rfl|a
  . rcases g.2 with⟨b,_⟩ | ⟨_,_,_,b,_⟩<;>rw[b]<;>rfl
  . exact Zl (as:=r) c u a
 | .rows t d f::r,_,_,⟨v,h,e,⟨⟨i,g,_⟩,_⟩,c⟩,u,a=>by
  subst e;simp only[D3,K0,qV,qT]at a;rcases a with rfl|a
  . rcases g.2 with⟨b,_⟩ | ⟨_,_,_,b,_⟩<;>rw[b]<;>rfl
  . exact Zl (as:=r) c u a
 | .box t d::r,_,_,⟨v,h,e,⟨c,f,g,_⟩,b⟩,u,a=>by
  subst e;simp only[D3,K0,qV,qT]at a;rcases a with rfl|a
  . rw[g];rfl
  . exact Zl (as:=r) b u a
def Gk:∀ {as:List AM} {x:A5 as} {j k:Nat},¬live (find (0, .none) k (Cv as x j)).2->(find (0, .none) k (Cv as x j)).2= .none
 | [],_,_,_,_=>rfl
 | .val _ _::r,x,j,k,h=>Gk (as:=r) (x:=x.2) (j:=j) h
 | .fn _ _ _::r,x,j,k,h=>Gk (as:=r) (x:=x.2) (j:=j) h
 | .row t b::r,x,j,k,h=>by
  simp only[Cv,find]at h⊢;cases a:Nat.beq j k with
  |true=>rw[a]at h;exact absurd trivial h
  |false=>rw[a]at h;exact Gk (as:=r) h
 | .rows t b c::r,x,j,k,h=>by
  simp only[Cv,find]at h⊢;cases a:Nat.beq j k with
  |true=>rw[a]at h;exact absurd trivial h
  |false=>rw[a]at h;exact Gk (as:=r) h
 | .box T t::r,x,j,k,h=>by
  simp only[Cv,find]at h⊢;cases a:Nat.beq j k with
  |true=>rw[a]at h;exact absurd trivial h
  |false=>rw[a]at h;exact Gk (as:=r) h
def B9e (w:World) (as:List AM) (vs:List Value):Nat->Nat->Prop:=fun k b=>∃p:AM×Value,(O7 as vs)[k]? =some p/\A9 w p.2 (lcA p.1) b
def zn0 (w:World) (Z:Nat->Prop) (as:List AM) (vs:List Value):Zn:=⟨Z,jP w as vs,Ix as,dD as vs,0,0,B9e w as vs,fun _ _ ⟨p,hp,hb⟩=>⟨p,sV hp,hb⟩,[]⟩
def B2q {as:List AM} {vs:List Value} {x:A5 as} (J:∀b,Z b->b<w.heap.size) (h:Y4 P w Z as vs x) (D:Dis w (O7 as vs)):C2 (zn0 w Z as vs) w (nN P as x) (MK vs) w Z (dD as vs):=by
 have O:=Y5 (Y4.len h);have z:∀m u,(D3 as vs)[m]? =some u->dD as vs (0+m)=u:=fun m u a=>by simp only[dD,sB,a,vQ]
 have g:∀(m:Nat) (p:AM×Value),(O7 as vs)[m]? =some p->(D3 as vs)[m]? =some p.2:=fun m p a=>by rw[Sc,vK,a];rfl
 have d:=fun k=>nO (P:=P) (w:=w) (Z:=Z) (B:=dD as vs) (n:=Ix as) (U:=fun k b=>up (zn0 w Z as vs) w k b) (j:=0) (k:=k) h (fun m p a=>⟨z m p.2 (g m p a),fun b l=> .inr ⟨by have:=MH (g m p a);simp only[sB];show m<Ix as;omega,p,by simpa using a,l⟩⟩)
 have A:=fun s=>Gj (P:=P) (w:=w) (Z:=Z) (B:=dD as vs) (E:=MK vs) (n:=Ix as) (i:=0) (j:=0) (s:=s) h (rI _) z (by omega)
 refine⟨Gi.of (P7.refl w),J,fun s=>(A s).1,fun k=>(d k).1,fun k o b Q r t=> ?_,fun s=>(A s).2,fun k=>(d k).2.1,fun k F=> ?_,fun k=> ?_,fun b l=> .inl l,⟨rfl,qR _⟩,fun _ _=>rfl,⟨rI _,fun _ _ _ _=>rI _⟩,trivial,fun M H=>(by cases H)⟩
 . obtain⟨_,p,c,v⟩:=(d k).2.2 r.live;obtain⟨_,R,f,y⟩:=(d o).2.2 t.live;simp only[g2b]at c f;rcases sC k o with I|N
   . exact D.get I c f (v b r) (y b t)
   . exact D.get (by omega:o<k) f c (y b t) (v b r)
 . by_cases G:live ((nN P as x).L k)
   . obtain⟨_,p,c,_⟩:=(d k).2.2 G;simp only[g2b]at c;have:=MH (g k p c);have F:Ix as<=k:=F;omega
   . exact Gk G
 . simp only[dD];cases a:(D3 as vs)[k]? with
   |none=>rfl
   |some u=>exact Zl h u (sV a)
def A8q {f:FuncId} {fn:Func} {c:Code} {s:B4} (a0:cx.P.funcs[f]? =some fn) (a:fn.body=some c) (a1:s.args.length<=fn.ntmps) (a3:Av fn.ntmps c=true) (Q:G2 cx.P cx.tys=true) (a9:Ra cx.P sp)
 (ac:∀x,awf s.args x->s.pre x->B7q cx sp an s fn.results.toList c x):B7 cx.P f s:=by
 intro w Z i x ad H Y a5;have v:i.length=s.args.length:=H.len;have a8:=ac x H.awf a5;generalize k:zn0 w Z s.args i=za;have M:=B2q ad H Y;rw[k]at M;refine ME a0 a (by rw[v];exact a1) a3 (fun E l=>Nx za w (fin cx s fn.results.toList x) E l) ?_ ⟨fun a4 U G=> ?_⟩
 . rintro E l A ab ⟨st,Z',B',D,h⟩;unfold fin at h;split at h
   . rename_i ss af;split at h
     . rename_i ah aa;split at h
       . rename_i z R G a2;obtain⟨g,r⟩:=B8 h;simp only[qC]at g;obtain⟨Z0,X⟩:=C2.settleR (rs:=s.res) (ss:=ss) D;obtain⟨Z1,n⟩:=C2.settleM (as:=s.args) (j:=0) X;obtain⟨B,V,W⟩:=HU Q n ab aa;have a7:(results fn A).run cx.P l= .ok (Xk B) l:=by
          have d:(fn.results.mapM (iT A)).run cx.P l= .ok B.toArray l:=by
           rw[yT];simp[V]
          have e:results fn A=(do let i<-fn.results.mapM (iT A);pure (if D:i.size=1 then i[0]else .tuple i)):=by
           unfold results;congr 1
          rw[e];simp only[Sem.run_bind,d,Result.andThen_ok,Sem.run_pure]
          match B with
          | []=>rfl
          | [u]=>rfl
          |u::ai::z=>rfl
         have O:s.post x z/\(O6 s.args=true->s.mpost x z R):=by
          unfold B9b at r;cases d:O6 s.args with
          |true=>simp only[d,qV]at r;exact⟨r.1,fun _=>r.2⟩
          |false=>simp only[d,rF]at r;exact⟨r,fun o=>by cases o⟩
         refine⟨_,a7, ?_,z,R,B,(fun b=>s.shared=true/\Z1 b),O.1,O.2,rfl,fun b a=> ?_, ?_, ?_⟩
         . have:=D.ext;rw[<-k]at this;exact this
         . rcases n.zin b a.2 with o|o
           . rw[<-k]at o;exact .inr ⟨a.1,o⟩
           . exact .inl ⟨o,n.zlt b a.2⟩
         . refine(Pf n (Zn:=fun b=>s.shared=true/\Z1 b) (fun b a=>a.2) ?_ W G (Hh g.1.1) g.1.2).1;cases I:s.shared with
           |true=>exact .inl fun b a=>⟨rfl,a⟩
           |false=>rw[I]at g;simp only[wL,qC]at g;exact .inr g.2.1
         . refine Ze (Zn:=fun b=>s.shared=true/\Z1 b) n (j:=0) ?_ (fun m u d=> ?_) (fun m p d b t=> ?_) v a2
           . cases I:s.shared with
             |true=>exact .inl fun b a=>⟨rfl,a⟩
             |false=>rw[I]at g;simp only[wL,qC]at g;exact .inr g.2.2
           . have y:=MH d;rw[Y5 v]at y;have:=n.bfix m (by rw[<-k];exact y);rw[sB,this, <-k];show dD s.args i m=u;simp only[dD,d,vQ]
           . rw[<-k,sB]at t;rcases t with⟨t,_⟩ | ⟨_,ag,N,a⟩
             . have y:=MH (show(D3 s.args i)[m]? =some p.2 by rw[Sc,vK,d];rfl);rw[Y5 v]at y;have t:Ix s.args<=m:=t;omega
             . rw[d]at N;cases N;exact a
       . exact h.elim
     . exact h.elim
   . exact h.elim
 . refine wp_mono (A1w Q a9 (by rw[<-k];rfl) M a8 a4 U G) ?_;rintro e ae l ⟨E',a6,T,Z',B',J,F⟩;refine⟨E',a6, ?_⟩;cases e with
   |normal=>exact⟨T,Z',B',J,F⟩
   |ret=>exact⟨T,Z',B',J,F⟩
   | _=>exact F.elim
def A8r {f:FuncId} {fn:Func} {c:Code} {s:B4} {a:A5 s.args->Prop} (g:cx.P.funcs[f]? =some fn) (b:fn.body=some c) (h:s.args.length<=fn.ntmps) (i:Av fn.ntmps c=true) (k:G2 cx.P cx.tys=true) (j:Ra cx.P sp)
 (d:∀x,B7q cx sp an s fn.results.toList c x=a x) (l:∀x,awf s.args x->s.pre x->a x):B7 cx.P f s:=
 A8q g b h i k j fun x n a=>by rw[d];exact l x n a
def B7r (P:Program) (tys:List (Nat×TI)) (sp:H1) (an:An) (s:B4) (fn:Func) (x:A5 s.args):Prop:=B7q ⟨P,tys⟩ sp an s fn.results.toList (fn.body.getD .skip) x
def A8s {P:Program} {tys:List (Nat×TI)} {sp:H1} {an:An} {f:FuncId} {fn:Func} {s:B4} {g:A5 s.args->Prop} (i:P.funcs[f]? =some fn) (b:fn.body.isSome=true) (j:Nat.ble s.args.length fn.ntmps=true) (k:Av fn.ntmps (fn.body.getD .skip)=true) (n:G2 P tys=true) (l:Ra P sp)
 (h:∀x,B7r P tys sp an s fn x=g x) (o:∀x,awf s.args x->s.pre x->g x):B7 P f s:=by
 cases a:fn.body with
 |none=>rw[a]at b;cases b
 |some c=>
  have d:fn.body.getD .skip=c:=by rw[a];rfl
  refine A8r (cx:=⟨P,tys⟩) (an:=an) (c:=c) i a (qP j) (by rw[<-d];exact k) n l (fun x=> ?_) o;rw[<-h x, <-d];rfl
def Zr (a:Nat):Nat->List SV->List (Nat×Nat×DV)
 | _,[]=> []
 |i,s::b=>(i,a, .one s)::Zr a (i+1) b
def dU (st:St) (ss:List SV):St:=⟨Zr (st.ct+1) 0 ss,st.lc,st.nx,st.ct+1,st.nm,st.sl::st.fr⟩
def oR (cx:Cx) (b:List ResultVar) (k:St->List SV->Prop) (st:St):Prop:=
 match st.fr with
 |f::a=>(match Xa cx st b with
  |some b=>k ⟨f,st.lc,st.nx,st.ct,st.nm,a⟩ b
  |none=>False)
 | []=>False
def KN (cx:Cx) (b:List (Nat×H1×An)) (a:List ResultVar) (c:Code) (n d:Nat) (st:St) (ss:List SV) (k:St->List SV->Prop):Prop:=
 match Ew d b with
 |some (sp,an)=>bif Nat.ble ss.length n then Lp cx sp an c ⟨oR cx a k,fun _ _=>False,oR cx a k⟩ (dU st ss)else False
 |none=>False
def aJ {g:List ResultVar} {k k':St->List SV->Prop} {ss:List SV} {a:St} (ev:C3 (dU st ss) a) (h:oR cx g k a) (n:∀a f,C3 st a->k a f->k' a f):oR cx g k' a:=by
 unfold oR at h⊢;cases c:a.fr with
 |nil=>rw[c]at h;exact h
 |cons i j=>
  rw[c]at h;simp only at h⊢;split at h
  . have e:=ev.f;rw[c]at e;have e:N6 (st.ct+1) st.sl i/\Y3 (st.ct+1) st.fr j:=e;refine n _ _ ⟨qX (uT _) ev.ct,fun s d b=> ?_,fun q d b=>ev.l q d (xL b),e.2.le (uT _)⟩ h;exact N6.find s e.1 (xL b)
  . exact h
def A7z (f:List (Nat×H1×An)) (j:List ResultVar) (c:Code) (n:Nat) {st:St} {d:Nat} {ss:List SV} {k k':St->List SV->Prop} (h:KN cx f j c n d st ss k) (g:∀a i,C3 st a->k a i->k' a i):KN cx f j c n d st ss k':=by
 unfold KN at h⊢;split at h
 . obtain⟨l,h⟩:=B8 h;simp only[l,qV];refine LN h fun e a ev b=> ?_
   cases e with
   |normal=>exact aJ ev b g
   |ret=>exact aJ ev b g
   | _=>exact b
 . exact h
def BM (cx:Cx) (a:List (Nat×H1×An)) (b:List ResultVar) (c:Code) (n:Nat):Inl:= {run:=KN cx a b c n,step:=A7z a b c n}
def HY {c s:Nat} :∀ {ss:List SV} {i:Nat},(find (0, .dead) s (Zr c i ss)).2=if i<=s then(match ss[s-i]? with|some v=> .one v|none=> .dead)else .dead
 | [],i=>by simp[Zr,find]
 |v::ss,i=>by
  simp only[Zr,find];cases b:Nat.beq i s with
  |true=>
   have:=qD b;subst this;simp
  |false=>
   have d:i≠s:=vD b;simp only[rF,HY (ss:=ss) (i:=i+1)];by_cases a:i+1<=s
   . rw[qK a,qK (by omega),show s-i=(s-(i+1))+1 from by omega,uN]
   . rw[qH a,qH (by omega)]
def Ob.len {w:World} {Z:Nat->Prop} {B:Nat->Value} :∀ {ss:List SV} {vs:List Value},Ob w Z B ss vs->vs.length=ss.length
 | [],_,h=>by rw[show _= _ from h];rfl
 | _:: _,_,⟨v,b,e,_,a⟩=>by rw[e,rE,rE,Ob.len a]
def LJ (h:C2 za w0 st E w Z B):∀ {f:List ResultVar} {ss:List SV},Xa cx st f=some ss->∀s∈ss,Ka st.nx s
 | [],_,a=>by cases a;intro s a;cases a
 | .tmp t::r,ss,a=>by
  simp only[Xa]at a;split at a
  . rename_i g d;simp only[qJ]at a;obtain⟨i,c,rfl⟩:=a;intro s b;rcases qT.1 b with rfl|b
    . have:=h.refs t;rw[d]at this;exact this
    . exact LJ h c s b
  . cases a
 | .cell g t::r,ss,a=>by
  simp only[Xa,qG,bind_some]at a;obtain⟨ti,_,a⟩:=a;split at a
  . rename_i k _;split at a
    . rename_i T i c;obtain⟨_,a⟩:=D7 a;simp only[qJ]at a;obtain⟨j,d,rfl⟩:=a;intro s b;rcases qT.1 b with rfl|b
      . have:=h.refl k;rw[c]at this;exact this
      . exact LJ h d s b
    . cases a
  . cases a
def pY (P:Program) (a:List (Nat×H1×An)):Prop:=∀x∈a,Ra P x.2.1
def YY {α:Type} {d:Nat} {x:α} :∀ {l:List (Nat×α)},Ew d l=some x->(d,x)∈l
 | [],h=>by cases h
 | (t,y)::l,h=>by
  simp only[Ew]at h;cases a:Nat.beq t d with
  |true=>
   rw[a]at h;have:=qD a;subst this;cases h;simp
  |false=>rw[a]at h;exact qL _ (YY h)
def Rw {f:FuncId} {fn:Func} {c:Code} {r:List (Nat×H1×An)} (X:cx.P.funcs[f]? =some fn) (V:fn.body=some c) (a5:Av fn.ntmps c=true) (I:G2 cx.P cx.tys=true) (l:pY cx.P r):fB cx.P f (BM cx r fn.results.toList c fn.ntmps):=by
 refine {go:= ?_};intro za w0 st E w Z B N i k J W h G a9 d;have d:KN cx r fn.results.toList c fn.ntmps N st i J:=d;unfold KN at d;split at d
 . rename_i sp an a1;have l:=l _ (YY a1);simp only at l;obtain⟨x,d⟩:=B8 d;have x:=qP x;have a3:=G.len;have A:∀s,(dU st i).S s=match i[s]? with|some v=> .one v|none=> .dead:=fun s=>by
    show(find (0, .dead) s (Zr (st.ct+1) 0 i)).2= _;rw[HY,qK (rI _)];rfl
   have U:C2 {za with es:=E::za.es} w0 (dU st i) (MK k) w Z B:=by
    refine⟨h.ext,h.zlt,fun s=> ?_,h.locs,h.disj,fun s=> ?_,h.refl,h.fresh,h.bone,h.zin,h.nms,h.bfix,h.mrk,⟨h.slots,h.frs⟩,fun H o s=> ?_⟩
    . rw[A];cases z:i[s]? with
      |none=>trivial
      |some v=>
       obtain⟨u,O,Q⟩:=G.get z;show RS w Z B v (MK k s);simp only[MK,O,vQ];exact Q
    . rw[A];cases z:i[s]? with
      |none=>trivial
      |some v=>exact a9 v (sV z)
    . rcases qT.1 o with rfl|o
      . exact h.refs s
      . exact h.frf H o s
   refine ME X V (by rw[a3];exact x) a5 (fun E' j=>Nx {za with es:=E::za.es} w0 (oR cx fn.results.toList J) E' j) ?_ ⟨fun a6 M a7=> ?_⟩
   . rintro E' j n ab ⟨g,Z',B',a,b⟩;unfold oR at b;have F:=a.frs;have t:=a.frf;cases D:g.fr with
     |nil=>rw[D]at b;exact b.elim
     |cons z O=>
      rw[D]at b F t;simp only at b;obtain⟨Y,a0⟩:=F;split at b
      . rename_i ac H;obtain⟨o,R,T⟩:=HU I a ab H;have aa:(results fn n).run cx.P j= .ok (Xk o) j:=by
         have a4:(fn.results.mapM (iT n)).run cx.P j= .ok o.toArray j:=by
          rw[yT];simp[R]
         have e:results fn n=(do let k<-fn.results.mapM (iT n);pure (if h:k.size=1 then k[0]else .tuple k)):=by
          unfold results;congr 1
         rw[e];simp only[Sem.run_bind,a4,Result.andThen_ok,Sem.run_pure]
         match o with
         | []=>rfl
         | [u]=>rfl
         |u::af::ae=>rfl
        exact⟨_,aa,⟨z,g.lc,g.nx,g.ct,g.nm,O⟩,Z',B',ac,o,⟨a.ext,a.zlt,Y,a.locs,a.disj,fun s=>t z (by simp) s,a.refl,a.fresh,a.bone,a.zin,a.nms,a.bfix,a.mrk,a0,fun Q a2 s=>t Q (by simp[a2]) s⟩,rfl,T,LJ a H,b⟩
      . exact b.elim
   . refine wp_mono (A1w I l (by exact W) U d a6 M a7) ?_;rintro e ad j ⟨E',a8,g,Z',B',a,y⟩;refine⟨E',a8, ?_⟩;cases e with
     |normal=>exact⟨g,Z',B',a,y⟩
     |ret=>exact⟨g,Z',B',a,y⟩
     | _=>exact y.elim
 . exact d.elim
def Ez (run:Inl):B4:= {args:= [],res:= [],pre:=fun _=>False,post:=fun _ _=>True,inl:=some run}
end
end Go.Vc
namespace Go.Proofs.YtljgpjhcieidbaaGreat
open Go.IntKind (i64 u64 u32)
def nv:List Int->Nat
 | []=>0
 |a::l=>a.toNat+4294967296*nv l
def nc (n:Nat):List Int:=if h:n=0 then []else((n%4294967296:Nat):Int)::nc (n/4294967296)
termination_by n
decreasing_by omega
def cZ (x:Int):Prop:=0<=x/\x<=4294967295
def A7 (l:List Int):Prop:=∀x∈l,cZ x
def O3:nc 0= []:=by rw[nc];rfl
def KY {n:Nat} (h:n≠0):nc n=((n%4294967296:Nat):Int)::nc (n/4294967296):=by rw[nc];simp[h]
def F3 (n:Nat):nv (nc n)=n:=by
 induction n using Nat.strongRecOn with
 | _ n a=>
  by_cases h:n=0
  . subst h;rw[O3];rfl
  . rw[KY h];simp only[nv,a (n/4294967296) (by omega)];omega
def J3 (n:Nat):A7 (nc n):=by
 induction n using Nat.strongRecOn with
 | _ n b=>
  by_cases h:n=0
  . subst h;rw[O3];intro x a;cases a
  . rw[KY h];intro x a;rcases qT.1 a with rfl|a
    . unfold cZ;omega
    . exact b (n/4294967296) (by omega) x a
def Wl {n:Nat} :nc n= []↔n=0:=by
 constructor
 . intro h;by_cases a:n=0
   . exact a
   . rw[KY a]at h;cases h
 . rintro rfl;exact O3
def A1j (a:Int) (m:Nat) (b:cZ a) (h:a≠0\/m≠0):nc (a.toNat+4294967296*m)=a::nc m:=by
 unfold cZ at b;rw[KY (by omega)];congr 1
 . omega
 . congr 1;omega
def Ow (a b:List Int):nv (a++b)=nv a+4294967296^a.length*nv b:=by
 induction a with
 |nil=>simp[nv]
 |cons x a c=>
  simp only[xU,nv,c,rE,sA];rw[sX, <-uF, <-sO,sP 4294967296 (4294967296^a.length)]
def Ox (n:Nat):nv (List.replicate n 0)=0:=by
 induction n with
 |zero=>rfl
 |succ n a=>simp[List.replicate_succ,nv,a]
def SL {a:Int} {l:List Int} :A7 (a::l)↔cZ a/\A7 l:=by simp[A7]
def Fb {l:List Int} (h:A7 l):nv l<4294967296^l.length:=by
 induction l with
 |nil=>simp[nv]
 |cons b l a=>
  rw[SL]at h;have:=a h.2;have a:=h.1;unfold cZ at a;simp only[nv,rE,sA];omega
def B9p {l:List Int} (h:A7 l) (c:∀x,l.getLast? =some x->x≠0):nc (nv l)=l:=by
 induction l with
 |nil=>exact O3
 |cons b l a=>
  rw[SL]at h;simp only[nv];cases l with
  |nil=>
   have:=c b rfl;rw[A1j b _ h.1 (.inl this)];simp only[nv,O3]
  |cons d l=>
   have a:=a h.2 (fun x hx=>c x (by rw[List.getLast?_cons_cons];exact hx));have g:nv (d::l)≠0:=by
    intro f;rw[f,O3]at a;cases a
   rw[A1j b _ h.1 (.inr g),a]
def A1k {l:List Int} (h:A7 l) {n:Nat} (f:n<=l.length) (k:∀i x,n<=i->l[i]? =some x->x=0) (d:n=0\/∃x,l[n-1]? =some x/\x≠0):l.take n=nc (nv l):=by
 have e:nv l=nv (l.take n):=by
  conv=>lhs;rw[<-uK n l]
  rw[Ow];have:l.drop n=List.replicate (l.length-n) 0:=by
   apply xK;intro i;rw[xB];by_cases c:n+i<l.length
   . rw[qN c,uO,qK (by omega)];rw[k (n+i) l[n+i] (by omega) (qN c)]
   . rw[rT (by omega),rT (by simp;omega)]
  rw[this,Ox];simp
 rw[e]
 symm
 apply B9p
 . intro x a;exact h x (sD a)
 . intro x a;rw[List.getLast?_eq_getElem?,qY,sZ f]at a;rcases d with b| ⟨y,g,j⟩
   . subst b;simp at a
   . rw[rY (by
      rcases vC n with b|b
      . subst b;simp at a
      . omega),g]at a
     cases a;exact j
def Ea {n k:Nat} (h:n<4294967296^k):(nc n).length<=k:=by
 induction k generalizing n with
 |zero=>have:n=0:=by simpa using h
        subst this;rw[O3];exact qR _
 |succ k b=>
  by_cases a:n=0
  . subst a;rw[O3];exact rI _
  . rw[KY a,rE];have:n/4294967296<4294967296^k:=by
     rw[tS (by decide)];rw[sA]at h;exact h
    have:=b this;omega
def C9 {l:List Int} (h:A7 l):(nc (nv l)).length<=l.length:=Ea (Fb h)
def A9a {n k:Nat} (h:k<(nc n).length):4294967296^k<=n:=by
 rcases sC n (4294967296^k)with a|a
 . have:=Ea a;omega
 . exact a
def I9 {m n:Nat} (h:m<=n):(nc m).length<=(nc n).length:=by
 apply Ea;have:=Fb (J3 n);rw[F3]at this;omega
def Gl (n:Nat):n<4294967296^(nc n).length:=by
 have:=Fb (J3 n);rwa[F3]at this
def Ni (m n:Nat):(nc (m*n)).length<=(nc m).length+(nc n).length:=by
 apply Ea;rw[uU];have a:=Gl m;have b:=Gl n;exact Nat.mul_lt_mul'' a b
def KX (m n:Nat):(nc (m+n)).length<=max (nc m).length (nc n).length+1:=by
 apply Ea;have a:=Gl m;have a:=Gl n;have a:4294967296^(nc m).length<=4294967296^(max (nc m).length (nc n).length):=rZ (by decide) (Nat.le_max_left ..);have a:4294967296^(nc n).length<=4294967296^(max (nc m).length (nc n).length):=rZ (by decide) (g4o ..);rw[sA];omega
abbrev Iq:=Bool×List Int
abbrev C7:=Iq×List Int
def Bm (a b:Nat):Int:=if a<b then -1 else if b<a then 1 else 0
def N9 (a b:Int):Int:=if a<b then -1 else if b<a then 1 else 0
def iv (x:Iq):Int:=if x.1=true then -(nv x.2:Int)else(nv x.2:Int)
def ic (v:Int):Iq:=(decide (v<0),nc v.natAbs)
def B7p (x:C7):Int:=if nv x.2=0 then 0 else(iv x.1).sign
def rv (x:C7):Rat:=mkRat (iv x.1) (nv x.2)
def rc (q:Rat):C7:=(ic q.num,nc q.den)
def J0 (x:C7):Prop:=nv x.1.2<2147483648/\nv x.2<2147483648
instance (x:C7):Decidable (J0 x):=by unfold J0;infer_instance
def Ov (x:C7):Int:=if nv x.2=0 then 0 else iv x.1
def Li (x:C7):Int:=if nv x.2=0 then 1 else(nv x.2:Int)
def zi:Iq:=(false,[])
def zr:C7:=((false,[]),[])
def ri (k:Int):C7:=(ic k,[1])
abbrev Fx (l:List Int):Prop:=l.length<=35184372088832
abbrev E1 (l:List Int):Prop:=l.length<=17592186044416
abbrev T3 (l:List Int):Prop:=l.length<=8796093022208
def E7 (x:C7):Prop:=x.1.2.length<=2199023255552/\x.2.length<=2199023255552
def Bi (a b:Iq):Rat:=Rat.divInt (iv a) (iv b)
def J8 (n:Nat):Nat:=if n=0 then 0 else Nat.log2 n+1
def B6y (A B u0 u1 v0 v1:Int) (ev:Bool):Prop:=v0=0\/∃A' B':Int,A'=(if ev then u0*A-v0*B else v0*B-u0*A)/\B'=(if ev then v1*B-u1*A else u1*A-v1*B)/\0<=B'/\B'<=A'/\A=v1*A'+v0*B'/\B=u1*A'+u0*B'/\1<=v0/\1<=v1/\0<=u0/\0<=u1
def Kt (l:List Int):Prop:=l.getD (l.length-1) 0≠0
end Go.Proofs.YtljgpjhcieidbaaGreat
namespace Go.Proofs.YtljgpjhcieidbaaGreat
open Go.Vc Go.Gw
open Go.IntKind (i64 u64 u32)
def L6 (a b:Bool):K4 a true b=(a||b):=by cases a<;>rfl
def H8 (a b:Bool):K4 a b false=(a&&b):=by cases a<;>rfl
def wr {a:Int} (b: -9223372036854775808<=a) (c:a<=9223372036854775807):i64.wrap a=a:=IntWalk.i64_in _ ⟨b,c⟩
def wv {a:Int} (h: -9223372036854775808<=a/\a<=9223372036854775807):i64.wrap a=a:=wr h.1 h.2
def I7 {α:Type} {d:α} {l:List α} {i:Int} (a:0<=i) (b:i<(l.length:Int)):gx d l i∈l:=sV (H2 a b)
def S9 {α:Type} {d:α} {l:List α} {i:Int} (a:0<=i) (b:i<(l.length:Int)):gx d l i=l.getD i.toNat d:=by
 have:=H2 (d:=d) a b;rw[qE,this];rfl
def Lt {α:Type} {d:α} {l:List α} {q:α->Prop} {i:Int} (b:0<=i) (c:i<(l.length:Int)) (f:∀x∈l.take i.toNat,q x) (g:q (gx d l i)):∀x∈l.take (i+1).toNat,q x:=by
 intro x a;rw[show(i+1).toNat=i.toNat+1 from by omega,rR,H2 (d:=d) b c]at a;simp at a;rcases a with a|rfl
 . exact f x a
 . exact g
def G9 {α:Type} {l:List α} {i:Int} (h:(l.length:Int)<=i):l.take i.toNat=l:=qQ (by omega)
def PV:u32.max=4294967295:=by decide
def PW:u32.min=0:=by decide
def Zx:u64.max=18446744073709551615:=by decide
def eJ:u64.min=0:=by decide
def Zh:i64.max=9223372036854775807:=by decide
def Ru:i64.min= -9223372036854775808:=by decide
def A3 {l:List Int} (h:∀x∈l,u32.min<=x/\x<=u32.max):A7 l:=fun x a=>by
 have:=h x a;rw[PW,PV]at this;exact this
def V4 {a:Int} (b:0<=a) (c:a<=18446744073709551615):u64.wrap a=a:=IntWalk.u64_in _ ⟨b,c⟩
def w32 {a:Int} (b:0<=a) (c:a<=4294967295):u32.wrap a=a:=IntWalk.u32_in _ ⟨b,c⟩
def Be (a:Int):u32.wrap a=a%4294967296:=IntKind.wrap_u32 a
def Bf (a:Int):u64.wrap a=a%18446744073709551616:=IntKind.wrap_u64 a
def Sa {l:List Int} (h:A7 l) {i:Int} (a:0<=i) (b:i<(l.length:Int)):0<=gx 0 l i/\gx 0 l i<=4294967295:=h _ (I7 a b)
def MR {v:Int} (a:0<=v) (b:v<18446744073709551616):(BitVec.ofInt 64 v).toNat=v.toNat:=by
 rw[xZ];congr 1;omega
def TZ {v b:Int} {k:Nat} (v0:0<=v) (v1:v<2^k) (b0:0<=b) (c:b*2^k<18446744073709551616) (d:v<18446744073709551616):(((BitVec.ofInt 64 v|||BitVec.ofInt 64 (b*2^k)).toNat:Nat):Int)=v+b*2^k:=by
 have a:0<=b*2^k:=tL b0 (Int.pow_nonneg (by decide));rw[BitVec.toNat_or,MR v0 d,MR a c];have e:(b*2^k).toNat=b.toNat<<<k:=by
  rw[g4p,g3o b0 (Int.pow_nonneg (by decide)),Int.toNat_pow_of_nonneg (by decide)];rfl
 have c:v.toNat<2^k:=by
  have:(v.toNat:Int)<((2^k:Nat):Int):=by rw[uE v0,xI];exact v1
  exact uB.1 this
 rw[e,Nat.or_comm, <-g0d c, <-e,wB,uE v0,uE a,Int.add_comm]
def HD {l:List Int} {i:Int} (a:0<=i) (b:i<(l.length:Int)):nv (l.take (i+1).toNat)=nv (l.take i.toNat)+4294967296^i.toNat*(gx 0 l i).toNat:=by
 rw[show(i+1).toNat=i.toNat+1 from by omega,rR,H2 (d:=(0:Int)) a b,zP,Ow,qY,sZ (by omega)];simp[nv]
def T7 {l:List Int} {i:Int} (a:0<=i) (b:i<(l.length:Int)):l.drop i.toNat=gx 0 l i::l.drop (i+1).toNat:=by
 have h:=H2 (d:=(0:Int)) a b;have a:i.toNat<l.length:=by omega
 rw[qN a]at h;rw[xH a,show(i+1).toNat=i.toNat+1 from by omega];congr 1;exact yF h
def dI {a b:List Int} (f:A7 a) (_:A7 b) (r:a.length=b.length) {i:Int} (c:0<=i) (d:i<(a.length:Int)) (j:a.drop (i+1).toNat=b.drop (i+1).toNat) (t:gx 0 a i<gx 0 b i):nv a<nv b:=by
 have k:nv a=nv (a.take i.toNat)+4294967296^i.toNat*nv (a.drop i.toNat):=by
  conv=>lhs;rw[<-uK i.toNat a,Ow,qY,sZ (by omega)]
 have n:nv b=nv (b.take i.toNat)+4294967296^i.toNat*nv (b.drop i.toNat):=by
  conv=>lhs;rw[<-uK i.toNat b,Ow,qY,sZ (by omega)]
 have s:=Sa f c d;have g:nv (a.drop i.toNat)+1<=nv (b.drop i.toNat):=by
  rw[T7 c d,T7 c (by omega),j];simp only[nv];omega
 have o:nv (a.take i.toNat)<4294967296^i.toNat:=by
  have:=Fb (l:=a.take i.toNat) fun x hx=>f x (sD hx)
  rwa[qY,sZ (by omega)]at this
 have h:=rU (4294967296^i.toNat) g;rw[sX,wZ]at h;omega
def Zm {m n:Nat} (h:(nc m).length<(nc n).length):m<n:=by
 rcases sC m n with a|a
 . exact a
 . have:=I9 a;omega
def Sd:nc 1= [1]:=by rw[KY (by decide)];simp[O3]
def B7f:nv [1]=1:=rfl
def dH:nv []=0:=rfl
def ZW (n:Nat):Bm n n=0:=by simp[Bm]
def Lx {m n:Nat} (h:m<n):Bm m n= -1:=by simp[Bm,h]
def PP {m n:Nat} (h:n<m):Bm m n=1:=by
 unfold Bm;rw[qH (by omega),qK h]
def TD {m n:Nat} :Bm m n=0↔m=n:=by
 unfold Bm;split
 . omega
 . split<;>omega
def J4 (v:Int):iv (ic v)=v:=by
 unfold iv ic;simp only[rS,F3];split<;>omega
def A7s {neg:Bool} {m:Nat} :ic (iv (neg,nc m))=(neg&&decide (m≠0),nc m):=by
 unfold ic iv;simp only[F3];cases neg
 . simp
 . simp only[xO,wA,Prod.mk.injEq,wK];constructor
   . omega
   . congr 1;omega
def B9g {x:Iq} :ic (iv x)=(x.1&&decide (nv x.2≠0),nc (nv x.2)):=by
 have:iv x=iv (x.1,nc (nv x.2)):=by unfold iv;simp only[F3]
 rw[this,A7s]
def B7n (k:Int):nv (ri k).2=1:=rfl
def dV (k:Int):rc (k:Rat)=ri k:=by
 unfold rc ri;rw[g2l,g2k,Sd]
def kN (k:Int):rv (ri k)=(k:Rat):=by
 unfold rv;rw[B7n];show mkRat (iv (ic k)) 1= _;rw[J4];exact Rat.mkRat_one k
def L9 (q:Rat):rv (rc q)=q:=by
 unfold rv rc;simp only[J4,F3];exact g1a q
def B3t (x:C7):B7p x=(rv x).num.sign:=by
 unfold B7p rv;split
 . rename_i h;rw[h,yQ];rfl
 . rename_i h;rw[Rat.num_mkRat,qH h];have b:(0:Int)<(((nv x.2).gcd (iv x.1).natAbs:Nat):Int):=by
    have:=g1q (iv x.1).natAbs (sW h);omega
   have c:(((nv x.2).gcd (iv x.1).natAbs:Nat):Int)∣iv x.1:=yA.2 (yO ..);obtain⟨d,a⟩:=c;generalize (((nv x.2).gcd (iv x.1).natAbs:Nat):Int)=g at b a;rw[a,xP _ (by omega),g4c,uR b,Int.one_mul]
def Lw {x:Int} {d:Nat} (a:d≠0):(mkRat x d).num=x/((d.gcd x.natAbs:Nat):Int)/\(mkRat x d).den=d/d.gcd x.natAbs:=by
 rw[Rat.num_mkRat,Rat.den_mkRat,qH a,qH a];exact⟨rfl,rfl⟩
def dg (l:List Int) (i:Nat):Nat:=(l.getD i 0).toNat
def I0 (l:List Int) (i:Nat):nv (l.take (i+1))=nv (l.take i)+4294967296^i*dg l i:=by
 unfold dg;by_cases h:i<l.length
 . have:=HD (l:=l) (i:=(i:Int)) (by omega) (by omega);rw[show((i:Int)+1).toNat=i+1 from by omega,qU]at this;rw[this,S9 (by omega) (by omega),qU]
 . rw[qQ (by omega),qQ (by omega),qE,rT (by omega)];simp
def L8 {l:List Int} (h:A7 l) (i:Nat):dg l i<=4294967295:=by
 unfold dg;by_cases a:i<l.length
 . rw[qE,qN a];have:=h l[i] (vN a);unfold cZ at this;simp only[vQ];omega
 . rw[qE,rT (by omega)];simp
def Ei {l:List Int} (h:A7 l) {i:Int} (a:0<=i) (b:i<(l.length:Int)):gx 0 l i=(dg l i.toNat:Int):=by
 have:=Sa h a b;unfold dg;rw[<-S9 (d:=(0:Int)) a b];omega
def V9 {l:List Int} (h:A7 l) {i:Nat} :l.getD i 0=(dg l i:Int):=by
 unfold dg;by_cases a:i<l.length
 . have:=h l[i] (vN a);unfold cZ at this;rw[qE,qN a];simp only[vQ];omega
 . rw[qE,rT (by omega)];rfl
def Nb {l:List Int} {i:Nat} (h:l.length<=i):dg l i=0:=by
 unfold dg;rw[qE,rT h];rfl
def R6 {l:List Int} {i:Nat} {v:Int} (h:i<l.length):nv ((l.set i v).take (i+1))=nv (l.take i)+4294967296^i*v.toNat:=by
 rw[I0,yX (qR _)];unfold dg;rw[qE,sG h];rfl
def Ia:∀ {l:List Int} {k:Nat} {v:Int},k<l.length->nv (l.set k v)+4294967296^k*dg l k=nv l+4294967296^k*v.toNat
 | [],_,_,h=>by simp at h
 |a::l,0,v,_=>by simp[nv,dg];omega
 |a::l,k+1,v,h=>by
  have d:=Ia (l:=l) (k:=k) (v:=v) (by simpa using h);have e:dg (a::l) (k+1)=dg l k:=by simp[dg]
  rw[e];simp only[g3v,nv,sA];generalize nv (l.set k v)=A at*;have b:4294967296^k*4294967296*dg l k=4294967296*(4294967296^k*dg l k):=by rw[sP (4294967296^k) 4294967296,sO]
  have c:4294967296^k*4294967296*v.toNat=4294967296*(4294967296^k*v.toNat):=by rw[sP (4294967296^k) 4294967296,sO]
  rw[b,c,uF,uF, <-sX, <-sX,d]
def ZO {l:List Int} {k:Nat} {v:Int} (h:A7 l) (b:cZ v):A7 (l.set k v):=fun x a=>by
 rcases List.mem_or_eq_of_mem_set a with a|a
 . exact h x a
 . rw[a];exact b
def Wb {l:List Int} {k i:Nat} {v:Int} (a:k<l.length):dg (l.set k v) i=if i=k then v.toNat else dg l i:=by
 unfold dg;rw[qE,yM];by_cases h:k=i
 . subst h;rw[qK rfl,qK a,qK rfl];rfl
 . rw[qH h,qH (fun e=>h e.symm),qE]
def GR (n i:Nat):dg (List.replicate n 0) i=0:=by
 unfold dg;rw[qE,uO];split<;>rfl
def MQ {l:List Int} {i:Nat} (h:∀j,i<=j->dg l j=0):nv (l.take i)=nv l:=by
 have b:∀k,nv (l.take (i+k))=nv (l.take i):=by
  intro k
  induction k with
  |zero=>rfl
  |succ k a=>rw[<-uF,I0,a,h (i+k) (by omega),wM,sS]
 rw[<-b l.length,qQ (by omega)]
def aA {P A B o c a b s d:Nat} (h:o+P*c=A+B) (f:s+4294967296*d=c+a+b):(o+P*s)+(P*4294967296)*d=(A+P*a)+(B+P*b):=by
 have:=tF (P* ·) f;simp only[sX, <-sO]at this;omega
def TE {P A B o c a b s d:Nat} (h:A+P*c=o+B) (f:a+4294967296*d=s+b+c):(A+P*a)+(P*4294967296)*d=(o+P*s)+(B+P*b):=by
 have:=tF (P* ·) f;simp only[sX, <-sO]at this;omega
def A3x {a b:List Int} (c:A7 a) (d:A7 b):nv a+nv b<4294967296^(max a.length b.length+1):=by
 have f:=Fb c;have h:=Fb d;have g:4294967296^a.length<=4294967296^(max a.length b.length):=rZ (by decide) (Nat.le_max_left ..);have i:4294967296^b.length<=4294967296^(max a.length b.length):=rZ (by decide) (g4o ..);rw[sA];generalize 4294967296^(max a.length b.length)=P at*;omega
def DI {P c x:Nat} (h:P*c<=x) (a:x<P):c=0:=by
 rcases vC c with a|a
 . exact a
 . have:=rU P a;omega
def Hy (l:List Int):iv (false,l)=(nv l:Int):=rfl
def SJ (l:List Int):iv (true,l)= -(nv l:Int):=rfl
def A8e (b:Bool) (l:List Int):iv (!b,l)= -iv (b,l):=by
 cases b
 . rfl
 . show(nv l:Int)= - -(nv l:Int);omega
def W1 (v:Int):(ic v).2.length=(nc v.natAbs).length:=rfl
def nK:ic 1=(false,[1]):=by unfold ic;rw[show(1:Int).natAbs=1 from rfl,Sd];rfl
def cM:ic 0=(false,[]):=by unfold ic;rw[show(0:Int).natAbs=0 from rfl,O3];rfl
def A1q:rc 0=((false,[]),[1]):=by
 unfold rc;rw[Rat.zero_num,Rat.zero_den,cM,Sd]
def gN {a:Iq} {b:Iq} (h:iv b=1):Bi a b=((iv a:Int):Rat):=by
 unfold Bi;rw[h];have:=g0a (iv a) 1;rw[show((1:Nat):Int)=1 from rfl]at this;rw[this];exact Rat.mkRat_one _
def A3a {a:Iq} {b:Iq} (h:iv b=0):Bi a b=0:=by
 unfold Bi;rw[h,Rat.divInt_zero]
def B3u (x:C7):Bi x.1 (false,x.2)=rv x:=by
 unfold Bi rv;rw[Hy,g0a]
end Go.Proofs.YtljgpjhcieidbaaGreat
namespace Go.Proofs.YtljgpjhcieidbaaGreat
open Go.IntKind (i64 u64 u32)
structure WM (U V v1 v2 t u2 P:Nat):Prop where
 pos:0<P
 v1p:0<v1
 v1b:v1<4294967296
 v2b:v2<4294967296
 u2b:u2<4294967296
 vlo:(v1*4294967296+v2)*P<=V
 vhi:V<(v1*4294967296+v2+1)*P
 ulo:(t*4294967296+u2)*P<=U
 uhi:U<(t*4294967296+u2+1)*P
 lt:U<V*4294967296
variable {U V v1 v2 t u2 P:Nat}
def WM.vpos (h:WM U V v1 v2 t u2 P):0<V:=by
 have a:=h.vlo;have a:0<(v1*4294967296+v2)*P:=g3d (by have:=h.v1p;omega) h.pos;omega
def WM.quo (h:WM U V v1 v2 t u2 P):U/V<4294967296:=by
 rw[tS h.vpos,sP];exact h.lt
def A1b {a b c P Q:Nat} (f:0<P) (h:a*P<=Q) (g:Q<(b+1)*P) (d:c<=a):c<=b:=by
 have f:c*P<=a*P:=rK _ d;have d:c*P<(b+1)*P:=by omega
 have:=xC d;omega
def WM.top (h:WM U V v1 v2 t u2 P):t*4294967296+u2<(v1*4294967296+v2+1)*4294967296:=by
 have a:=h.ulo;have a:=h.lt;have a:=rK 4294967296 (vP h.vhi);have a:(t*4294967296+u2)*P<((v1*4294967296+v2+1)*4294967296)*P:=by
  have b:V*4294967296<(v1*4294967296+v2+1)*P*4294967296:=wY h.vhi (by decide);rw[zO];omega
 exact xC a
def WM.t_le (h:WM U V v1 v2 t u2 P):t<=v1*4294967296+v2:=by
 have:=h.top;omega
def WM.est (h:WM U V v1 v2 t u2 P):U/V*v1<=t:=by
 have a:U/V*V<=U:=yY U V;have b:U/V*(v1*4294967296+v2)*P<=U:=by
  rw[sO];exact qX (rU _ h.vlo) a
 have a:U/V*(v1*4294967296+v2)<=t*4294967296+u2:=A1b h.pos b h.uhi (qR _);rw[sX, <-sO]at a;have:=h.u2b;omega
def WM.dec (h:WM U V v1 v2 t u2 P) {d r:Nat} (f:t=d*v1+r) (a:U/V<=d) (b:4294967296<=d\/r*4294967296+u2<d*v2):U/V+1<=d:=by
 rcases sC (U/V) d with a|a
 . omega
 . exfalso;have c:U/V=d:=by omega
   rcases b with b|b
   . have:=h.quo;omega
   . have a:d*V<=U:=by rw[<-c];exact yY U V
     have b:d*(v1*4294967296+v2)*P<=U:=by
      rw[sO];exact qX (rU _ h.vlo) a
     have a:d*(v1*4294967296+v2)<=t*4294967296+u2:=A1b h.pos b h.uhi (qR _);rw[sX, <-sO,f,uZ]at a;omega
def WM.near (h:WM U V v1 v2 t u2 P) {d r:Nat} (c:t=d*v1+r) (g:d<4294967296) (a:d*v2<=r*4294967296+u2):d<=U/V+1:=by
 have a:=h.ulo;have b:d*(v1*4294967296+v2)<=t*4294967296+u2:=by
  rw[c,uZ,sX, <-sO];omega
 have c:d*(v1*4294967296+v2)*P<=U:=qX (rK _ b) a;have a:d*V<=d*((v1*4294967296+v2+1)*P):=rU _ (vP h.vhi);have b:d*((v1*4294967296+v2+1)*P)=d*(v1*4294967296+v2)*P+d*P:=by
  rw[<-sO,sX d,wZ,uZ]
 have f:d*P<V:=by
  have i:d*P<4294967296*P:=wY g h.pos;have g:4294967296*P<=(v1*4294967296+v2)*P:=rK _ (by have:=h.v1p;omega);have:=h.vlo;omega
 have g:d*V<U+V:=yC (qX a (Nat.le_of_eq b)) (Nat.add_lt_add_of_le_of_lt c f);rcases vC d with a|a
 . rw[a];exact rI _
 . have a:(d-1)*V<U:=by
    have:d*V=(d-1)*V+V:=by
     conv=>lhs;rw[show d=d-1+1 from by omega,uZ,xY]
    omega
   have:=(vJ h.vpos).2 (vP a);omega
def WM.out (h:WM U V v1 v2 t u2 P) {d r:Nat} (c:t=d*v1+r) (b:4294967296<=r) (a:U/V<=d):d<4294967296/\d*v2<=r*4294967296+u2:=by
 have a:=h.t_le;have a:=h.v2b;have b:d<4294967296:=by
  rcases sC d 4294967296 with a|a
  . exact a
  . have:=rK v1 a;rw[sP 4294967296]at this;omega
 refine⟨b, ?_⟩;have a:d*v2<=4294967295*4294967295:=uX (by omega) (by omega);omega
end Go.Proofs.YtljgpjhcieidbaaGreat
namespace Go.Proofs.YtljgpjhcieidbaaGreat
open Go.Vc Go.Gw
open Go.IntKind (i64 u64 u32)
def Yw:J8 0=0:=rfl
def bP (n:Nat):n<2^J8 n:=by
 unfold J8;split
 . rename_i h;subst h;decide
 . exact Nat.lt_log2_self
def Yv {n:Nat} (h:n≠0):2^(J8 n-1)<=n/\1<=J8 n:=by
 unfold J8;rw[qH h,Nat.add_sub_cancel];exact⟨Nat.log2_self_le h,by omega⟩
def B1s {n k:Nat} (a:2^k<=n) (b:n<2^(k+1)):J8 n=k+1:=by
 have c:0<2^k:=tP (by decide);unfold J8;rw[qH (by omega)];congr 1;exact(Nat.log2_eq_iff (by omega)).2 ⟨a,b⟩
def GL {n k:Nat} (h:2^k<=n):J8 n=J8 (n/2^k)+k:=by
 have a:0<2^k:=tP (by decide);have c:n/2^k≠0:=by
  have:1<=n/2^k:=(vJ a).2 (by omega);omega
 obtain⟨b,d⟩:=Yv c;have c:=bP (n/2^k);have e:J8 (n/2^k)+k=(J8 (n/2^k)-1+k)+1:=by omega
 rw[e];apply B1s
 . rw[uU];have:=(vJ a).1 b;exact this
 . rw[show J8 (n/2^k)-1+k+1=J8 (n/2^k)+k from by omega,uU];exact(tS a).1 c
def QZ (p q:Rat):Int:=if p<q then -1 else if q<p then 1 else 0
def RA {a b:Int} {c d:Nat} (f:c≠0) (g:d≠0):QZ (mkRat a c) (mkRat b d)=N9 (a*d) (b*c):=by
 have h:∀ {a b:Int} {c d:Nat},c≠0->d≠0->(mkRat a c<mkRat b d↔a*d<b*c):=fun {a b c d} f g=>by
  have i:(0:Rat)<(c:Rat):=Rat.natCast_pos.2 (sW f);have j:(0:Rat)<(d:Rat):=Rat.natCast_pos.2 (sW g);rw[yS,yS,Rat.div_lt_iff i,tI,tK,yD _ (c:Rat), <-tK, <-tI,Rat.lt_div_iff j];have:(a:Rat)*(d:Rat)=((a*(d:Int):Int):Rat):=by rw[g0g];rfl
  have i:(b:Rat)*(c:Rat)=((b*(c:Int):Int):Rat):=by rw[g0g];rfl
  rw[this,i,Rat.intCast_lt_intCast]
 unfold QZ N9;simp only[h f g,h g f]
def A2q {p q:Rat} (h:p.num.sign≠q.num.sign):QZ p q=N9 p.num.sign q.num.sign:=by
 have l:=g3g p;have n:=g3g q;have e:QZ p q=N9 (p.num*q.den) (q.num*p.den):=by
  have:=RA (a:=p.num) (b:=q.num) p.den_nz q.den_nz;rwa[g1a,g1a]at this
 rw[e];have j:(p.num*(q.den:Int)).sign=p.num.sign:=by rw[g4c,uR (show(0:Int)<q.den by omega),Int.mul_one]
 have k:(q.num*(p.den:Int)).sign=q.num.sign:=by rw[g4c,uR (show(0:Int)<p.den by omega),Int.mul_one]
 rw[<-j, <-k]at h⊢;generalize p.num*(q.den:Int)=x at*;generalize q.num*(p.den:Int)=y at*;have i:∀z:Int,(z<0/\z.sign= -1)\/(z=0/\z.sign=0)\/(0<z/\z.sign=1):=fun z=>by
  rcases g1e z 0 with h|h|h
  . exact .inl ⟨h,xA h⟩
  . exact .inr (.inl ⟨h,by rw[h];rfl⟩)
  . exact .inr (.inr ⟨h,uR h⟩)
 unfold N9;rcases i x with⟨f,c⟩ | ⟨f,c⟩ | ⟨f,c⟩<;>rcases i y with⟨g,d⟩ | ⟨g,d⟩ | ⟨g,d⟩<;>rw[c,d]at h⊢ <;>first|exact absurd rfl h| (split<;>(try split)<;>(try split)<;>(try split)<;>omega)
end Go.Proofs.YtljgpjhcieidbaaGreat
namespace Go.Proofs.YtljgpjhcieidbaaGreat
open Go.IntKind (i64 u64 u32)
structure Leh (X Y w x y u0 u1 u2 v0 v1 v2:Int) (ev:Bool):Prop where
 yx:y<=x
 y0:0<=y
 x0:0<x
 u10:0<=u1
 u20:0<=u2
 v10:0<=v1
 v20:1<=v2
 uv2:u2<=v2
 ex:x=if ev then v1*Y-u1*X else u1*X-v1*Y
 ey:y=if ev then u2*X-v2*Y else v2*Y-u2*X
 idX:x*v2+y*v1=X
 idY:x*u2+y*u1=Y
 det:u1*v2-u2*v1=if ev then -1 else 1
 /--At the start,or with what the cofactors before need. -/
 back:(u0=0/\u1=1/\v0=0/\v1=0/\ev=false/\u2=0/\v2=1)\/(0<=u0/\0<=v0/\u1<=v1/\v1<=x/\u0<=w/\v0<=w/\w-x>=v0+v1/\(v0=0\/u0<=v0)/\1<=v1/\
  w=(if ev then u0*X-v0*Y else v0*Y-u0*X)/\(u0*v1-u1*v0=if ev then 1 else -1))
def Leh.start {X Y:Int} (b:0<=Y) (h:Y<=X) (a:0<X):Leh X Y 0 X Y 0 1 0 0 0 1 false where
 yx:=h
 y0:=b
 x0:=a
 u10:=by decide
 u20:=by decide
 v10:=by decide
 v20:=by decide
 uv2:=by decide
 ex:=by simp
 ey:=by simp
 idX:=by omega
 idY:=by omega
 det:=by simp
 back:= .inl ⟨rfl,rfl,rfl,rfl,rfl,rfl,rfl⟩
def Leh.step {X Y w x y u0 u1 a v0 v1 v2:Int} {ev:Bool} (h:Leh X Y w x y u0 u1 a v0 v1 v2 ev) (c1:v2<=y) (G:v1+v2<=x-y):Leh X Y x y (x%y) u1 a (u1+x/y*a) v1 v2 (v1+x/y*v2) (!ev):=by
 have E:=h.v20;have j:0<y:=by omega
 have z:1<=x/y:=by
  rw[g1y j];have:=h.yx;omega
 have B:=g2e x (b:=y) (by omega);have D:=zJ x j;have H:x=y*(x/y)+x%y:=(yH x y).symm;have i:x%y=x-x/y*y:=by rw[g1z (x/y)];omega
 have u:=h.idX;have v:=h.idY;have k:=h.det;have d:=h.ex;have f:=h.ey;have n:=h.u20;have l:=h.u10;have F:=h.v10;have o:=h.uv2;generalize x/y=q at*;have A:0<=q*a:=tL (by omega) n;have J:1*v2<=q*v2:=sJ z (by omega);have I:q*a<=q*v2:=tY o (by omega);refine⟨wW D,B,j,n,Int.add_nonneg l A,by omega,by omega, ?_, ?_, ?_, ?_, ?_, ?_, .inr ⟨l,F,o,c1, ?_,by omega,by omega, ?_,E, ?_, ?_⟩⟩
 . rcases h.back with⟨_,c,_,g,_,r,s⟩ | ⟨_,_,c,_⟩
   . subst r s;omega
   . omega
 . cases ev<;>simpa using f
 . rw[i];cases ev
   . simp only[g0s,wA,vW,yR]at d f⊢;rw[d,f];grind
   . simp only[zB,wA,vW,yR]at d f⊢;rw[d,f];grind
 . rw[i, <-u];grind
 . rw[i, <-v];grind
 . have t:a*(v1+q*v2)-(u1+q*a)*v2= -(u1*v2-a*v1):=by
    grind
   rw[t,k];cases ev<;>simp
 . rcases h.back with⟨_,c,_,g,_⟩ | ⟨_,_,c,_⟩<;>omega
 . rcases h.back with⟨_,c,_,g,_⟩ | ⟨_,_,c,_⟩
   . exact .inl g
   . exact .inr c
 . cases ev<;>simpa using d
 . rw[k];cases ev<;>simp
def Leh.apply {X Y w x y u0 u1 D v0 v1 v2:Int} {ev:Bool} (h:Leh X Y w x y u0 u1 D v0 v1 v2 ev) (l:v0≠0) {P α a A B:Int} (I:0<P) (j:0<=α) (J:α<P) (k:0<=a) (M:a<P) (d:A=X*P+α) (f:B=Y*P+a):
 ∃A' B':Int,A'=(if ev then u0*A-v0*B else v0*B-u0*A)/\B'=(if ev then v1*B-u1*A else u1*A-v1*B)/\0<=B'/\B'<=A'/\A=v1*A'+v0*B'/\B=u1*A'+u0*B'/\1<=v0/\1<=v1/\0<=u0/\0<=u1:=by
 rcases h.back with⟨_,_,o,_⟩ | ⟨n,G,E,R,O,Q,H,z,F,c,det⟩
 . exact absurd o l
 have N:u0<=v0:=z.resolve_left l;have i:=h.u10;refine⟨_,_,rfl,rfl, ?_, ?_, ?_, ?_,by omega,F,n,i⟩
 . --the second combination is not negative
   have b:=h.ex;have g:0<=(x-v1)*P:=tL (by omega) (by omega);have r:0<=u1*α:=tL i j;have s:v1*a<=v1*P:=tY (by omega) (by omega);have t:0<=v1*a:=tL (by omega) k;have u:u1*α<=u1*P:=tY (by omega) i;have v:u1*P<=v1*P:=sJ E (by omega);rw[Int.sub_mul]at g;cases ev
   . simp only[vW,yR]at b⊢;have:u1*A-v1*B=x*P+u1*α-v1*a:=by
      rw[d,f,b];grind
     omega
   . simp only[wA]at b⊢;have:v1*B-u1*A=x*P+v1*a-u1*α:=by
      rw[d,f,b];grind
     omega
 . have b:=h.ex;have g:0<=(w-x-(v0+v1))*P:=tL (by omega) (by omega);have r:0<=(u0+u1)*α:=tL (by omega) j;have s:(v0+v1)*a<=(v0+v1)*P:=tY (by omega) (by omega);have t:0<=(v0+v1)*a:=tL (by omega) k;have u:(u0+u1)*α<=(u0+u1)*P:=tY (by omega) (by omega);have v:(u0+u1)*P<=(v0+v1)*P:=sJ (by omega) (by omega);rw[Int.sub_mul]at g;cases ev
   . simp only[vW,yR]at b c⊢;have:v0*B-u0*A-(u1*A-v1*B)=(w-x)*P+(v0+v1)*a-(u0+u1)*α:=by
      rw[d,f,b,c];grind
     omega
   . simp only[wA]at b c⊢;have:u0*A-v0*B-(v1*B-u1*A)=(w-x)*P+(u0+u1)*α-(v0+v1)*a:=by
      rw[d,f,b,c];grind
     omega
 . cases ev
   . simp only[vW,yR]at det⊢;have:v1*(v0*B-u0*A)+v0*(u1*A-v1*B)= -(u0*v1-u1*v0)*A:=by
      grind
     rw[this,det];omega
   . simp only[wA]at det⊢;have:v1*(u0*A-v0*B)+v0*(v1*B-u1*A)=(u0*v1-u1*v0)*A:=by
      grind
     rw[this,det];omega
 . cases ev
   . simp only[vW,yR]at det⊢;have:u1*(v0*B-u0*A)+u0*(u1*A-v1*B)= -(u0*v1-u1*v0)*B:=by
      grind
     rw[this,det];omega
   . simp only[wA]at det⊢;have:u1*(u0*A-v0*B)+u0*(v1*B-u1*A)=(u0*v1-u1*v0)*B:=by
      grind
     rw[this,det];omega
def A7m {A B A' B' u0 u1 v0 v1 s t p q:Int} (a:A=v1*A'+v0*B') (b:B=u1*A'+u0*B') (c:A'=s*A+t*B) (d:B'=p*A+q*B):Int.gcd A B=Int.gcd A' B':=by
 apply Nat.dvd_antisymm
 . apply Int.dvd_gcd
   . rw[c];exact g2u (uV (zY ..)) (uV (zQ ..))
   . rw[d];exact g2u (uV (zY ..)) (uV (zQ ..))
 . apply Int.dvd_gcd
   . rw[a];exact g2u (uV (zY ..)) (uV (zQ ..))
   . rw[b];exact g2u (uV (zY ..)) (uV (zQ ..))
end Go.Proofs.YtljgpjhcieidbaaGreat
namespace Go.Proofs.YtljgpjhcieidbaaGreat
open Go.Vc Go.Gw
open Go.IntKind (i64 u64 u32)
def Zu {s:Nat} (a:s<=32):4294967296=2^s*2^(32-s):=by
 rw[<-uU,show s+(32-s)=32 from by omega]
def Jj (n:Nat):4294967296^n=2^(32*n):=by
 rw[show(4294967296:Nat)=2^32 from rfl, <-g1g]
def B4s {a low lo H P s:Nat} (b:0<P) (f:a=low+lo*P+H*(P*4294967296)) (g:low<P) (c:s<=31):a*2^s/(P*4294967296)=H*2^s+lo/2^(32-s):=by
 have c:0<P*4294967296:=g3d b (by decide);have d:0<2^s:=tP (by decide);have e:a*2^s=(low+lo*P)*2^s+H*2^s*(P*4294967296):=by
  rw[f,uZ,zO H]
 rw[e,yJ _ _ c,vV];congr 1;have c:P*4294967296=P*2^(32-s)*2^s:=by rw[sO,sP (2^(32-s)), <-Zu (by omega)]
 rw[c,zX _ _ d, <-vO,yJ _ _ b,uG g,sB]
def A4n {a s m:Nat} (h:s<=m):a*2^s/2^m=a/2^(m-s):=by
 have b:0<2^s:=tP (by decide)
 conv=>lhs;rw[show m=m-s+s from by omega,uU,zX _ _ b]
def dG (l:List Int) (i:Nat) (h:i<=l.length):nv l=nv (l.take i)+4294967296^i*nv (l.drop i):=by
 conv=>lhs;rw[<-uK i l,Ow,qY,sZ h]
def S2 {l:List Int} (h:A7 l) (i:Nat):nv (l.take i)<4294967296^i:=by
 have a:=Fb (l:=l.take i) fun x hx=>h x (sD hx)
 refine rC a (rZ (by decide) ?_);rw[qY];exact g2h ..
def Sg (l:List Int) {n:Nat} (h:l.length<=n+1):nv l=nv (l.take n)+4294967296^n*dg l n:=by
 conv=>lhs;rw[<-qQ h,I0]
def A1m (l:List Int) {n:Nat} (h:l.length<=n+2):nv l=nv (l.take n)+4294967296^n*(dg l (n+1)*4294967296+dg l n):=by
 rw[Sg l (n:=n+1) h,I0,sA,sX,sP (dg l (n+1)), <-sO];omega
def A1n (l:List Int) {n:Nat} (h:l.length<=n+3):nv l=nv (l.take n)+4294967296^n*((dg l (n+2)*4294967296+dg l (n+1))*4294967296+dg l n):=by
 rw[A1m l (n:=n+1) h,I0,sA];generalize 4294967296^n=P;grind
def A1c {a:List Int} (b:A7 a) {n:Nat} (c:a.length=n+1) {s:Nat} (d:s+J8 (dg a n)<=32):nv a*2^s<4294967296^(n+1):=by
 have c:=Sg a (n:=n) (by omega);have c:=S2 b n;have b:=bP (dg a n);have c:nv a<4294967296^n*2^J8 (dg a n):=by
  have:4294967296^n*(dg a n+1)<=4294967296^n*2^J8 (dg a n):=rU _ b;rw[sX,wZ]at this;omega
 have b:nv a*2^s<4294967296^n*2^J8 (dg a n)*2^s:=wY c (tP (by decide));rw[sO, <-uU]at b;have c:2^(J8 (dg a n)+s)<=2^32:=rZ (by decide) (by omega);have d:=rU (4294967296^n) c;rw[sA];exact rC b d
def ZV {n:Nat} (h:n≠0):Kt (nc n):=by
 have a:(nc n).length≠0:=fun a=>h (Wl.1 (qO a))
 unfold Kt;intro a;have b:=J3 n;have e:=Sg (nc n) (n:=(nc n).length-1) (by omega);have c:dg (nc n) ((nc n).length-1)=0:=by unfold dg;rw[a];rfl
 rw[c,wM,sS,F3]at e;have a:=S2 b ((nc n).length-1);rw[<-e]at a;have:=Ea a;omega
def LR {l:List Int} (a:A7 l) (h:Kt l):dg l (l.length-1)≠0:=by
 unfold Kt at h;have:=V9 a (i:=l.length-1);rw[this]at h;omega
def UW {l:List Int} (b:A7 l) (h:Kt l):nv l≠0:=by
 have a:=LR b h;have b:l.length≠0:=fun e=>by
  rw[qO e]at a;simp[dg]at a
 have e:=Sg l (n:=l.length-1) (by omega);have b:0<4294967296^(l.length-1):=tP (by decide);have b:=rU (4294967296^(l.length-1)) (sW a);omega
def A1e {V low P x:Nat} (h:V=low+P*x) (a:low<P):x*P<=V/\V<(x+1)*P:=by
 rw[uZ,xY,sP x,h];omega
def B6f {w v:List Int} (c:A7 w) (a:A7 v) {n:Nat} (b:v.length=n+2) (d:w.length=n+3) (h:dg v (n+1)≠0) (g:nv w<nv v*4294967296):WM (nv w) (nv v) (dg v (n+1)) (dg v n) (dg w (n+2)*4294967296+dg w (n+1)) (dg w n) (4294967296^n):=by
 have ev:=A1m v (n:=n) (by omega);have b:=A1n w (n:=n) (by omega);have d:=S2 a n;have f:=S2 c n;have i:=L8 a (n+1);have i:=L8 a n;have a:=L8 c n;exact⟨tP (by decide),sW h,by omega,by omega,by omega,(A1e ev d).1,(A1e ev d).2,(A1e b f).1,(A1e b f).2,g⟩
def A6q {l:List Int} (h:A7 l) (i:Nat):dg l i=nv l/4294967296^i%4294967296:=by
 have d:0<4294967296^i:=tP (by decide);by_cases a:i<l.length
 . have e:=dG l (i+1) (by omega);rw[I0]at e;have a:=S2 h i;have c:=L8 h i;have b:nv l=nv (l.take i)+(dg l i+4294967296*nv (l.drop (i+1)))*4294967296^i:=by
    rw[e,sA];generalize 4294967296^i=P;grind
   rw[b,yJ _ _ d,uG a,sB,yV,tU (by omega)]
 . rw[Nb (by omega)];have a:=Fb h;have c:4294967296^l.length<=4294967296^i:=rZ (by decide) (by omega);rw[uG (by omega)]
def B1r {l:List Int} (h:A7 l) (i:Nat):dg l (i/32)/2^(i%32)%2=nv l/2^i%2:=by
 rw[A6q h,Jj];have e:i=32*(i/32)+i%32:=by omega
 have a:(4294967296:Nat)=2^(i%32)*2^(32-i%32):=Zu (by omega)
 conv=>rhs;rw[e,uU, <-vO]
 generalize nv l/2^(32*(i/32))=x;rw[a,Nat.mod_mul_right_div_self];have a:2^(32-i%32)=2*2^(31-i%32):=by rw[<-Nat.pow_succ'];congr 1;omega
 rw[a,Nat.mod_mul_right_mod]
def A5z {a b i:Nat} (j:b≠0):a/2^i=2*(a/2^(i+1))+a/2^i%2/\
 a/2^i/b=2*(a/2^(i+1)/b)+(if b<=2*(a/2^(i+1)%b)+a/2^i%2 then 1 else 0)/\
 a/2^i%b=2*(a/2^(i+1)%b)+a/2^i%2-(if b<=2*(a/2^(i+1)%b)+a/2^i%2 then b else 0):=by
 have k:a/2^(i+1)=a/2^i/2:=by rw[sA,vO]
 have f:a/2^i=2*(a/2^(i+1))+a/2^i%2:=by rw[k];omega
 refine⟨f, ?_⟩;have s:a/2^i%2<2:=vZ _ (by decide);generalize a/2^i%2=d at*;generalize a/2^(i+1)=h at*;rw[f];have n:=wT h b;have t:=vZ h (sW j);generalize h%b=r at*;generalize h/b=q at*;have l:2*h+d=b*(2*q)+(2*r+d):=by rw[<-n];grind
 rw[l,g2i (sW j),g2j];by_cases c:b<=2*r+d
 . rw[qK c,qK c];have o:2*r+d=b+(2*r+d-b):=by omega
   have g:(2*r+d)/b=1:=Nat.div_eq_of_lt_le (by omega) (by omega);refine⟨by rw[g], ?_⟩;have:=wT (2*r+d) b;rw[g]at this;omega
 . rw[qH c,qH c,uG (by omega),tU (by omega)];exact⟨rfl,by omega⟩
def B3y {q:List Int} (a:A7 q) {M i:Nat} (d:nv q=M*2^(i+1)) (f:i/32<q.length):∃b:Nat,dg q (i/32)=b*2^(i%32+1)/\nv (q.set (i/32) ((dg q (i/32)+2^(i%32):Nat):Int))=(2*M+1)*2^i:=by
 have e:i=32*(i/32)+i%32:=by omega
 have c:dg q (i/32)=(M*2^(i%32+1))%4294967296:=by
  rw[A6q a,d,Jj];congr 1;have a:i+1=32*(i/32)+(i%32+1):=by omega
  rw[a,uU,zW,xX _ (tP (by decide))]
 refine⟨M%2^(31-i%32), ?_, ?_⟩
 . rw[c];have a:(4294967296:Nat)=2^(31-i%32)*2^(i%32+1):=by
    rw[<-uU,show 31-i%32+(i%32+1)=32 from by omega]
   conv=>lhs;rw[a]
   rw[Nat.mul_mod_mul_right]
 . have c:=Ia (l:=q) (k:=i/32) (v:=((dg q (i/32)+2^(i%32):Nat):Int)) f;rw[qU,d,Jj,sX]at c;have a:2^(32*(i/32))*2^(i%32)=2^i:=by rw[<-uU, <-e]
   rw[a]at c;have a:(2*M+1)*2^i=M*2^(i+1)+2^i:=by rw[sA];grind
   rw[a];omega
def KE {l:List Int} (h:A7 l) (i:Nat):dg l i=nv l/4294967296^i%4294967296:=by
 have d:0<4294967296^i:=tP (by decide);have a:=L8 h i;have f:=S2 h i;rcases sC i l.length with a|a
 . have b:=dG l (i+1) a;rw[I0,sA]at b;have c:nv l=nv (l.take i)+(dg l i+nv (l.drop (i+1))*4294967296)*4294967296^i:=by rw[b];grind
   rw[c,yJ _ _ d,uG f,sB,Nat.add_mul_mod_self_right,tU (by omega)]
 . rw[Nb a];have b:=Fb h;have b:4294967296^l.length<=4294967296^i:=rZ (by decide) a;rw[uG (by omega)]
def A4o {l:List Int} (h:A7 l) (i:Nat) {s:Nat} (a:s<=31):nv l/2^s/4294967296^i%4294967296=(dg l i+dg l (i+1)*4294967296)/2^s%4294967296:=by
 have d:0<2^s:=tP (by decide);have a:nv l/2^s/4294967296^i=nv l/4294967296^i/2^s:=by rw[vO,vO,sP]
 have b:dg l i+dg l (i+1)*4294967296=nv l/4294967296^i%(4294967296*4294967296):=by
  rw[Nat.mod_mul, <-KE h i,vO, <-sA, <-KE h (i+1),sP]
 rw[a,b];generalize nv l/4294967296^i=W;have c:W=W%(4294967296*4294967296)+2^s*(4294967296*(2^(32-s)*(W/(4294967296*4294967296)))):=by
  have a:=Nat.mod_add_div W (4294967296*4294967296);have b:=Zu (s:=s) (by omega)
  conv=>lhs;rw[<-a]
  congr 1
  calc 4294967296*4294967296*(W/(4294967296*4294967296))=4294967296*(4294967296*(W/(4294967296*4294967296))):=sO ..
   _=(2^s*2^(32-s))*(4294967296*(W/(4294967296*4294967296))):=by rw[<-b]
   _= _:=by rw[sO,zW (2^(32-s))]
 conv=>lhs;rw[c,g3a _ _ d,yV]
def aT {l:List Int} (h:A7 l) {k s:Nat} :nv l/2^(32*k+s)=nv (l.drop k)/2^s:=by
 rw[uU, <-Jj, <-vO];congr 1;have b:0<4294967296^k:=tP (by decide);rcases sC l.length k with a|a
 . rw[sF (by omega)];have c:=Fb h;have c:4294967296^l.length<=4294967296^k:=rZ (by decide) (by omega);rw[uG (by omega)];rfl
 . have e:=dG l k a;have a:=S2 h k;rw[e,g3a _ _ b,uG a,sB]
def I8 (x:Iq):(iv x).natAbs=nv x.2:=by
 unfold iv;split<;>omega
def DW {a b:List Int} (c:A7 a) (d:A7 b):(nc (nv a*nv b)).length<=a.length+b.length:=by
 have f:=Ni (nv a) (nv b);have f:=C9 c;have c:=C9 d;omega
def DK {x y:Iq} (a:A7 x.2) (b:A7 y.2):(ic (iv x*iv y)).2.length<=x.2.length+y.2.length:=by
 rw[W1,vF,I8,I8];exact DW a b
def SE {x y:Iq} {k:Nat} (a:A7 x.2) (b:A7 y.2) (c:x.2.length<=k) (d:y.2.length<=k):(ic (iv x+iv y)).2.length<=k+1:=by
 rw[W1];have e:(iv x+iv y).natAbs<=nv x.2+nv y.2:=by
  have:=zR (iv x) (iv y);rwa[I8,I8]at this
 have h:=KX (nv x.2) (nv y.2);have c:=C9 a;have a:=C9 b;have c:=I9 e;omega
def iX (v:Int):A7 (ic v).2:=J3 _
def dW {V:Int} {D:Nat} (f:D≠0):rc (mkRat V D)=((decide (V<0),nc (V.natAbs/Nat.gcd V.natAbs D)),nc (D/Nat.gcd V.natAbs D)):=by
 obtain⟨j,i⟩:=Lw (x:=V) (d:=D) f;unfold rc;rw[j,i,wX V.natAbs D];unfold ic;have g:((D.gcd V.natAbs:Nat):Int)∣V:=yA.2 (yO ..);have b:0<D.gcd V.natAbs:=g1q _ (sW f);generalize D.gcd V.natAbs=G at g b;obtain⟨c,rfl⟩:=g;rw[xP _ (by omega)];have k:(G:Int)*c<0↔c<0:=by
  constructor
  . intro h;rcases g4b c 0 with a|a
    . exact a
    . have:=tL (wW (uB.2 b)) a;omega
  . intro h;exact yU (by omega) h
 rw[vF,uI,xX _ b];simp only[k]
def B3p {V:Int} {D:Nat} (a:D≠0) (h:Nat.gcd V.natAbs D=1):rc (mkRat V D)=(ic V,nc D):=by
 rw[dW a,h,g3b,g3b];rfl
def KS {a b:Int} {c d:Nat} (f:c≠0) (g:d≠0):mkRat a c+mkRat b d=mkRat (a*d+b*c) (c*d):=Rat.mkRat_add_mkRat a b f g
def nX {a b:Int} {c:Nat} (d:c≠0):mkRat a c+mkRat b c=mkRat (a+b) c:=by
 rw[KS d d, <-Int.add_mul,Rat.mkRat_mul_right d]
def Jy {x:C7} {n:Iq} {d:List Int} (h:(nv x.2=0->n=zi/\d= [1])/\(nv x.2≠0->n=x.1/\d=x.2)):nv d≠0/\rv x=mkRat (iv n) (nv d):=by
 rcases g3z (nv x.2=0)with a|a
 . obtain⟨rfl,rfl⟩:=h.1 a;refine⟨by decide, ?_⟩;unfold rv;rw[a,yQ];exact(Rat.zero_mkRat _).symm
 . obtain⟨rfl,rfl⟩:=h.2 a;exact⟨a,rfl⟩
def Gq {x:C7} {n:Iq} {d:List Int} {k:Nat} (h:(nv x.2=0->n=zi/\d= [1])/\(nv x.2≠0->n=x.1/\d=x.2)) (b:x.1.2.length<=k) (c:x.2.length<=k) (f:1<=k):n.2.length<=k/\d.length<=k:=by
 rcases g3z (nv x.2=0)with a|a
 . obtain⟨rfl,rfl⟩:=h.1 a;exact⟨by simp[zi],by simpa using f⟩
 . obtain⟨rfl,rfl⟩:=h.2 a;exact⟨b,c⟩
end Go.Proofs.YtljgpjhcieidbaaGreat
