/- Part. -/
import Derived.Test.YtljgpjhcieidbaaGreatKDC
set_option linter.all false
namespace Go.Vc
open Go Go.RowKit Go.Gw
open Go.IntKind (i64 u64 u32)
def C4.trans {a b c:St} (h:C4 a b) (k:C4 b c):C4 a c:=by
 refine⟨qX h.ct k.ct,fun s d g=> ?_,fun q d g=> ?_, ?_⟩
 . have e:=k.s s d (qX g h.ct);rw[e]at d g⊢;exact h.s s d g
 . have e:=k.l q d (qX g h.ct);rw[e]at d g⊢;exact h.l q d g
 . exact h.f.trans h.ct k.f
def C4.setS (b:St) (d:Nat) (x:DV):C4 b (b.setS d x):=by
 refine⟨uU _,fun s c a=> ?_,fun _ _ _=>rfl,Y2.refl _ _⟩;rw[St.eS_setS]at c a⊢;split at a
 . simp only at a;omega
 . rename_i g;rw[qH g];cases f:BY d (b.S s)with
   |true=>simp only[f,qV]at a;omega
   |false=>rfl
def C4.setL (b:St) (k:Nat) (x:LC):C4 b (b.setL k x):=by
 refine⟨uU _,fun _ _ _=>rfl,fun q c a=> ?_,Y2.refl _ _⟩;rw[St.eL_setL]at c a⊢;split at a
 . simp only at a;omega
 . rename_i d;rw[qH d]
def C4.newL (b:St) (x:LC):C4 b (b.newL x):=by
 refine⟨uU _,fun _ _ _=>rfl,fun q c a=> ?_,Y2.refl _ _⟩;rw[St.eL_newL]at c a⊢;split at a
 . simp only at a;omega
 . rename_i d;rw[qH d]
def N9.mapV (n:Nat) (p:DV->Bool) (f:DV->DV):∀l,N9 n l (Vc.mapV p f (n+1) l)
 | []=>trivial
 | (s,x)::l=>by
  refine⟨rfl,fun h=> ?_,N9.mapV n p f l⟩;cases a:p x.2 with
  |true=>simp only[a,qV]at h;omega
  |false=>rfl
def Y2.mapV (n:Nat) (p:DV->Bool) (f:DV->DV):∀l,Y2 n l (l.map (Vc.mapV p f (n+1)))
 | []=>trivial
 |x::l=>⟨N9.mapV n p f x,Y2.mapV n p f l⟩
def C4.freeze (b:St) (k:Nat) (c:C):C4 b (b.freeze k c):=by
 refine⟨uU _,fun s f a=> ?_,fun q f a=> ?_,Y2.mapV _ _ _ _⟩
 . rw[St.eS_freeze]at f a⊢;cases d:Wx k (b.S s)with
   |true=>simp only[d,qV]at a;omega
   |false=>rfl
 . rw[St.eL_freeze]at f a⊢;cases d:ZU k (if q=k then(b.ct+1,LC.none)else b.eL q).2 with
   |true=>simp only[d,qV]at a;omega
   |false=>
    simp only[d,rF]at a⊢;split at a
    . simp only at a;omega
    . rename_i g;rw[qH g]
def C4.settle (a:St) (cs:List C):C4 a (settle a cs):=by
 induction cs generalizing a with
 |nil=>exact C4.refl _
 |cons c cs b=>
  cases c with
  |row k=>
   simp only[Vc.settle];cases g:a.L k with
   |row t e l=>
    cases Nat.ble a.nm k with
    |true=>exact(C4.freeze a k _).trans (b _)
    |false=>exact b a
   |rows t e f h al d=>
    cases d with
    |some _=>exact b a
    |none=>
     cases Nat.ble a.nm k with
     |true=>exact(C4.freeze a k _).trans (b _)
     |false=>exact b a
   | _=>exact b a
  |win k _ _ _=>
   simp only[Vc.settle];cases d:a.L k with
   |row t e l=>
    cases Nat.ble a.nm k with
    |true=>exact(C4.freeze a k _).trans (b _)
    |false=>exact b a
   | _=>exact b a
  |mp k=>
   simp only[Vc.settle];cases d:a.L k with
   |map _ _ _ _ _=>
    cases Nat.ble a.nm k with
    |true=>exact(C4.freeze a k _).trans (b _)
    |false=>exact b a
   | _=>exact b a
  | _=>exact b a
def C4.settleO (a:St) (x:Operand):C4 a (settleO a x):=by
 unfold Vc.settleO;split
 . exact C4.settle _ _
 . exact C4.refl _
def C4.settleP (a:St) (b:List (Nat×Operand)):C4 a (settleP a b):=by
 induction b generalizing a with
 |nil=>exact C4.refl _
 |cons x b c=>exact(C4.settleO a x.2).trans (c _)
def C4.thawS (a:St) (s:SV):C4 a (thawS a s):=by
 unfold Vc.thawS;split
 . unfold thaw;split
   . cases Nat.ble a.nm _ with
     |true=>exact(C4.setL a _ _).trans (C4.setL _ _ _)
     |false=>exact C4.refl a
   . exact C4.refl a
 . exact C4.refl a
def C4.stillB (cx:Cx) (a:St) (k:Nat):C4 a (stillB cx a k):=by
 unfold Vc.stillB;split
 . rename_i T b _;cases Nat.ble a.nm k with
   |false=>exact C4.refl _
   |true=>
    simp only[qV];split
    . split
      . split
        . exact((C4.settle a b).trans (C4.setL _ _ _)).trans (C4.setL _ _ _)
        . exact C4.refl _
      . exact C4.refl _
    . exact C4.refl _
 . exact C4.refl _
def C4.stillL (cx:Cx):∀(b:List Nat) (a:St),C4 a (b.foldl (Vc.stillB cx) a)
 | [],a=>C4.refl a
 |k::b,a=>(C4.stillB cx a k).trans (C4.stillL cx b _)
def C4.stillF (cx:Cx):∀(a:St) (as:List AM) (ss:List SV),C4 a (stillF cx a as ss)
 |a,[],_=>C4.refl a
 |a,_:: _,[]=>C4.refl a
 |a,b::as,s::ss=>by
  simp only[Vc.stillF];split
  . exact(C4.stillL cx _ a).trans (C4.stillF cx _ as ss)
  . exact C4.stillF cx a as ss
def C4.settleA:∀(as:List AM) (ss:List SV) (a:St),C4 a (settleA a as ss)
 | [],_,a=>C4.refl a
 | .val _ _::as,s::ss,a=>(C4.settle a s.cs).trans (C4.settleA as ss _)
 | .row _ _::as,s::ss,a=>(C4.thawS a s).trans (C4.settleA as ss _)
 | .rows _ _ _::as,_::ss,a=>C4.settleA as ss a
 | .rows _ _ _:: _,[],a=>C4.refl a
 | .box _ _::as,_::ss,a=>C4.settleA as ss a
 | .fn _ _ _::as,_::ss,a=>C4.settleA as ss a
 | .val _ _:: _,[],a=>C4.refl a
 | .row _ _:: _,[],a=>C4.refl a
 | .box _ _:: _,[],a=>C4.refl a
 | .fn _ _ _:: _,[],a=>C4.refl a
def C4.dropM:∀(b:List Nat) (a:St),C4 a (dropM a b)
 | [],a=>C4.refl a
 |k::b,a=>(C4.setL a k _).trans (C4.dropM b _)
def C4.addM:∀(as:List AM) (o:Lu as) (b:List Nat) (a:St),C4 a (addM as o b a)
 | [],_,b,a=>by cases b<;>exact C4.refl a
 | .row t e::as,o,[],a=>C4.refl a
 | .box t e::as,o,[],a=>C4.refl a
 | .row t e::as,o,k::b,a=>(C4.setL a k _).trans (C4.addM as o.2 b _)
 | .box t e::as,o,k::b,a=>(C4.setL a k _).trans (C4.addM as o.2 b _)
 | .val _ _::as,o,b,a=>C4.addM as o b a
 | .fn _ _ _::as,o,b,a=>C4.addM as o b a
 | .rows _ _ _::as,o,[],a=>C4.refl a
 | .rows _ _ _::as,o,k::b,a=>(C4.setL a k _).trans (C4.addM as o.2 b _)
def C4.place:∀(rs:List RT) (r:Ae rs) (a:St),C4 a (F6 rs r a).2
 | [],_,a=>C4.refl a
 | .val _ _::rs,r,a=>C4.place rs r.2 a
 | .own t e::rs,r,a=>(C4.newL a (.row t e r.1)).trans (C4.place rs r.2 _)
 | .obox T t::rs,r,a=>(C4.newL a (.box T (explode t r.1))).trans (C4.place rs r.2 _)
 | .rows t e b::rs,r,a=>(C4.newL a (.rows t e b r.1 [] none)).trans (C4.place rs r.2 _)
def C4.boxS (a:St) (d:Tmp) (T:TypeId) (cs:List C):C4 a (boxS a d T cs):=(C4.newL _ _).trans (C4.setS _ _ _)
def C4.rowS (a:St) (d:Tmp) (t:Ty) (e:TypeId) (l:List t.den):C4 a (rowS a d t e l):=(C4.newL _ _).trans (C4.setS _ _ _)
def C4.dropR (a:St) (c:C):C4 a (dropR a c):=by
 cases c with
 |row k=>exact C4.setL _ _ _
 | _=>exact C4.refl _
section
variable {cx:Cx} {sp:G8} {all:List Oper} {k k':St->Prop} {st:St}
def C4.detO (st:St) (x:Operand):C4 st (detO st x):=by
 have c:∀(b:Bool) (a:St),C4 st a->C4 st (bif b then a else st):=by
  intro b a h;cases b
  . exact C4.refl _
  . exact h
 unfold Vc.detO;split
 . unfold B2m;split
   . split
     . split
       . split
         . exact c _ _ ((C4.setL _ _ _).trans (C4.setL _ _ _))
         . exact C4.refl _
       . exact C4.refl _
     . exact C4.refl _
   . exact C4.refl _
 . exact C4.refl _
def aJ {d:Tmp} {T:TypeId} {x:Operand} {a:St} (h:aI cx st d T x=some a):C4 st a:=by
 simp only[aI,qG,bind_some]at h;obtain⟨ti,_,c,_,h⟩:=h;split at h
 . split at h
   . obtain⟨_,h⟩:=D7 h;cases h;exact((C4.newL _ _).trans (C4.setL _ _ _)).trans (C4.setS _ _ _)
   . cases h
 . cases h
def A3w {d:Tmp} {T:TypeId} {x y:Operand} {a:St} (h:iS cx st d T x y=some a):C4 st a:=by
 simp only[iS,qG,bind_some]at h;obtain⟨ti,_,t,_,b,_,c,_,f,_,h⟩:=h;cases b with
 |row k=>
  simp only at h;split at h
  . split at h
    . obtain⟨_,h⟩:=D7 h;cases h;exact(C4.setL _ _ _).trans (C4.setS _ _ _)
    . cases h
  . cases h
 | _=>simp at h
def A7p {d:Tmp} {op:Op} {φ:Option Prop} {f:St} (h:A7o cx st d op=some (φ,f)):C4 st f:=by
 unfold A7o at h;split at h
 . simp only[qG,bind_some]at h;obtain⟨s,_,h⟩:=h;obtain⟨_,h⟩:=D7 h;cases h;exact C4.boxS _ _ _ _
 . simp only[qG,bind_some]at h;obtain⟨s,_,h⟩:=h;cases h;exact C4.boxS _ _ _ _
 . simp only[qG,bind_some]at h;obtain⟨ti,_,t,_,n,_,o,_,h⟩:=h;obtain⟨_,h⟩:=D7 h;cases h;exact(C4.settleP _ _).trans (C4.rowS _ _ _ _ _)
 . simp only[qG,bind_some]at h;obtain⟨ti,_,t,_,l,_,k,_,h⟩:=h;cases c:ti.rows with
   |true=>
    simp only[c,qV,qJ]at h;obtain⟨g,a,h⟩:=h;cases h;unfold TF at a;split at a
    . simp only[qJ]at a;obtain⟨_,_,a⟩:=a;subst a;exact(C4.newL _ _).trans (C4.setS _ _ _)
    . cases a
   |false=>
    simp only[c,rF]at h;obtain⟨_,h⟩:=D7 h;cases h;exact C4.rowS _ _ _ _ _
 . split at h
   . obtain⟨_,h⟩:=D7 h;simp only[B6e,qG,bind_some]at h;obtain⟨ti,_,t,_,i,_,j,_,l,_,r,_,h⟩:=h;obtain⟨_,h⟩:=D7 h;cases h;exact(C4.detO _ _).trans ((C4.dropR _ _).trans (C4.rowS _ _ _ _ _))
   . cases h
 . simp only[qG,bind_some]at h;obtain⟨ti,_,h⟩:=h;split at h
   . cases h;exact(C4.newL _ _).trans (C4.setS _ _ _)
   . simp only[qJ]at h;obtain⟨_,_,h⟩:=h;cases h;exact(C4.newL _ _).trans (C4.setS _ _ _)
   . cases h
 . split at h
   . simp only[qG,bind_some]at h;obtain⟨ti,_,h⟩:=h;split at h
     . simp only[bind_some]at h;obtain⟨_,_,_,_,h⟩:=h;cases h;exact C4.setS _ _ _
     . cases h
   . cases h
 . simp only[qJ]at h;obtain⟨g,b,h⟩:=h;cases h;exact aJ b
 . simp only[qG,bind_some]at h;obtain⟨ti,_,h⟩:=h;split at h
   . simp only[bind_some]at h;obtain⟨_,_,_,_,h⟩:=h;cases h;exact(C4.settleO _ _).trans ((C4.newL _ _).trans (C4.setS _ _ _))
   . cases h
 . simp only[qG,bind_some]at h;obtain⟨_,_,h⟩:=h;split at h
   . split at h
     . obtain⟨_,h⟩:=D7 h;cases h;exact C4.setS _ _ _
     . cases h
   . cases h
 . split at h
   . simp only[qJ]at h;obtain⟨g,b,h⟩:=h;cases h;exact A3w b
   . cases h
 . cases h
def oD {T:TypeId} {x:Operand} {a:St} (h:RE cx st T x=some a):C4 st a:=by unfold RE at h;cases h
def TH {T:TypeId} {m x y:Operand} {a:St} (h:KT cx st T m x y=some a):C4 st a:=by
 simp only[KT,qG,bind_some]at h;obtain⟨ti,_,c,_,b,_,d,_,h⟩:=h;split at h
 . simp only[bind_some]at h;obtain⟨_,_,_,_,_,_,h⟩:=h;cases h;exact(C4.settleO _ _).trans (C4.setL _ _ _)
 . cases h
def A0h {ti:TI} {s:SV} {k sz i off:Nat} {a:St} (h:fJ ti st s k sz i off=some a):C4 st a:=by
 unfold fJ at h;split at h
 . obtain⟨_,h⟩:=D7 h;split at h
   . cases h;exact C4.setL _ _ _
   . cases h
 . split at h
   . split at h
     . obtain⟨_,h⟩:=D7 h;split at h
       . cases h;exact C4.setL _ _ _
       . cases h
     . cases h
   . cases h
 . cases h
def A0i {T:TypeId} {p v:Operand} {φ:Option Prop} {a:St} (h:VE cx st T p v=some (φ,a)):C4 st a:=by
 simp only[VE,qG,bind_some]at h;obtain⟨ti,_,c,_,h⟩:=h;split at h
 . simp only[bind_some]at h;obtain⟨s,_,h⟩:=h;split at h
   . obtain⟨_,h⟩:=D7 h;cases h;exact C4.setL _ _ _
   . cases h
 . split at h
   . split at h
     . obtain⟨_,h⟩:=D7 h;unfold Vc.attach at h;split at h
       . split at h
         . obtain⟨_,h⟩:=D7 h;cases h;exact(((C4.setL _ _ _).trans (C4.setL _ _ _)).trans (C4.setL _ _ _)).trans (C4.setL _ _ _)
         . cases h
       . cases h
     . cases h
   . simp only[bind_some,qJ]at h;obtain⟨s,_,d,b,h⟩:=h;cases h;exact(C4.settleO _ _).trans (A0h b)
 . cases h
def V6 {sh:Bool} {mu:List Nat} :∀ {as:List AM} {ss:List SV} {k k':A4 as->Prop},L5 cx sp st mu sh as ss k->(∀x,k x->k' x)->L5 cx sp st mu sh as ss k'
 | [],[],_,_,h,b=>b _ h
 | [],_:: _,_,_,h,_=>h.elim
 |a::r,[],_,_,h,_=>by cases a<;>exact h.elim
 | .val a t::r,s::ss,_,_,h,b=>by
  simp only[L5]at h⊢;split at h
  . exact V6 h fun y=>b _
  . exact h.elim
 | .row t d::r,s::ss,_,_,h,c=>by
  simp only[L5]at h⊢;split at h
  . split at h
    . obtain⟨b,h⟩:=B8 h;simp only[b,qV];exact V6 h fun y=>c _
    . exact h.elim
  . exact h.elim
 | .box t d::r,s::ss,_,_,h,c=>by
  simp only[L5]at h⊢;split at h
  . split at h
    . obtain⟨b,h⟩:=B8 h;simp only[b,qV];exact V6 h fun y=>c _
    . exact h.elim
  . exact h.elim
 | .rows t d f::r,s::ss,_,_,h,c=>by
  simp only[L5]at h⊢;split at h
  . split at h
    . obtain⟨b,h⟩:=B8 h;simp only[b,qV];exact V6 h fun y=>c _
    . exact h.elim
  . exact h.elim
 | .fn j n l::r,s::ss,_,_,h,b=>by
  simp only[L5]at h⊢;split at h
  . split at h
    . obtain⟨c,h⟩:=B8 h;simp only[c,qV];obtain⟨g,i,f,h⟩:=h;exact⟨g,i,f,V6 h fun y=>b _⟩
    . exact h.elim
  . split at h
    . rename_i d;rw[dif_pos d];exact⟨h.1,h.2.1,V6 h.2.2 fun y=>b _⟩
    . exact h.elim
  . exact h.elim
def MI {d:Tmp} {s:B4} {ss:List SV} (h:DR cx sp st d s ss k) (g:∀f,C4 st f->k f->k' f):DR cx sp st d s ss k':=by
 unfold DR at h⊢;split at h
 . obtain⟨i,h⟩:=B8 h;simp only[i,qV];cases j:O8 s.args<;>simp only[j,rF,qV]at h⊢
   . exact V6 h fun x a=>⟨a.1,fun r c b=>g _ ((C4.place _ _ _).trans (C4.setS _ _ _)) (a.2 r c b)⟩
   . exact V6 h fun x a=>⟨a.1,fun r o c l b n=>g _ ((C4.dropM _ _).trans ((C4.place _ _ _).trans ((C4.addM _ _ _ _).trans (C4.setS _ _ _)))) (a.2 r o c l b n)⟩
 . exact h
def cO {d:Tmp} {f:Operand} {args:List Operand} (h:Zo cx sp st d f args k) (b:∀a,C4 st a->k a->k' a):Zo cx sp st d f args k':=by
 unfold Zo at h⊢;split at h
 . split at h
   . split at h
     . exact⟨h.1,h.2.1,fun n=>b _ (C4.setS _ _ _) (h.2.2 n)⟩
     . exact h
   . exact h
 . split at h
   . split at h
     . obtain⟨g,h⟩:=B8 h;simp only[g,qV];rename_i s _ _;cases c:s.inl with
       |some o=>
        simp only[c]at h⊢;exact o.step h fun a r ev j=>b _ (ev.trans (C4.setS _ _ _)) j
       |none=>
       simp only[c]at h⊢;cases l:s.shared<;>simp only[l,rF,qV]at h⊢
       . exact MI h b
       . split at h
         . obtain⟨i,h⟩:=B8 h;simp only[i,qV];exact MI h fun a ev=>b a (((C4.stillF _ _ _ _).trans (C4.settleA _ _ _)).trans ev)
         . exact h
     . exact h
   . exact h
def XO {ctx:Hh} {t:Tmp} {b:Bool} {d:Tmp} {f:Operand} {args:List Operand} (h:Pa cx sp st ctx t b d f args k) (a:∀l,C4 st l->k l->k' l):Pa cx sp st ctx t b d f args k':=by
 unfold Pa at h⊢;split at h
 . split at h
   . split at h
     . exact⟨h.1,h.2.1,fun x=>a _ (C4.setS _ _ _) (h.2.2 x)⟩
     . exact h
   . exact h
 split at h
 . split at h
   . split at h
     . split at h
       . obtain⟨g,h⟩:=B8 h;simp only[g,qV];exact a _ (C4.setS _ _ _) h
       . exact h
     obtain⟨g,h⟩:=B8 h;simp only[g,qV];rename_i z _ _ _ _;cases s:O8 z.args<;>simp only[s,rF,qV]at h⊢
     case true=>
      obtain⟨o,h⟩:=B8 h;simp only[o,qV];unfold cM at h⊢;split at h
      . obtain⟨n,h⟩:=B8 h;simp only[n,qV];refine V6 h fun A j=>⟨fun c=>⟨(j.1 c).1,fun r y i u v w=> ?_⟩,fun c=> ?_⟩
        . have:=(j.1 c).2 r y i u v w;split at this
          . exact a _ ((C4.dropM _ _).trans ((C4.place _ _ _).trans ((C4.addM _ _ _ _).trans (C4.setS _ _ _)))) this
          . exact this
        . have:=j.2 c;split at this
          . exact a _ (C4.setS _ _ _) this
          . exact this
      . exact h
     refine V6 h fun A h=>⟨h.1,fun r i=> ?_⟩
     have:=h.2 r i;split at this
     . exact a _ (C4.setS _ _ _) this
     . exact this
   . exact h
 . exact h
def oW {d:Tmp} {T:TypeId} {m x:Operand} {a:St} (h:TG cx st d T m x=some a):C4 st a:=by unfold TG at h;cases h
def oI {m s y:Operand} {a:St} (h:RZ st m s y=some a):C4 st a:=by unfold RZ at h;cases h
def N4 {α:Type} {c:Bool} {a:Option α} {x:α} (h:(bif c then a else none)=some x):a=some x:=by
 cases c with
 |true=>exact h
 |false=>cases h
def C4.giveS (st:St) (k:Nat):C4 st (giveS st k):=by
 unfold Vc.giveS;split
 . split
   . cases Nat.ble st.nm k&&Nat.ble st.nm _ && !(Nat.beq _ k)with
     |true=>exact(C4.setL _ _ _).trans (C4.setL _ _ _)
     |false=>exact C4.refl _
   . exact C4.setL _ _ _
 . exact C4.refl _
def A5p {φ:Option Prop} {b:St} {d:Tmp} {p i:Nat} (a:bP st d p i=some (φ,b)):C4 st b:=by
 unfold bP at a;split at a
 . have a:=N4 a;cases a;exact(((C4.setL _ _ _).trans (C4.newL _ _)).trans (C4.setL _ _ _)).trans (C4.setS _ _ _)
 . cases a
def A4x {φ:Option Prop} {b:St} {p r i:Nat} (a:UR st p r i=some (φ,b)):C4 st b:=by
 unfold UR at a;split at a
 . split at a
   . have a:=N4 a;split at a
     . cases a;exact((C4.setL _ _ _).trans (C4.setL _ _ _)).trans (C4.setL _ _ _)
     . cases a;exact((C4.setL _ _ _).trans (C4.setL _ _ _)).trans (C4.setL _ _ _)
     . cases a
   . cases a
 . cases a
def kT {φ:Option Prop} {b:St} {op:Op} {f:Option Tmp} (a:Me cx st f op=some (φ,b)):C4 st b:=by
 unfold Me at a;split at a
 . simp only[qG,bind_some]at a;obtain⟨d,_,ti,_,a⟩:=a;have a:=N4 a;simp only[bind_some]at a;obtain⟨t,_,n,_,l,_,c,_,a⟩:=a;have a:=N4 a;cases a;exact(C4.newL _ _).trans (C4.setS _ _ _)
 . simp only[qG,bind_some]at a;obtain⟨d,_,ti,_,c,_,a⟩:=a;split at a
   . have a:=N4 a;exact(C4.giveS _ _).trans (A5p a)
   . cases a
 . split at a
   . simp only[qG,bind_some]at a;obtain⟨ti,_,c,_,r,_,a⟩:=a;split at a
     . have a:=N4 a;exact A4x a
     . cases a
   . cases a
 . simp only[qG,bind_some]at a;obtain⟨d,_,ti,_,c,_,a⟩:=a;split at a
   . simp only[bind_some]at a;obtain⟨g,_,a⟩:=a;have a:=N4 a;cases a;exact((C4.setL _ _ _).trans (C4.newL _ _)).trans (C4.setS _ _ _)
   . cases a
 . simp only[qG,bind_some]at a;obtain⟨d,_,c,_,a⟩:=a;split at a
   . split at a
     . have a:=N4 a;cases a;exact C4.setS _ _ _
     . cases a
   . cases a
 . split at a
   . simp only[qG,bind_some]at a;obtain⟨ti,_,c,_,k,_,a⟩:=a;split at a
     . simp only[bind_some]at a;obtain⟨g,_,j,_,a⟩:=a;cases a;exact C4.setL _ _ _
     . cases a
   . cases a
 . split at a
   . simp only[qG,bind_some]at a;obtain⟨ti,_,t,_,h,_,i,_,o,_,a⟩:=a;split at a
     . simp only[bind_some]at a;obtain⟨l,_,a⟩:=a;have a:=N4 a;cases a;exact((C4.setL _ _ _).trans (C4.newL _ _)).trans (C4.setS _ _ _)
     . cases a
   . cases a
 . cases a
def A4n {φ:Option Prop} {b:St} {q r i:Nat} (a:TN st q r i=some (φ,b)):C4 st b:=by
 unfold TN at a;split at a
 . split at a
   . split at a
     . have a:=N4 a;cases a;exact((C4.setL _ _ _).trans (C4.setL _ _ _)).trans (C4.setL _ _ _)
     . cases a
   . cases a
 . cases a
def pZ {φ:Option Prop} {b:St} {op:Op} {d:Option Tmp} (a:Xp cx st d op=some (φ,b)):C4 st b:=by
 unfold Xp at a;split at a
 . split at a
   . simp only[qG,bind_some]at a;obtain⟨ti,_,a⟩:=a;have a:=N4 a;simp only[bind_some]at a;obtain⟨t,_,f,_,c,_,a⟩:=a;split at a
     . simp only[bind_some]at a;obtain⟨l,_,a⟩:=a;have a:=N4 a;cases a;exact((C4.setL _ _ _).trans (C4.newL _ _)).trans (C4.setS _ _ _)
     . cases a
   . cases a
 . split at a
   . simp only[qG,bind_some]at a;obtain⟨ti,_,c,_,r,_,a⟩:=a;split at a
     . exact A4n (N4 a)
     . cases a
   . cases a
 . split at a
   . simp only[qG,bind_some]at a;obtain⟨ti,_,a⟩:=a;have a:=N4 a;simp only[bind_some]at a;obtain⟨t,_,f,_,g,_,h,_,i,_,a⟩:=a;split at a
     . simp only[bind_some]at a;obtain⟨j,_,a⟩:=a;have a:=N4 a;cases a;exact(((C4.dropR _ _).trans (C4.setL _ _ _)).trans (C4.newL _ _)).trans (C4.setS _ _ _)
     . cases a
   . cases a
 . cases a
def pB {φ:Option Prop} {b:St} {op:Op} {c:Option Tmp} (a:EG cx st c op=some (φ,b)):C4 st b:=by
 unfold EG at a;split at a
 . rename_i y d;cases a;exact kT d
 . exact pZ a
def aH {ctx:Hh} {s d:Tmp} {b:Bool} {T:TypeId} {x:Operand} {c:St} (a:aG cx st ctx s b d T x=some c):C4 st c:=by
 simp only[aG,qG,bind_some]at a;obtain⟨ti,_,f,_,a⟩:=a;split at a
 . split at a
   . have a:=N4 a;cases a;exact((C4.newL _ _).trans (C4.setL _ _ _)).trans (C4.setS _ _ _)
   . cases a
 . cases a
def pC {d:Tmp} {p:Nat} (h:aQ st d p k) (b:∀a,C4 st a->k a->k' a):aQ st d p k':=by
 unfold aQ at h⊢;split at h
 . obtain⟨a,h⟩:=ZC h;rw[a];exact⟨fun a=>b _ (((C4.setL _ _ _).trans (C4.setL _ _ _)).trans (C4.setS _ _ _)) (h.1 a),fun c y f a=>b _ ((C4.setL _ _ _).trans (C4.setS _ _ _)) (h.2 c y f a)⟩
 . exact h
def eM {d:Tmp} {x:Operand} (h:AD st d x k) (b:∀a,C4 st a->k a->k' a):AD st d x k':=by
 unfold AD at h⊢;split at h
 . split at h
   . exact pC h b
   . exact h
 . exact h
def EY {o:Oper} (h:CJ cx sp all o k st) (a:∀d,C4 st d->k d->k' d):CJ cx sp all o k' st:=by
 obtain⟨t,w,y,x,r,u⟩:=o;unfold CJ at h⊢;simp only at h⊢;split at h
 . split at h
   . split at h
     . exact E6.2 ⟨(E6.1 h).1,a _ (C4.setS _ _ _) (E6.1 h).2⟩
     . exact h
   split at h
   . rename_i b;exact E6.2 ⟨(E6.1 h).1,a _ (pB b) (E6.1 h).2⟩
   . rename_i j;clear j;split at h
     . split at h
       . split at h
         . rename_i b;exact E6.2 ⟨(E6.1 h).1,a _ (A0i b) (E6.1 h).2⟩
         . exact h
       . exact h
     . split at h
       . split at h
         . rename_i b;exact a _ (TH b) h
         . exact h
       . exact h
     . split at h
       . split at h
         . rename_i b;exact a _ (TH b) h
         . exact h
       . exact h
     . split at h
       . exact cO h a
       . exact h
     . split at h
       . rename_i z str v A s;cases str with
         |true=>exact h
         |false=>exact eM h a
       . exact h
     . split at h
       . split at h
         . rename_i b;exact a _ (oW b) h
         . exact h
       . exact h
     . split at h
       . split at h
         . rename_i b;exact a _ (oI b) h
         . exact h
       . exact h
     . split at h
       . split at h
         . rename_i b;exact a _ (oD b) h
         . exact h
       . exact h
     . split at h
       . split at h
         . rename_i f;exact E6.2 ⟨(E6.1 h).1,a _ (A7p f) (E6.1 h).2⟩
         . exact h
       . exact h
 . split at h
   . obtain⟨g,h⟩:=B8 h;simp only[g,qV];split at h
     . obtain⟨n,h⟩:=B8 h;simp only[n,qV];split at h
       . obtain⟨l,h⟩:=B8 h;simp only[l,qV];exact E6.2 ⟨(E6.1 h).1,a _ (C4.setS _ _ _) (E6.1 h).2⟩
       . exact h
       . split at h
         . exact XO h a
         . split at h
           . rename_i c;refine a _ ?_ h;simp only[cH,qG,bind_some]at c;obtain⟨_,_,_,_,_,_,_,_,c⟩:=c;obtain⟨_,c⟩:=D7 c;cases c;exact C4.setS _ _ _
           . exact h
         . split at h
           . rename_i i;exact a _ (aH i) h
           . exact h
         . exact h
     . exact h
   . exact h
def NF:∀ {ops:List Oper} {k k':St->Prop} {st:St},VA cx sp all ops k st->(∀a,C4 st a->k a->k' a)->VA cx sp all ops k' st
 | [],_,_,st,h,a=>a st (C4.refl st) h
 | _:: _,_,_,_,h,f=>EY h fun b a c=>NF c fun g b d=>f g (a.trans b) d
end
inductive Tz where
 |val (t:Ty)
 |own (t:Ty) (e:TypeId)
 |ownR (t:Ty) (e e':TypeId)
 |fix (k:Nat)
 |fixB (k:Nat)
def Tz.pin:Tz->Option Nat
 | .fix k=>some k
 | .fixB k=>some k
 | _=>none
@[reducible] def shD:List Tz->Type->Type
 | [],T=>T
 | .val t::r,T=>t.den×shD r T
 | .own t _::r,T=>List t.den×shD r T
 | .ownR t _ _::r,T=>List (List t.den)×shD r T
 | .fix _::r,T=>shD r T
 | .fixB _::r,T=>shD r T
inductive LT where
 |row (t:Ty) (e:TypeId)
 |map (ka:Bool) (kt:Ty) (va:Bool) (vt:Ty)
 |rows (t:Ty) (e e':TypeId)
 |iter (ka:Bool) (kt:Ty) (va:Bool) (vt:Ty)
 |nest (t:Ty) (e e':TypeId)
 |itM (ka:Bool) (kt:Ty) (va:Bool) (vt:Ty) (q:Nat)
@[reducible] def LT.den:LT->Type
 | .row t _=>List t.den
 | .map _ a _ b=>List (a.den×b.den)
 | .rows t _ _=>List (List t.den)
 | .iter _ a _ b=>List (a.den×b.den)
 | .nest t _ _=>List t.den×List Nat
 | .itM _ a _ b _=>List (a.den×b.den)×List (a.den×b.den)
def LT.wf:(l:LT)->l.den->Prop
 | .row t _,x=>(Ty.sl t).wf x
 | .map a b c d,x=>(Ty.mp a b c d).wf x
 | .rows t _ _,x=>(Ty.sl (Ty.sl t)).wf x
 | .iter a b c d,x=>(Ty.mp a b c d).wf x
 | .nest _ _ _,x=>x.1.length<=9223372036854775807
 | .itM a b c d _,x=>(Ty.mp a b c d).wf x.2
def LT.lc:(l:LT)->l.den->LC
 | .row t e,x=> .row t e x
 | .map a b c d,x=> .map a b c d x
 | .rows t e a,x=> .rows t e a x [] none
 | .iter a b c d,x=> .iter a b c d x none
 | .nest t e a,x=> .nest t e a x.1 [] x.2
 | .itM a b c d q,x=> .itM a b c d x.1 x.2 none q
def plugL:List (Nat×LT)->St->St
 | [],a=>a
 | (k, .nest _ _ _)::r,a=>plugL r (giveS a k)
 | (k, .row _ _)::r,a=>plugL r (thaw a k)
 | _::r,a=>plugL r a
def LT.need:LT->Option Nat
 | .itM _ _ _ _ q=>some q
 | _=>none
def oZ (a:St) (t:Ty) (e e':TypeId) (k:Nat):Option (List t.den×List Nat):=match a.L k with
 | .nest f d a c [] b=>if h:f=t then(bif Nat.beq d e&&Nat.beq a e' then some (h▸c,b)else none)else none
 | _=>none
def oT (a:St) (k:Nat):(l:LT)->Option l.den
 | .row t e=>Ue a t e k
 | .map b c d f=>mapM a b c d f k
 | .rows t e b=>rowsAt a t e b k
 | .iter b d g i=>match a.L k with
  | .iter c f h j n _=>if o:Ty.mp c f h j=Ty.mp b d g i then some (o▸(show(Ty.mp c f h j).den from n):(Ty.mp b d g i).den)else none
  | _=>none
 | .nest t e b=>oZ a t e b k
 | .itM b c f h q=>match a.L k with
  | .itM a d g i j left _ o=>bif Nat.beq q o&&Nat.blt q k then(if n:Ty.mp a d g i=Ty.mp b c f h then some (n▸(show(Ty.mp a d g i).den×(Ty.mp a d g i).den from(j,left)):(Ty.mp b c f h).den×(Ty.mp b c f h).den)else none)else none
  | _=>none
@[reducible] def lJ:List (Nat×LT)->Type
 | []=>Unit
 | (_,t)::r=>t.den×lJ r
structure CW where
 keepS:List Nat
 keepL:List Nat
 modS:List (Nat×Bool×List Tz)
 boxL:List (Nat×TypeId×List Tz)
 rowL:List (Nat×LT)
def C0h:List (Nat×Bool×List Tz)->List Tz->List Tz
 | [],r=>r
 | (_,_,a)::l,r=>a++C0h l r
def C0g:List (Nat×TypeId×List Tz)->List Tz
 | []=> []
 | (_,_,a)::l=>a++C0g l
def CW.shs (A:CW):List Tz:=C0h A.modS (C0g A.boxL)
@[reducible] def CW.den (A:CW):Type:=shD A.shs (lJ A.rowL)
def shW:(shs:List Tz)-> {T:Type} ->(T->Prop)->shD shs T->Prop
 | [],_,q,x=>q x
 | .val t::r,_,q,x=>t.wf x.1/\shW r q x.2
 | .own t _::r,_,q,x=>(Ty.sl t).wf x.1/\shW r q x.2
 | .ownR t _ _::r,_,q,x=>(Ty.sl (Ty.sl t)).wf x.1/\shW r q x.2
 | .fix _::r,_,q,x=>shW r q x
 | .fixB _::r,_,q,x=>shW r q x
def B8a:(l:List (Nat×LT))->lJ l->Prop
 | [],_=>True
 | (_,t)::r,x=>t.wf x.1/\B8a r x.2
def CW.wf (A:CW) (p:A.den):Prop:=shW A.shs (B8a A.rowL) p
def cR (b:St):List (Nat×Bool×List Tz)->List C->Option (List C)
 | [],r=>some r
 | (s,d,shs)::l,r=>match b.S s with
  | .one ⟨c,a⟩=>bif(c==d)&&Nat.beq a.length shs.length then(cR b l r).map (a++ ·)else none
  | _=>none
def cQ (b:St):List (Nat×TypeId×List Tz)->Option (List C)
 | []=>some []
 | (k,T,shs)::l=>match b.L k with
  | .box T' a=>bif Nat.beq T' T&&Nat.beq a.length shs.length then(cQ b l).map (a++ ·)else none
  | _=>none
def CW.cells (A:CW) (a:St):Option (List C):=(cQ a A.boxL).bind (cR a A.modS)
def settleSh:St->List Tz->List C->St
 |b, .val _::r,c::a=>settleSh (settle b [c]) r a
 |b, .own _ _::r,c::a=>settleSh (thawS b ⟨false,[c]⟩) r a
 |b, .ownR _ _ _::r,_::a=>settleSh b r a
 |b, .fix _::r,_::a=>settleSh b r a
 |b, .fixB _::r,_::a=>settleSh b r a
 |a,_,_=>a
def B9x (k:Nat):C->Bool
 | .row j=>Nat.beq j k
 | _=>false
def B9v (k:Nat):C->Bool
 | .box j 0=>Nat.beq j k
 | _=>false
def W3 (a:St):(shs:List Tz)-> {T:Type} ->T->List C->Option (shD shs T)
 | [],_,x,[]=>some x
 | .val t::r,_,x,c::b=>(QZ t c).bind fun y=>(W3 a r x b).map fun z=>(y,z)
 | .own t e::r,_,x,c::b=>(LN a t e c).bind fun y=>(W3 a r x b).map fun z=>(y,z)
 | .ownR t e d::r,_,x,c::b=>(bE a t e d c).bind fun y=>(W3 a r x b).map fun z=>(y,z)
 | .fix k::r,_,x,c::b=>bif B9x k c then W3 a r x b else none
 | .fixB k::r,_,x,c::b=>bif B9v k c then W3 a r x b else none
 | _,_,_,_=>none
def A7x (l:List (Nat×LT)) (bl:List (Nat×TypeId×List Tz)):Tz->Bool
 | .fixB k=>bl.any fun x=>Nat.beq x.1 k
 | .fix k=>l.any fun x=>Nat.beq x.1 k
 | _=>true
def A5b (a:St):(l:List (Nat×LT))->Option (lJ l)
 | []=>some ()
 | (k,t)::r=>(oT a k t).bind fun y=>(A5b a r).map fun z=>(y,z)
def M8:List Tz->List C->List Nat
 | .own _ _::r, .row k::a=>k::M8 r a
 | .ownR _ _ _::r, .row k::a=>k::M8 r a
 | _::r,_::a=>M8 r a
 | _,_=> []
def kI {α:Type} (d:α) (l:List (Nat×α)):List Nat->List (Nat×α)
 | []=> []
 |s::r=>(s,find d s l)::kI d l r
def gath (A:CW) (b:St):Option (St×A.den):=do
 let c<-A.cells (plugL A.rowL b)
 let a:=settleSh (plugL A.rowL b) A.shs c
 let b<-A.cells a
 let tl<-A5b a A.rowL
 let p<-W3 a A.shs tl b
 bif EH (A.keepL++(M8 A.shs b++((A.rowL.map fun x=>x.1)++(A.boxL.map fun x=>x.1))))&&A.shs.all (A7x A.rowL A.boxL)then some (a,p)else none
def B7t:(t:Ty)->t.den->C
 | .ptr t,x=> .pf t x 0
 |t,x=> .val t x
def placeSh:(shs:List Tz)-> {T:Type} ->shD shs T->St->List C×St×T
 | [],_,x,a=>([],a,x)
 | .val t::r,_,x,a=>(fun p=>(B7t t x.1::p.1,p.2)) (placeSh r x.2 a)
 | .own t e::r,_,x,a=>(fun p=>(C.row a.nx::p.1,p.2)) (placeSh r x.2 (a.newL (.row t e x.1)))
 | .ownR t e b::r,_,x,a=>(fun p=>(C.row a.nx::p.1,p.2)) (placeSh r x.2 (a.newL (.rows t e b x.1 [] none)))
 | .fix k::r,_,x,a=>(fun p=>(C.row k::p.1,p.2)) (placeSh r x a)
 | .fixB k::r,_,x,a=>(fun p=>(C.box k 0::p.1,p.2)) (placeSh r x a)
def putRows:(l:List (Nat×LT))->lJ l->St->St
 | [],_,a=>a
 | (k,t)::r,x,a=>putRows r x.2 (a.setL k (t.lc x.1))
def putS:List (Nat×Bool×List Tz)->List C->St->List C×St
 | [],a,b=>(a,b)
 | (s,b,shs)::r,a,c=>putS r (a.drop shs.length) (c.setS s (.one ⟨b,a.take shs.length⟩))
def putB:List (Nat×TypeId×List Tz)->List C->St->St
 | [],_,a=>a
 | (k,T,shs)::r,a,b=>putB r (a.drop shs.length) (b.setL k (.box T (a.take shs.length)))
def A5q:List (Nat×TypeId×List Tz)->Nat->Nat
 | [],n=>n
 |y::r,n=>A5q r (bif Nat.blt y.1 n then n else y.1+1)
def Mo:∀(l:List (Nat×TypeId×List Tz)) (n:Nat),n<=A5q l n
 | [],n=>qR n
 |y::r,n=>by
  refine qX ?_ (Mo r _);cases a:Nat.blt y.1 n with
  |true=>exact qR n
  |false=>
   have:¬y.1<n:=fun h=>by rw[show Nat.blt y.1 n=true from by rw[Nat.blt_eq];exact h]at a;cases a
   show n<=y.1+1;omega
def VI:∀ {l:List (Nat×TypeId×List Tz)} {n:Nat},∀y∈l,y.1<A5q l n
 |y::r,n,z,a=>by
  rcases qU.1 a with rfl|a
  . refine rC ?_ (Mo r _);cases b:Nat.blt z.1 n with
    |true=>rw[Nat.blt_eq]at b;exact b
    |false=>exact rN _
  . exact VI (l:=r) z a
def kept (A:CW) (a:St):St:=⟨kI (0, .dead) a.sl A.keepS,kI (0, .none) a.lc A.keepL,A5q A.boxL a.nx,a.ct+1,a.nm,a.fr⟩
def reflect (A:CW) (a:St) (p:A.den):St:=
 (fun q=>(fun r=>putB A.boxL r.1 r.2) (putS A.modS q.1 (putRows A.rowL q.2.2 q.2.1))) (placeSh A.shs p (kept A a))
def dU (n:Nat) (g:Nat):Bool:=Nat.ble 1 g&&Nat.ble g n
def A8v (A:CW) (a b:St):Bool:=(A.keepS.all fun s=>dU a.ct (b.eS s).1)&&(A.keepL.all fun k=>dU a.ct (b.eL k).1)&&(A.rowL.all fun x=>Nat.blt x.1 a.nx)&&B7s a.ct b.fr
def KA (A:CW) (b:St) (J:A.den->Prop) (a:St):Prop:=
 match gath A a with
 |some (a,p)=>bif A8v A b a then J p else False
 |none=>False
section
variable {za:Zn} {w0 w:World} {Z:Nat->Prop} {B:Nat->Value} {st st0:St} {E:G9}
def C4.plugL:∀(l:List (Nat×LT)) (st:St),C4 st (plugL l st)
 | [],st=>C4.refl st
 | (k, .nest _ _ _)::r,st=>(C4.giveS st k).trans (C4.plugL r _)
 | (k, .row _ _)::r,st=>(C4.thawS st ⟨false,[.row k]⟩).trans (C4.plugL r _)
 | (_, .map _ _ _ _)::r,st=>C4.plugL r st
 | (_, .rows _ _ _)::r,st=>C4.plugL r st
 | (_, .iter _ _ _ _)::r,st=>C4.plugL r st
 | (_, .itM _ _ _ _ _)::r,st=>C4.plugL r st
def C3.plugL (a:za.b0=0):∀ {l:List (Nat×LT)} {st:St} {Z:Nat->Prop},C3 za w0 st E w Z B->∃Z',C3 za w0 (plugL l st) E w Z' B
 | [],_,Z,h=>⟨Z,h⟩
 | (k, .nest _ _ _)::r,_,_,h=>C3.plugL a (l:=r) (h.giveS a k)
 | (k, .row _ _)::r,_,_,h=>by
  obtain⟨Z1,b⟩:=h.thaw k;exact C3.plugL a (l:=r) b
 | (_, .map _ _ _ _)::r,_,_,h=>C3.plugL a (l:=r) h
 | (_, .rows _ _ _)::r,_,_,h=>C3.plugL a (l:=r) h
 | (_, .iter _ _ _ _)::r,_,_,h=>C3.plugL a (l:=r) h
 | (_, .itM _ _ _ _ _)::r,_,_,h=>C3.plugL a (l:=r) h
def C4.settleSh:∀(shs:List Tz) (cs:List C) (st:St),C4 st (settleSh st shs cs)
 | .val _::r,c::cs,st=>(C4.settle st [c]).trans (C4.settleSh r cs _)
 | .own _ _::r,c::cs,st=>(C4.thawS st ⟨false,[c]⟩).trans (C4.settleSh r cs _)
 | .ownR _ _ _::r,_::cs,st=>C4.settleSh r cs st
 | .ownR _ _ _:: _,[],st=>C4.refl st
 | .fix _::r,_::cs,st=>C4.settleSh r cs st
 | .fixB _::r,_::cs,st=>C4.settleSh r cs st
 | .fixB _:: _,[],st=>C4.refl st
 | [],_,st=>C4.refl st
 | .val _:: _,[],st=>C4.refl st
 | .own _ _:: _,[],st=>C4.refl st
 | .fix _:: _,[],st=>C4.refl st
def C3.settleSh:∀ {shs:List Tz} {cs:List C} {st:St} {Z:Nat->Prop},C3 za w0 st E w Z B->∃Z',C3 za w0 (settleSh st shs cs) E w Z' B
 | .val _::r,c::cs,st,Z,h=>by
  obtain⟨Z1,a⟩:=h.settle [c];exact C3.settleSh (shs:=r) (cs:=cs) a
 | .own _ _::r,c::cs,st,Z,h=>by
  obtain⟨Z1,a⟩:=h.thawS ⟨false,[c]⟩;exact C3.settleSh (shs:=r) (cs:=cs) a
 | .ownR _ _ _::r,_::cs,st,Z,h=>C3.settleSh (shs:=r) (cs:=cs) h
 | .ownR _ _ _:: _,[],st,Z,h=>⟨Z,h⟩
 | .fix _::r,_::cs,st,Z,h=>C3.settleSh (shs:=r) (cs:=cs) h
 | .fixB _::r,_::cs,st,Z,h=>C3.settleSh (shs:=r) (cs:=cs) h
 | .fixB _:: _,[],st,Z,h=>⟨Z,h⟩
 | [],_,st,Z,h=>⟨Z,h⟩
 | .val _:: _,[],st,Z,h=>⟨Z,h⟩
 | .own _ _:: _,[],st,Z,h=>⟨Z,h⟩
 | .fix _:: _,[],st,Z,h=>⟨Z,h⟩
def C4.putRows:∀(l:List (Nat×LT)) (x:lJ l) (st:St),C4 st (putRows l x st)
 | [],_,st=>C4.refl st
 | (k,t)::r,x,st=>(C4.setL st k _).trans (C4.putRows r x.2 _)
def C4.placeSh:∀(shs:List Tz) {T:Type} (x:shD shs T) (st:St),C4 st (placeSh shs x st).2.1
 | [],_,_,st=>C4.refl st
 | .val t::r,_,x,st=>C4.placeSh r x.2 st
 | .own t e::r,_,x,st=>(C4.newL st (.row t e x.1)).trans (C4.placeSh r x.2 _)
 | .ownR t e a::r,_,x,st=>(C4.newL st (.rows t e a x.1 [] none)).trans (C4.placeSh r x.2 _)
 | .fix _::r,_,x,st=>C4.placeSh r x st
 | .fixB _::r,_,x,st=>C4.placeSh r x st
def C4.putS:∀(l:List (Nat×Bool×List Tz)) (cs:List C) (st:St),C4 st (putS l cs st).2
 | [],_,st=>C4.refl st
 | (s,a,shs)::r,cs,st=>(C4.setS st s _).trans (C4.putS r _ _)
def C4.putB:∀(l:List (Nat×TypeId×List Tz)) (cs:List C) (st:St),C4 st (putB l cs st)
 | [],_,st=>C4.refl st
 | (k,T,shs)::r,cs,st=>(C4.setL st k _).trans (C4.putB r _ _)
def C4.reflect (A:CW) (st0:St) (p:A.den):C4 (kept A st0) (reflect A st0 p):=
 (C4.placeSh A.shs p _).trans ((C4.putRows _ _ _).trans ((C4.putS _ _ _).trans (C4.putB _ _ _)))
def DU {α:Type} (d:α) (l:List (Nat×α)) (q:Nat):∀b:List Nat,find d q (kI d l b)=if q∈b then find d q l else d
 | []=>rfl
 |s::r=>by
  simp only[kI,find,DU d l q r];cases a:Nat.beq s q with
  |true=>have:=qD a;subst this;simp
  |false=>
   have:q≠s:=fun h=>by subst h;simp at a
   simp[this]
def eE (A:CW) (st:St) (s:Nat):(kept A st).eS s=if s∈A.keepS then st.eS s else(0, .dead):=DU ..
def eD (A:CW) (st:St) (k:Nat):(kept A st).eL k=if k∈A.keepL then st.eL k else(0, .none):=DU ..
def lI {A:CW} {p:A.den} {s:Nat} (a:((reflect A st0 p).eS s).1≠0) (b:((reflect A st0 p).eS s).1<=st0.ct):(reflect A st0 p).eS s=st0.eS s:=by
 have e:=(C4.reflect A st0 p).s s a (xI b);rw[e]at a⊢;rw[eE]at a⊢;split
 . rfl
 . rename_i b;rw[qH b]at a;exact absurd rfl a
def fE {A:CW} {p:A.den} {k:Nat} (a:((reflect A st0 p).eL k).1≠0) (b:((reflect A st0 p).eL k).1<=st0.ct):(reflect A st0 p).eL k=st0.eL k:=by
 have e:=(C4.reflect A st0 p).l k a (xI b);rw[e]at a⊢;rw[eD]at a⊢;split
 . rfl
 . rename_i b;rw[qH b]at a;exact absurd rfl a
structure B1x (n:Nat) (st:St):Prop where
 nms:st.nm=n/\n<=st.nx
 refs:∀s,IA st.nx (st.S s)
 refl:∀k,BC st.nx (st.L k)
 fresh:∀k,st.nx<=k->st.L k= .none
 frf:gE st.nx st.fr
def C3.pure (h:C3 za w0 st E w Z B):B1x za.n st:=⟨h.nms,h.refs,h.refl,h.fresh,h.frf⟩
structure Hg (za:Zn) (w0:World) (st2:St) (E:G9) (w:World) (Z:Nat->Prop) (B:Nat->Value) (used:List Nat) (st:St) (BX:Nat->Value):Prop where
 rel:C3 za w0 st E w Z BX
 own:∀j b,A9 w (BX j) (st.L j) b->∃q,q∈used/\A9 w (B q) (st2.L q) b
def Hg.disj {a:St} {d:List Nat} {BX:Nat->Value} (f:C3 za w0 a E w Z B) (c:Hg za w0 a E w Z B d st BX) {q:Nat} (h:q∉d):∀k b,A9 w (B q) (a.L q) b->¬A9 w (BX k) (st.L k) b:=fun k b a d=>by
 obtain⟨j,i,g⟩:=c.own k b d;exact f.disj q j b (fun d=>h (d▸i)) a g
end
section
variable {za:Zn} {w0 w:World} {Z:Nat->Prop} {B:Nat->Value} {st st0 st2:St} {E:G9}
def C3.setSame (h:C3 za w0 st E w Z B) (s:Nat) {x:DV} (c:RD w Z B E x (E s)) (b:IA st.nx x):C3 za w0 (st.setS s x) E w Z B:=by
 have e:upd E s (E s)=E:=by
  funext t;by_cases a:t=s
  . subst a;exact C0 _ _ _
  . exact C5 _ _ _ _ a
 have:=h.setS s (x:=x) (v:=E s) (by rw[e];exact c) b;rwa[e]at this
def B6l {A:CW} (a:C3 za w0 st2 E w Z B) (d:B1x za.n st0) (c:∀s∈A.keepS,st2.eS s=st0.eS s) (b:∀k∈A.keepL,st2.eL k=st0.eL k) (j:st2.fr=st0.fr):Hg za w0 st2 E w Z B A.keepL (kept A st0) B:=by
 have eS:∀s,(kept A st0).S s=if s∈A.keepS then st2.S s else .dead:=fun s=>by
  show((kept A st0).eS s).2= _;rw[eE];split
  . rename_i f;rw[<-c s f];rfl
  . rfl
 have eL:∀k,(kept A st0).L k=if k∈A.keepL then st2.L k else .none:=fun k=>by
  show((kept A st0).eL k).2= _;rw[eD];split
  . rename_i c;rw[<-b k c];rfl
  . rfl
 have i:∀s,(kept A st0).S s=if s∈A.keepS then st0.S s else .dead:=fun s=>by
  show((kept A st0).eS s).2= _;rw[eE];split<;>rfl
 have g:∀k,(kept A st0).L k=if k∈A.keepL then st0.L k else .none:=fun s=>by
  show((kept A st0).eL s).2= _;rw[eD];split<;>rfl
 have f:∀k b,A9 w (B k) ((kept A st0).L k) b->k∈A.keepL/\A9 w (B k) (st2.L k) b:=fun k b c=>by
  rw[eL]at c;split at c
  . rename_i h;exact⟨h,c⟩
  . exact c.elim
 refine⟨⟨a.ext,a.zlt,fun s=> ?_,fun k=> ?_,fun k h b l o r=>a.disj k h b l (f k b o).2 (f h b r).2,fun s=> ?_,fun k=> ?_,fun k c=> ?_,a.bone,a.zin,⟨d.nms.1,qX d.nms.2 (Mo _ _)⟩,a.bfix,⟨a.mrk.1,fun k b c h=>a.mrk.2 k b c (f k b h).2⟩,(by have:=a.frs;rw[j]at this;exact this),d.frf.le (Mo _ _)⟩,fun j b h=>⟨j,(f j b h).1,(f j b h).2⟩⟩
 . rw[eS];split
   . exact a.slots s
   . trivial
 . rw[eL];split
   . exact a.locs k
   . trivial
 . rw[i];split
   . exact(d.refs s).le (Mo _ _)
   . trivial
 . rw[g];split
   . exact(d.refl k).le (Mo _ _)
   . trivial
 . rw[g];split
   . exact d.fresh k (qX (Mo _ _) c)
   . rfl
def LO (j:C3 za w0 st2 E w Z B) {t:Ty} {e:TypeId} {c:C} {l:List t.den} {v:Value} (o:RC w Z B c v) (a:LN st2 t e c=some l):
 ∃xs,w.ownsRow w0.heap.size e t.size v l.length xs/\G1 (C6 t w Z) xs l/\(∀b,v.ownBlock=some b->¬Z b)/\((∃q,c= .row q/\live (st2.L q)/\v=B q)\/(root v=none/\∀q,c≠ .row q)):=by
 unfold LN at a;split at a
 . rename_i q;split at a
   . rename_i G A F f;split at a
     . rename_i x;subst x;obtain⟨g,a⟩:=D7 a;cases a;simp only[qC]at g;have D:=qO g.2;have u:=qD g.1;subst u;have n:=j.locs q;rw[f]at n;obtain⟨xs,r,s,k⟩:=n;have h:v=B q:=o;subst h;have z:∀b,(B q).ownBlock=some b->w0.heap.size<=b:=fun b d=>by
        rcases(k b d).1 with i|i
        . exact i.2
        . have:=j.nms.1;omega
       exact⟨xs,eW r z,s,fun b d=>(k b d).2, .inl ⟨q,rfl,by rw[f];trivial,rfl⟩⟩
     . cases a
   . cases a
 . obtain⟨y,a⟩:=D7 a;cases a;have h:v= .slice none 0 0:=by rw[o.1];exact Fe y
   subst h;exact⟨[],World.ownsRow_nil _ _ _ _,rfl,fun b d=>(by cases d), .inr ⟨rfl,fun q f=>(by cases f)⟩⟩
 . cases a
def lO (j:C3 za w0 st2 E w Z B) {t:Ty} {e e':TypeId} {c:C} {ls:List (List t.den)} {v:Value} (k:RC w Z B c v) (a:bE st2 t e e' c=some ls):
 Bd w Z t e e' v ls/\v.oneCell'=true/\(∀b,A9 w v (.rows t e e' ls [] none) b->¬Z b/\w0.heap.size<=b/\b<w.heap.size)/\((∃q,c= .row q/\v=B q/\∀b,A9 w v (.rows t e e' ls [] none) b->A9 w (B q) (st2.L q) b)\/((∀b,¬A9 w v (.rows t e e' ls [] none) b)/\∀q,c≠ .row q)):=by
 unfold bE at a;split at a
 . rename_i q;obtain⟨h,a⟩:=D7 a;obtain⟨al,o⟩:=W4 a;obtain⟨n,g⟩:=j.rowsAt o (qO h);have f:v=B q:=k;subst f;exact⟨n,j.bone q,fun b d=>⟨(g b d).1,(g b d).2.1,(g b d).2.2.1⟩, .inl ⟨q,rfl,rfl,fun b d=>(g b d).2.2.2⟩⟩
 . obtain⟨s,a⟩:=D7 a;cases a;have f:v= .slice none 0 0:=by rw[k.1];exact Fe s
   exact⟨⟨[],by rw[f];exact World.ownsRow_nil _ _ _ _,fun l y u r=>(by simp at r),fun l x u v b _ i=>(by simp at i),fun l u b i=>(by simp at i)⟩,by rw[f];rfl,fun b d=>absurd d (TS f), .inr ⟨fun b=>TS f,fun q h=>(by cases h)⟩⟩
 . cases a
def B3t {t:Ty} {v:Value} {x:t.den} (h:C6 t w Z [v] x):RC w Z B (B7t t x) v:=by
 cases t with
 |ptr t=>
  obtain⟨b,o,a,e,r⟩:=h;simp only[sI,vP]at e;exact⟨b,o,a,by rw[e];rfl,r⟩
 | _=>exact h
def A9y {n:Nat} {t:Ty} {x:t.den} :Bw n (B7t t x):=by cases t<;>trivial
def Pz (l:za.b0=0) (f:C3 za w0 st2 E w Z B):∀ {shs:List Tz} {T:Type} {tl:T} {cs:List C} {vs:List Value} {p:shD shs T} {st:St} {BX:Nat->Value} {a:List Nat},Hg za w0 st2 E w Z B a st BX->Cm w Z B cs vs->W3 st2 shs tl cs=some p->(∀q∈M8 shs cs,q∉a)->(M8 shs cs).Nodup->(∀c∈shs,∀k,c.pin=some k->k<st.nx/\BX k=B k)->
 ∃BX',Hg za w0 st2 E w Z B (M8 shs cs++a) (placeSh shs p st).2.1 BX'/\Cm w Z BX' (placeSh shs p st).1 vs/\(∀c∈(placeSh shs p st).1,Bw (placeSh shs p st).2.1.nx c)/\(∀k,k<st.nx->BX' k=BX k)/\st.nx<=(placeSh shs p st).2.1.nx/\(placeSh shs p st).2.2=tl
 | [],_,tl,[],vs,p,st,BX,a,c,d,b,_,_,_=>by
  simp only[W3,rB]at b;exact⟨BX,c,d,by simp[placeSh],fun _ _=>rfl,qR _,b.symm⟩
 | [],_,_,_:: _,_,_,_,_,_,_,_,b,_,_,_=>by cases b
 | .val t::r,_,_,[],_,_,_,_,_,_,_,b,_,_,_=>by cases b
 | .own t e::r,_,_,[],_,_,_,_,_,_,_,b,_,_,_=>by cases b
 | .ownR t e d::r,_,_,[],_,_,_,_,_,_,_,b,_,_,_=>by cases b
 | .fix k::r,_,_,[],_,_,_,_,_,_,_,b,_,_,_=>by cases b
 | .fixB k::r,_,_,[],_,_,_,_,_,_,_,b,_,_,_=>by cases b
 | .fix k::u,T,tl,d::cs,vs,p,st,BX,a,c,⟨v,I,e,G,H⟩,b,t,s,o=>by
  simp only[W3]at b;obtain⟨r,b⟩:=D7 b;have D:M8 (.fix k::u) (d::cs)=M8 u cs:=by cases d<;>rfl
  rw[D]at t s⊢;obtain⟨BX',x,y,z,i,n,A⟩:=Pz l f c H b t s (fun j F=>o j (qK _ F));subst e;have g:=o _ rJ k rfl;cases d with
  |row j=>
   have:=qD r;subst this;refine⟨BX',x,⟨v,I,rfl, ?_,y⟩,fun q h=> ?_,i,n,A⟩
   . show v=BX' j;rw[i j g.1,g.2];exact G
   . rcases qU.1 h with rfl|h
     . exact rC g.1 n
     . exact z q h
  | _=>cases r
 | .fixB k::x,T,tl,d::cs,vs,p,st,BX,a,c,⟨v,O,e,M,N⟩,b,t,s,r=>by
  simp only[W3]at b;obtain⟨g,b⟩:=D7 b;have H:M8 (.fixB k::x) (d::cs)=M8 x cs:=by cases d<;>rfl
  rw[H]at t s⊢;obtain⟨BX',z,A,D,n,o,F⟩:=Pz l f c N b t s (fun j I=>r j (qK _ I));subst e;have h:=r _ rJ k rfl;cases d with
  |box j u=>
   cases u with
   |succ u=>cases g
   |zero=>
   have:=qD g;subst this;refine⟨BX',z,⟨v,O,rfl, ?_,A⟩,fun q i=> ?_,n,o,F⟩
   . obtain⟨y,G,J⟩:=M;exact⟨y,by rw[n j h.1,h.2];exact G,J⟩
   . rcases qU.1 i with rfl|i
     . exact rC h.1 o
     . exact D q i
  | _=>cases g
 | .val I::r,T,tl,d::cs,vs,p,st,BX,a,c,⟨v,J,e,A,D⟩,h,i,g,x=>by
  simp only[W3,bind_some,qJ]at h;obtain⟨M,F,N,G,rfl⟩:=h;have y:M8 (.val I::r) (d::cs)=M8 r cs:=by cases d<;>rfl
  rw[y]at i g⊢;obtain⟨BX',j,n,o,s,t,u⟩:=Pz l f c D G i g (fun H z=>x H (qK _ z));subst e;refine⟨BX',j,⟨v,J,rfl,B3t (cF A F),n⟩,fun q b=> ?_,s,t,u⟩;rcases qU.1 b with rfl|b
  . exact A9y
  . exact o q b
 | .ownR t i j::r,T,tl,G::cs,vs,p,st,BX,a,c,⟨v,ag,e,a9,ab⟩,F,u,A,a3=>by
  simp only[W3,bind_some,qJ]at F;obtain⟨x,a5,ai,ac,rfl⟩:=F;subst e;obtain⟨ae,aa,O,af⟩:=lO f a9 a5;have ad:∃h,Hg za w0 st2 E w Z B h (st.newL (.rows t i j x [] none)) (upd BX st.nx v)/\(∀q∈M8 r cs,q∉h)/\(M8 r cs).Nodup/\(∀q,q∈M8 (.ownR t i j::r) (G::cs)++a↔q∈M8 r cs++h):=by
   have mk:∀h,(∀q∈a,q∈h)->(∀b,A9 w v (.rows t i j x [] none) b->∃q,q∈h/\A9 w (B q) (st2.L q) b)->(∀k b,A9 w v (.rows t i j x [] none) b->¬A9 w (BX k) (st.L k) b)->Hg za w0 st2 E w Z B h (st.newL (.rows t i j x [] none)) (upd BX st.nx v):=by
    intro h a7 s a2;refine⟨c.rel.new (v:=v) (lc:= .rows t i j x [] none) (Bd.rl (by rw[C0];exact ae) fun b d=>by rw[C0]at d;exact⟨.inl ⟨c.rel.nms.2,(O b d).2.1⟩,(O b d).1,(O b d).2.2⟩) a2 (fun p F=>by cases F) aa (fun b _ _=>by rw[l];exact rK _),fun o b g=> ?_⟩;rw[St.L_newL]at g;by_cases M:o=st.nx
    . subst M;rw[C0,qL rfl]at g;exact s b g
    . rw[qH M,C5 _ _ _ _ M]at g;obtain⟨q,H,I⟩:=c.own o b g;exact⟨q,a7 q H,I⟩
   rcases af with⟨q,rfl,ah,U⟩ | ⟨V,a6⟩
   . have J:M8 (.ownR t i j::r) (.row q::cs)=q::M8 r cs:=rfl;rw[J]at u A⊢;have D:=sJ.1 A;refine⟨q::a,mk _ (fun y n=>qK _ n) (fun b d=>⟨q,by simp,U b d⟩) (fun k b d=> ?_),fun y n=> ?_,D.2,fun y=>by grind⟩
     . exact c.disj f (u q (by simp)) k b (U b d)
     . intro N;rcases qU.1 N with rfl|N
       . exact D.1 n
       . exact u y (qK _ n) N
   . have J:M8 (.ownR t i j::r) (G::cs)=M8 r cs:=by cases G<;>first|rfl|exact absurd rfl (a6 _)
     rw[J]at u A⊢;exact⟨a,mk _ (fun y n=>n) (fun b d=>absurd d (V b)) (fun k b d=>absurd d (V b)),u,A,fun y=>xP⟩
  obtain⟨h,W,a8,D,a4⟩:=ad;obtain⟨BX',P,X,Y,Q,R,a0⟩:=Pz l f W ab ac a8 D (fun o g k z=>by
   obtain⟨d,b⟩:=a3 o (qK _ g) k z;exact⟨uG d,(C5 _ _ _ _ (tX d)).trans b⟩)
  have a1:BX' st.nx=v:=by rw[Q st.nx (rN _),C0]
  refine⟨BX',⟨P.rel,fun o b g=> ?_⟩,⟨v,ag,rfl,a1.symm,X⟩,fun q s=> ?_,fun k z=> ?_,qX (uU _) R,a0⟩
  . obtain⟨q,H,I⟩:=P.own o b g;exact⟨q,(a4 q).2 H,I⟩
  . rcases qU.1 s with rfl|s
    . exact rC (rN _) R
    . exact Y q s
  . rw[Q k (uG z),C5 _ _ _ _ (tX z)]
 | .own t i::r,T,tl,D::cs,vs,p,st,BX,a,c,⟨v,ai,e,aa,ac⟩,U,s,y,a4=>by
  simp only[W3,bind_some,qJ]at U;obtain⟨M,a6,am,ad,rfl⟩:=U;subst e;obtain⟨aj,A,af,ag,ah⟩:=LO f aa a6;have ab:v.oneCell'=true:=by rcases A.2 with⟨V,_⟩ | ⟨_,_,_,V,_⟩<;>rw[V]<;>rfl
  have ak:=D8 A;have ae:∃h,Hg za w0 st2 E w Z B h (st.newL (.row t i M)) (upd BX st.nx v)/\(∀q∈M8 r cs,q∉h)/\(M8 r cs).Nodup/\(∀q,q∈M8 (.own t i::r) (D::cs)++a↔q∈M8 r cs++h):=by
   have mk:∀h,(∀q∈a,q∈h)->(∀b,root v=some b->∃q,q∈h/\A9 w (B q) (st2.L q) b)->(∀k b,root v=some b->¬A9 w (BX k) (st.L k) b)->Hg za w0 st2 E w Z B h (st.newL (.row t i M)) (upd BX st.nx v):=by
    intro h a8 o a3;refine⟨c.rel.new (v:=v) (lc:= .row t i M) ⟨aj,by rw[C0];exact Kh A (rK _),af,fun b d=>by rw[C0]at d;exact⟨.inl ⟨c.rel.nms.2,(World.ownsRow.lt A b d).1⟩,ag b d⟩⟩ a3 trivial ab (fun b _ _=>by rw[l];exact rK _),fun n b g=> ?_⟩;rw[St.L_newL]at g;by_cases I:n=st.nx
    . subst I;rw[C0,qL rfl]at g;exact o b g
    . rw[qH I,C5 _ _ _ _ I]at g;obtain⟨q,F,G⟩:=c.own n b g;exact⟨q,a8 q F,G⟩
   rcases ah with⟨q,rfl,Q,W⟩ | ⟨R,a7⟩
   . have H:M8 (.own t i::r) (.row q::cs)=q::M8 r cs:=rfl;rw[H]at s y⊢;have z:=sJ.1 y;refine⟨q::a,mk _ (fun x j=>qK _ j) (fun b d=>⟨q,by simp,A9.of Q (by rw[<-W];exact d)⟩) (fun k b d=> ?_),fun x j=> ?_,z.2,fun x=>by grind⟩
     . rw[W]at d;exact c.disj f (s q (by simp)) k b (A9.of Q d)
     . intro J;rcases qU.1 J with rfl|J
       . exact z.1 j
       . exact s x (qK _ j) J
   . have H:M8 (.own t i::r) (D::cs)=M8 r cs:=by cases D<;>first|rfl|exact absurd rfl (a7 _)
     rw[H]at s y⊢;exact⟨a,mk _ (fun x j=>j) (fun b d=>by rw[R]at d;cases d) (fun k b d=>by rw[R]at d;cases d),s,y,fun x=>xP⟩
  obtain⟨h,X,a9,z,a5⟩:=ae;obtain⟨BX',N,Y,a0,O,P,a1⟩:=Pz l f X ac ad a9 z (fun n g k u=>by
   obtain⟨d,b⟩:=a4 n (qK _ g) k u;exact⟨uG d,(C5 _ _ _ _ (tX d)).trans b⟩)
  have a2:BX' st.nx=v:=by rw[O st.nx (rN _),C0]
  refine⟨BX',⟨N.rel,fun n b g=> ?_⟩,⟨v,ai,rfl,a2.symm,Y⟩,fun q o=> ?_,fun k u=> ?_,qX (uU _) P,a1⟩
  . obtain⟨q,F,G⟩:=N.own n b g;exact⟨q,(a5 q).2 F,G⟩
  . rcases qU.1 o with rfl|o
    . exact rC (rN _) P
    . exact a0 q o
  . rw[O k (uG u),C5 _ _ _ _ (tX u)]
end
section
variable {za:Zn} {w0 w:World} {Z:Nat->Prop} {B:Nat->Value} {st st0 st2:St} {E:G9}
def QE (E:G9):List (Nat×Bool×List Tz)->List Value->List Value->Prop
 | [],b,a=>b=a
 | (s,b,shs)::l,f,d=>∃a c,f=a++c/\a.length=shs.length/\(b=true->E s= .agg a.toArray)/\(b=false->a= [E s])/\QE E l c d
def bU (za:Zn) (w0:World) (w:World) (Z:Nat->Prop) (B:Nat->Value) (st2:St):List (Nat×TypeId×List Tz)->List Value->Prop
 | [],a=>a= []
 | (k,T,shs)::l,d=>∃a c,d=a++c/\a.length=shs.length/\live (st2.L k)/\(∃b,B k= .pointer (some ⟨b,0,none⟩)/\up za w0 k b/\¬Z b/\JN w b a.toArray T)/\bU za w0 w Z B st2 l c
def ZH (f:C3 za w0 st2 E w Z B):∀ {l:List (Nat×Bool×List Tz)} {r cs:List C} {b:List Value},Cm w Z B r b->cR st2 l r=some cs->∃vs,Cm w Z B cs vs/\QE E l vs b
 | [],r,cs,b,a,h=>by cases h;exact⟨b,a,rfl⟩
 | (s,z,shs)::l,r,cs,b,x,h=>by
  simp only[cR]at h;split at h
  . rename_i n o y;obtain⟨c,h⟩:=D7 h;simp only[qJ]at h;obtain⟨A,t,rfl⟩:=h;simp only[qC,g1b]at c;obtain⟨u,c⟩:=c;subst u;have j:=qD c;obtain⟨d,g,i⟩:=ZH f x t;have a:=f.slots s;rw[y]at a;cases n with
    |true=>
     obtain⟨k,e,a⟩:=a;exact⟨k++d,a.append g,k,d,rfl,by rw[<-j,a.len],fun _=>e,fun v=>(by cases v),i⟩
    |false=>
     have a:Cm w Z B o [E s]:=a;exact⟨[E s]++d,a.append g,[E s],d,rfl,by rw[<-j,a.len],fun k=>(by cases k),fun _=>rfl,i⟩
  . cases h
def ZG (b:C3 za w0 st2 E w Z B):∀ {l:List (Nat×TypeId×List Tz)} {cs:List C},cQ st2 l=some cs->∃vs,Cm w Z B cs vs/\bU za w0 w Z B st2 l vs
 | [],cs,h=>by cases h;exact⟨[],rfl,rfl⟩
 | (v,T,shs)::l,cs,h=>by
  simp only[cQ]at h;split at h
  . rename_i T' x f;obtain⟨a,h⟩:=D7 h;simp only[qJ]at h;obtain⟨y,j,rfl⟩:=h;simp only[qC]at a;have t:=qD a.1;subst t;have u:=qD a.2;obtain⟨g,k,n⟩:=ZG b j;have d:=b.locs v;rw[f]at d;obtain⟨i,vs,e,o,r,s,c⟩:=d;exact⟨vs.toList++g,c.append k,vs.toList,g,rfl,by rw[<-u,c.len],by rw[f];trivial,⟨i,e,o,r,by simpa using s⟩,n⟩
  . cases h
def aP {k:Nat} {t:Ty} {e e':TypeId} {x:List t.den×List Nat} (a:oZ st2 t e e' k=some x):st2.L k= .nest t e e' x.1 [] x.2:=by
 unfold oZ at a;split at a
 . rename_i j f g i h d;split at a
   . rename_i c;subst c;obtain⟨b,a⟩:=D7 a;cases a;simp only[qC]at b;rw[d,qD b.1,qD b.2]
   . cases a
 . cases a
def SY {k q:Nat} {c f:Bool} {d g:Ty} {x:(LT.itM c d f g q).den} (a:oT st2 k (.itM c d f g q)=some x):∃cur,st2.L k= .itM c d f g x.1 x.2 cur q/\q<k:=by
 simp only[oT]at a;split at a
 . rename_i l n r s j left cur o i;obtain⟨b,a⟩:=D7 a;simp only[qC]at b;split at a
   . rename_i h;cases h;cases a;have:=qD b.1;subst this;exact⟨cur,i,qO b.2⟩
   . cases a
 . cases a
def aC {k q:Nat} {t:LT} {x:t.den} (b:oT st2 k t=some x) (a:t.need=some q):q<k:=by
 cases t with
 |itM c d g h f=>cases a;exact(SY b).choose_spec.2
 | _=>cases a
def HD (b:C3 za w0 st2 E w Z B) {k:Nat} {t:LT} {x:t.den} (a:oT st2 k t=some x):live (st2.L k)/\RL (up za w0 k) w Z B k (t.lc x)/\t.wf x:=by
 cases t with
 |row t e=>
  have d:=Hr a;have c:=b.locs k;rw[d]at c;refine⟨by rw[d];trivial,c, ?_⟩;obtain⟨h,f,g,_⟩:=c;exact C6.wf (Bh (Z:=fun _=>True) f (g.mono fun _ _=>C6.mono (fun _ _=>trivial) (fun _ _=>rfl)) (fun _ _=>trivial))
 |map n o r s=>
  have d:=PR a;have c:=b.locs k;rw[d]at c;refine⟨by rw[d];trivial,c, ?_⟩;obtain⟨i,l,j,e,_,_,f,h,g⟩:=c;exact C6.wf (eG (Z:=fun _=>True) f h (g.mono (fun _ _=>trivial) (fun _ _=>rfl)) trivial)
 |rows t e o=>
  obtain⟨al,d⟩:=W4 a;have f:=b.locs k;have c:=f;rw[d]at c;have c:=c.rowsR;refine⟨by rw[d];trivial,c.rl fun j l=> ?_,c.wf⟩;have n:A9 w (B k) (st2.L k) j:=by rw[d];exact(T5 fun _ _=>rfl).1 l
  obtain⟨g,h,i⟩:=f.root n;exact⟨g,i,h⟩
 |iter J N P R=>
  simp only[oT]at a;cases d:st2.L k with
  |iter M O Q T I H=>
   rw[d]at a;simp only at a;split at a
   . rename_i D;cases D;cases a;have l:=b.locs k;rw[d]at l;obtain⟨G,e,z,A,j⟩:=l;refine⟨trivial,⟨G,e,z,A,j.imp (fun h=>⟨h.1,h.2.1,rfl⟩) fun⟨m,seen,i,g,n,o,r,s,f,F⟩=>⟨m,seen,i,g,n,o,r,s,f,fun x c=>by cases c⟩⟩, ?_⟩;rcases j with⟨_,h,_⟩ | ⟨m,seen,i,g,n,o,r,s,f,F⟩
     . rw[h];intro x c;cases c
     . intro x c;obtain⟨m,_,u,v⟩:=R6.mem f c;exact⟨S2.wf' (fun _ _=>C6.wf) u,S2.wf' (fun _ _=>C6.wf) v⟩
   . cases a
  | _=>rw[d]at a;cases a
 |nest t e h=>
  have d:=aP a;have c:=b.locs k;rw[d]at c;refine⟨by rw[d];trivial,c, ?_⟩;obtain⟨l,g,_⟩:=c;rcases g.own.2 with⟨_,j⟩ | ⟨_,_,_,_,_,_,i,f,_⟩
  . show x.1.length<= _;omega
  . show x.1.length<= _;simp only[maxLen]at f;omega
 |itM D F G H q=>
  obtain⟨A,f,_⟩:=SY a;have d:=b.locs k;rw[f]at d;obtain⟨z,m,seen,j,g,h,i,c,o,r,s,u⟩:=d;refine⟨by rw[f];trivial,⟨z,m,seen,j,g,h,i,⟨c.it,c.mp,c.ok,c.all,c.rest,fun x v=>(by cases v)⟩,o,r,s,u⟩,fun y hy=> ?_⟩;obtain⟨m,_,l,n⟩:=R6.mem c.rest hy;exact⟨S2.wf' (fun _ _=>C6.wf) l,S2.wf' (fun _ _=>C6.wf) n⟩
def RL.setB {U:Nat->Prop} {B':Nat->Value} {k:Nat} {t:LT} {x:t.den} (h:RL U w Z B k (t.lc x)) (e:B' k=B k) (d:∀q,t.need=some q->B' q=B q):RL U w Z B' k (t.lc x):=by
 cases t with
 |nest t g i=>
  obtain⟨f,a,b⟩:=h;exact⟨f,⟨by rw[e];exact a.own,fun p c=>(by cases c),a.elt,a.dis,by rw[e];exact a.top⟩,by rw[e];exact b⟩
 |itM i j l n q=>
  obtain⟨r,m,seen,f,a,b,c,g⟩:=h;exact⟨r,m,seen,f,a,e.trans b,(d q rfl).trans c,g⟩
 |row t g=>obtain⟨f,a,b,c⟩:=h;exact⟨f,by rw[e];exact a,b,by rw[e];exact c⟩
 |map g i j l=>obtain⟨b,f,c,a,r⟩:=h;exact⟨b,f,c,e.trans a,r⟩
 |iter c f g i=>obtain⟨r,a,b⟩:=h;exact⟨r,e.trans a,b⟩
 |rows t l n=>
  obtain⟨j,a,⟨o,b,c⟩,f,g⟩:=h;exact⟨j,by rw[e];exact a,⟨fun p i=>(by cases i),b,c⟩,by rw[e];exact f,by rw[e];exact g⟩
def B3i (c:C3 za w0 st2 E w Z B) {k b:Nat} {t:LT} {x:t.den} (a:oT st2 k t=some x) (h:A9 w (B k) (t.lc x) b):A9 w (B k) (st2.L k) b:=by
 cases t with
 |row t e=>exact A9.of (HD c a).1 h
 |map d f g i=>exact A9.of (HD c a).1 h
 |iter d f g i=>exact A9.of (HD c a).1 h
 |rows t e f=>
  obtain⟨al,d⟩:=W4 a;rw[d];exact(T5 fun _ _=>rfl).1 h
 |nest t e d=>rw[aP a];exact h
 |itM g i j l q=>obtain⟨f,d,_⟩:=SY a;rw[d];exact h
def UQ (d:C3 za w0 st2 E w Z B) {BX:Nat->Value} {n0:Nat} (s:∀k,k<n0->BX k=B k):∀ {l:List (Nat×LT)} {x:lJ l} {st:St} {c:List Nat},Hg za w0 st2 E w Z B c st BX->n0<=st.nx->A5b st2 l=some x->(∀y∈l,y.1<n0)->(∀y∈l,y.1∉c)->(l.map fun y=>y.1).Nodup->
 Hg za w0 st2 E w Z B ((l.map fun y=>y.1)++c) (putRows l x st) BX/\(putRows l x st).nx=st.nx
 | [],_,st,c,a,_,_,_,_,_=>⟨a,rfl⟩
 | (k,t)::Q,x,st,c,o,H,n,G,I,v=>by
  simp only[A5b,bind_some,qJ]at n;obtain⟨l,i,R,O,rfl⟩:=n;have h:=G (k,t) (by simp);have F:=I (k,t) (by simp);simp only at h F;obtain⟨P,J,_⟩:=HD d i;have D:BX k=B k:=s k h;simp only[rW,sJ]at v;have u:∀b,A9 w (BX k) (t.lc l) b->A9 w (B k) (st2.L k) b:=fun b f=>B3i d i (by rw[<-D];exact f)
  have c1:Hg za w0 st2 E w Z B (k::c) (st.setL k (t.lc l)) BX:=by
   refine⟨o.rel.addL (by omega) (J.setB D fun q N=>s q (Nat.lt_trans (aC i N) h)) (fun j b _ f a=> ?_) (by cases t<;>first|trivial|exact fun p n=>(by cases n) |exact rC (Nat.lt_trans (aC i rfl) h) H) (fun b hk f=>d.mrk.2 k b hk (u b f)),fun j b a=> ?_⟩
   . exact o.disj d F j b (u b f) a
   . rw[St.L_setL]at a;by_cases g:j=k
     . subst g;rw[qL rfl]at a;exact⟨j,by simp,u b a⟩
     . rw[qH g]at a;obtain⟨q,A,r⟩:=o.own j b a;exact⟨q,qK _ A,r⟩
  obtain⟨z,M⟩:=UQ d s c1 H O (fun y hy=>G y (qK _ hy)) (fun y hy=>by
   intro g;rcases qU.1 g with g|g
   . exact v.1 (g▸vQ hy)
   . exact I y (qK _ hy) g) v.2
  refine⟨⟨z.rel,fun j b a=> ?_⟩,M⟩;obtain⟨q,A,r⟩:=z.own j b a;refine⟨q, ?_,r⟩;simp only[rW];grind
def A2l {BX:Nat->Value} :∀ {l:List (Nat×Bool×List Tz)} {cs:List C} {vs d:List Value} {st:St} {b:List Nat},Hg za w0 st2 E w Z B b st BX->Cm w Z BX cs vs->QE E l vs d->(∀c∈cs,Bw st.nx c)->
 Hg za w0 st2 E w Z B b (putS l cs st).2 BX/\Cm w Z BX (putS l cs st).1 d/\(∀c∈(putS l cs st).1,Bw st.nx c)/\(putS l cs st).2.nx=st.nx
 | [],cs,vs,d,st,b,c,a,g,f=>by rw[show vs=d from g]at a;exact⟨c,a,f,rfl⟩
 | (s,f,shs)::l,cs,vs,d,st,b,c,j,⟨t,u,e,h,n,o,r⟩,i=>by
  subst e;have a:=j.take shs.length;have g:=j.drop shs.length;rw[<-h,g2z]at a;rw[<-h,g2x]at g;rw[h]at a g;have k:RS w Z BX ⟨f,cs.take shs.length⟩ (E s):=by
   cases f with
   |true=>exact⟨t,n rfl,a⟩
   |false=>rw[o rfl]at a;exact a
  have c1:Hg za w0 st2 E w Z B b (st.setS s (.one ⟨f,cs.take shs.length⟩)) BX:=⟨c.rel.setSame s k (fun x hx=>i x (sC hx)),c.own⟩;have:=A2l (l:=l) (cs:=cs.drop shs.length) c1 g r (fun x hx=>i x (vK hx));exact this
def A2k (g:C3 za w0 st2 E w Z B) {BX:Nat->Value} {n0:Nat} (s:∀k,k<n0->BX k=B k):∀ {l:List (Nat×TypeId×List Tz)} {cs:List C} {vs:List Value} {st:St} {f:List Nat},Hg za w0 st2 E w Z B f st BX->n0<=st.nx->Cm w Z BX cs vs->bU za w0 w Z B st2 l vs->(∀c∈cs,Bw st.nx c)->(∀y∈l,y.1<n0)->(∀y∈l,y.1∉f)->(l.map fun y=>y.1).Nodup->
 C3 za w0 (putB l cs st) E w Z BX
 | [],_,_,st,f,c,_,_,_,_,_,_,_=>c.rel
 | (k,T,shs)::l,cs,vs,st,f,c,Q,F,⟨W,X,e,i,P,⟨H,I,M,R,N⟩,U⟩,u,D,G,n=>by
  subst e;have b:=F.take shs.length;have d:=F.drop shs.length;rw[<-i,g2z]at b;rw[<-i,g2x]at d;rw[i]at b d;have z:=D (k,T,shs) (by simp);have A:=G (k,T,shs) (by simp);simp only at z A;have t:BX k=B k:=s k z;simp only[rW,sJ]at n;have h:∀q,A9 w (BX k) (.box T (cs.take shs.length)) q->A9 w (B k) (st2.L k) q:=fun q o=>A9.of P (by rw[<-t];exact o)
  have c1:Hg za w0 st2 E w Z B (k::f) (st.setL k (.box T (cs.take shs.length))) BX:=by
   refine⟨c.rel.addL (by omega) ⟨H,W.toArray,t.trans I,M,R,N,by simpa using b⟩ (fun j q _ o a=> ?_) (fun x r=>u x (sC r)) (fun q O J=>g.mrk.2 k q O (h q J)),fun j q a=> ?_⟩
   . exact c.disj g A j q (h q o) a
   . rw[St.L_setL]at a;by_cases v:j=k
     . subst v;rw[qL rfl]at a;exact⟨j,by simp,h q a⟩
     . rw[qH v]at a;obtain⟨V,b,d⟩:=c.own j q a;exact⟨V,qK _ b,d⟩
  have:=A2k (l:=l) (cs:=cs.drop shs.length) g s c1 Q d U (fun x r=>u x (vK r)) (fun y hy=>D y (qK _ hy)) (fun y hy=>by
   intro a;rcases qU.1 a with a|a
   . exact n.1 (a▸vQ hy)
   . exact G y (qK _ hy) a) n.2
  exact this
def Jo (a:C3 za w0 st2 E w Z B):∀ {shs:List Tz} {T:Type} {tl:T} {q:T->Prop} {cs:List C} {vs:List Value} {p:shD shs T},q tl->Cm w Z B cs vs->W3 st2 shs tl cs=some p->shW shs q p
 | [],_,tl,q,[],vs,p,c,_,b=>by simp only[W3,rB]at b;subst b;exact c
 | [],_,_,_,_:: _,_,_,_,_,b=>by cases b
 | .val t::r,_,_,_,[],_,_,_,_,b=>by cases b
 | .own t e::r,_,_,_,[],_,_,_,_,b=>by cases b
 | .ownR t e c::r,_,_,_,[],_,_,_,_,b=>by cases b
 | .fix k::r,_,_,_,[],_,_,_,_,b=>by cases b
 | .fixB k::r,_,_,_,[],_,_,_,_,b=>by cases b
 | .fixB k::r,_,tl,q,f::cs,vs,p,d,⟨v,h,_,g,c⟩,b=>by
  simp only[W3]at b;exact Jo (shs:=r) a d c (D7 b).2
 | .fix k::r,_,tl,q,f::cs,vs,p,d,⟨v,h,_,g,c⟩,b=>by
  simp only[W3]at b;exact Jo (shs:=r) a d c (D7 b).2
 | .val t::r,_,tl,q,i::cs,vs,p,f,⟨v,j,e,c,d⟩,b=>by
  simp only[W3,bind_some,qJ]at b;obtain⟨y,g,z,h,rfl⟩:=b;exact⟨C6.wf (cF c g),Jo a f d h⟩
 | .own t e::r,_,tl,q,k::cs,vs,p,g,⟨v,n,_,c,d⟩,b=>by
  simp only[W3,bind_some,qJ]at b;obtain⟨l,f,z,h,rfl⟩:=b;obtain⟨o,i,j,_⟩:=LO a c f;exact⟨C6.wf (Bh (Z:=fun _=>True) i (j.mono fun _ _=>C6.mono (fun _ _=>trivial) (fun _ _=>rfl)) (fun _ _=>trivial)),Jo a g d h⟩
 | .ownR t e j::r,_,tl,q,i::cs,vs,p,g,⟨v,k,_,c,d⟩,b=>by
  simp only[W3,bind_some,qJ]at b;obtain⟨l,f,z,h,rfl⟩:=b;exact⟨Bd.wf (lO a c f).1,Jo a g d h⟩
def A2r (a:C3 za w0 st2 E w Z B):∀ {l:List (Nat×LT)} {x:lJ l},A5b st2 l=some x->B8a l x
 | [],_,_=>trivial
 | (k,t)::r,x,b=>by
  simp only[A5b,bind_some,qJ]at b;obtain⟨l,c,z,d,rfl⟩:=b;exact⟨(HD a c).2.2,A2r a d⟩
def A1u {A:CW} {p:A.den} {o:St} (F:za.b0=0) (h:C3 za w0 st E w Z B) (g:gath A st=some (o,p)) (ab:B1x za.n st0) (a0:∀s∈A.keepS,o.eS s=st0.eS s) (X:∀k∈A.keepL,o.eL k=st0.eL k) (Y:∀y∈A.rowL,y.1<st0.nx) (W:o.fr=st0.fr):
 A.wf p/\∃Z' B',C3 za w0 (reflect A st0 p) E w Z' B':=by
 simp only[gath,qG,bind_some]at g;obtain⟨u,_,cs,j,tl,I,af,G,g⟩:=g;obtain⟨f,g⟩:=D7 g;cases g;simp only[qC,tO]at f;obtain⟨f,a5⟩:=f;obtain⟨Z0,V⟩:=h.plugL F (l:=A.rowL);obtain⟨Z1,d⟩:=C3.settleSh (shs:=A.shs) (cs:=u) V;generalize settleSh (plugL A.rowL st) A.shs u=st2 at*;have f:=Hm f;simp only[CW.cells,bind_some]at j;obtain⟨ac,a4,j⟩:=j;obtain⟨ag,a2,a3⟩:=ZG d a4;obtain⟨ah,H,a6⟩:=ZH d a2 j;refine⟨Jo d (A2r d I) H G, ?_⟩;have O:=B6l d ab a0 X W;have D:∀y∈A.rowL,y.1<A5q A.boxL st0.nx:=fun y b=>rC (Y y b) (Mo _ _)
 rw[tK]at f;obtain⟨ae,J,r⟩:=f;rw[tK]at J;obtain⟨a7,M,N⟩:=J;rw[tK]at M;obtain⟨a8,a9,aa⟩:=M;obtain⟨BX,P,Q,R,T,v,U⟩:=Pz F d O H G (fun q hq hk=>r q hk q (by simp[hq]) rfl) a7 (fun c hc k hk=>by
  have:=a5 _ hc;cases c with
  |fix ad=>
   cases hk;simp only[A7x,xR]at this;obtain⟨y,b,a1⟩:=this;have:=qD a1;subst this;exact⟨D y b,rfl⟩
  |fixB ad=>
   cases hk;simp only[A7x,xR]at this;obtain⟨y,b,a1⟩:=this;have:=qD a1;subst this;exact⟨VI y b,rfl⟩
  | _=>cases hk)
 have z:∀k,k<A5q A.boxL st0.nx->BX k=B k:=T;have t:=UQ d z (x:=(placeSh A.shs p (kept A st0)).2.2) P v (by rw[U];exact I) D (fun y b a=>by
  rcases qZ.1 a with a|a
  . exact N y.1 a y.1 (by simp only[qZ,tS];exact .inl ⟨y,b,rfl⟩) rfl
  . exact r y.1 a y.1 (by simp only[qZ,tS];exact .inr (.inl ⟨y,b,rfl⟩)) rfl) a8
 have i:=A2l (l:=A.modS) t.1 Q a6 (by rw[t.2];exact R);refine⟨Z1,BX, ?_⟩;exact A2k d z i.1 (by rw[i.2.2.2,t.2];exact v) i.2.1 a3 (by rw[i.2.2.2];exact i.2.2.1) (fun y b=>VI y b) (fun y b a=>by
  rcases qZ.1 a with a|a
  . exact aa y.1 a y.1 (vQ b) rfl
  . rcases qZ.1 a with a|a
    . exact N y.1 a y.1 (by simp only[qZ,tS];exact .inr ⟨y,b,rfl⟩) rfl
    . exact r y.1 a y.1 (by simp only[qZ,tS];exact .inr (.inr ⟨y,b,rfl⟩)) rfl) a9
end
def addA (a:St) (d:Tmp) (lc:LC) (mk:Nat->C):St:=(a.newL lc).setS d (one1 (mk a.nx))
def JQ (cx:Cx) (a:St) (d:Tmp):Op->Option (Option Prop×LC×(Nat->C))
 | .alloc T=>do
  let ti<-cx.ti T
  some (none, .box T (Zi ti.ty),fun k=> .box k 0)
 | .makeSlice T c b=>do
  let ti<-cx.ti T
  let t<-slT ti.ty
  let l<-dX a c
  let c<-dX a b
  bif ti.nest.any (Nat.beq d)then do
   let a<-cx.ti ti.elem
   bif HW t then some (some (0<=l/\l<=c/\(ti.bytes:Int)*c<=281474976710656/\c<=9223372036854775807), .nest t ti.elem a.elem (List.replicate l.toNat t.dflt) [] (Nu t l.toNat), .row)else none
  else bif !ti.rows&&Pm t then some (some (0<=l/\l<=c/\(ti.bytes:Int)*c<=281474976710656/\c<=9223372036854775807), .row t ti.elem (List.replicate l.toNat t.dflt), .row)else none
 | _=>none
def A6l (lc:LC) (mk:Nat->C) (X:Obj) (f:Nat->Value):Prop:=
 ∀(d:Zn) (c w:World) (a:St) (E:G9) (Z:Nat->Prop) (B:Nat->Value) (h b:Nat),C3 d c a E w Z B->w.heap[b]? =some X->c.heap.size<=b->¬Z b->(∀k,¬A9 w (B k) (a.L k) b)->d.b0<=b->
  C3 d c (addA a h lc mk) (upd E h (f b)) w Z (upd B a.nx (f b))/\∀g,A9 w (f b) lc g->g=b
section
variable {za:Zn} {w0 w w':World} {st:St} {E:G9} {Z:Nat->Prop} {B:Nat->Value} {cx:Cx} {d:Tmp} {φ:Option Prop}
def C4.addA (st:St) (d:Tmp) (lc:LC) (mk:Nat->C):C4 st (addA st d lc mk):=(C4.newL _ _).trans (C4.setS _ _ _)
def B0d {a b e sz n c:Nat} {cs:Array Value} (h:w.heap[b]? =some (.cells cs e (0,0))) (g:a<=b) (d:cs.size=c*sz) (f:n<=c) (i:c<=maxLen):w.ownsRow a e sz (.slice (some ⟨b,0,none⟩) n c) n (cs.toList.take (n*sz)):=by
 refine⟨?_, .inr ⟨b,c,cs,rfl,g,h,f,i,d,rfl⟩⟩;rw[qY,sL,d];exact sZ (rI _ f)
def A3g {op:Op} {lc:LC} {mk:Nat->C} (h:C3 za w0 st E w Z B) (U:G2 cx.P cx.tys=true) (a:JQ cx st d op=some (φ,lc,mk)) (Y:HJ φ):
 ∃(X:Obj) (f:Nat->Value),(∀ty w',Gw.E5 cx.P E ty op w' (f w'.heap.size) (w'.alloc X))/\A6l lc mk X f:=by
 unfold JQ at a;split at a
 . simp only[qG,bind_some]at a;obtain⟨ti,I,a⟩:=a;cases a;obtain⟨z,J,k⟩:=Et (K9 (B9 U I)).2.2;rename_i T;refine⟨.cells z.cells T,fun b=> .pointer (some ⟨b,0,none⟩),fun ty w'=>A3a J,fun za w0 w st E Z B d b h i o A y s=> ?_⟩;have F:=Bm (w:=w) (Z:=Z) (B:=B) (n:=st.nx) (Cy ti.ty);have G:∀c,A9 w (.pointer (some ⟨b,0,none⟩)) (.box T (Zi ti.ty)) c->c=b:=fun c g=>by
    simp only[A9,root,rB]at g;exact g.symm
   have a7:=h.new (v:= .pointer (some ⟨b,0,none⟩)) (lc:= .box T (Zi ti.ty)) ⟨b,z.cells,C0 _ _ _, .inl ⟨h.nms.2,o⟩,A,i,
    Cm.mono (n:=st.nx) (fun _=>id) (fun _ _=>rfl) (fun a0 aa=>C5 _ _ _ _ (tX aa)) F.2 (by rw[k];exact F.1)⟩
    (fun a0 c g u=>y a0 (G c g▸u)) (fun c g=>(F.2 c g).le (uU _)) rfl (fun c _ g=>by rw[G c g];exact s)
   refine⟨a7.setS d (x:=one1 (.box st.nx 0)) ⟨_,[],rfl,⟨b,C0 _ _ _,rfl⟩,rfl⟩ (fun c g=> ?_),G⟩;simp at g;subst g;exact rN _
 . rename_i T ai a4;simp only[qG,bind_some]at a;obtain⟨ti,I,t,H,l,ab,c,g,a⟩:=a;have H:=Hy H;have a1:∀ {φ':Option Prop},HJ (some (0<=l/\l<=c/\(ti.bytes:Int)*c<=281474976710656/\c<=9223372036854775807))->∃z:Value,z.cells.toList=Cy t/\z.cells.size=t.size/\l.toNat<=c.toNat/\c.toNat<=maxLen/\∀ty w',Gw.E5 cx.P E ty (.makeSlice T ai a4) w' (.slice (some ⟨w'.heap.size,0,none⟩) l.toNat c.toNat) (w'.alloc (.cells (madeCells z.cells (c.toNat*t.size)) ti.elem)):=by
    intro _ ⟨D,M,N,O⟩;obtain⟨a5,z,a2,Q,J,W,k,a3,i,a9⟩:=Fc (B9 U I) H;obtain⟨a6,j,_⟩:=h.int (F1 E) ab;obtain⟨a8,r,_⟩:=h.int (F1 E) g;refine⟨z,k,a3,by omega,by simp only[maxLen];omega,fun ty w'=> ?_⟩;have V:=run_make (P:=cx.P) w' T ti.elem a5 z a2 Q J a6 a8 l c D M (by rw[i];exact N) O;rw[<-W];exact fun _ _ _ _=>by simp[execOp,j,r,V]
   cases R:ti.nest.any (Nat.beq d)with
   |true=>
    simp only[R,qV,qG,bind_some]at a;obtain⟨aj,_,a⟩:=a;cases D:HW t with
    |false=>simp only[D,rF]at a;cases a
    |true=>
     simp only[D,qV]at a;cases a;obtain⟨z,k,ah,ac,ad,W⟩:=a1 (φ':=none) Y;obtain⟨ag,N,V⟩:=aV D;rw[ag]at ah W;refine⟨_,fun b=> .slice (some ⟨b,0,none⟩) l.toNat c.toNat,W,fun za w0 w st E Z B d b h i o A y s=> ?_⟩;generalize Q:madeCells z.cells (c.toNat*1)=O at i;have a8:O.size=c.toNat*1:=by rw[<-Q];simp[madeCells]
     have af:=B0d (sz:=1) i o a8 ac ad;have ae:∀x∈O.toList.take (l.toNat*1),x=N:=fun x j=>by
      have j:=sC j;rw[<-Q]at j;simp only[madeCells,g1n,tS]at j;obtain⟨M,_,rfl⟩:=j;have r:z.cells.toList= [N]:=k.trans V;have a2:z.cells= #[N]:=by rw[<-tU (xs:=z.cells),r]
      rw[a2];simp[g4q]
     obtain⟨ak,am⟩:=aW D V.symm;obtain⟨a5,a6⟩:=h.newNestE d (t:=t) (e':=aj.elem) (dd:=Nu t l.toNat) af (fun M x j=>by
      have:=ae x (sW j);subst this;have a9:M<l.toNat:=by have:=(sM.1 j).1;rw[qY]at this;omega
      exact⟨ak,am _ _ _ M _ a9⟩) (fun a2 r=>by
      simp only[Value.ownBlock,rB]at r;subst r;exact⟨A,y⟩) (fun a2 _ r=>by simp only[Value.ownBlock,rB]at r;subst r;exact s)
     exact⟨a5,fun a3 u=>by have:=a6 a3 u;simp only[Value.ownBlock,rB]at this;exact this.symm⟩
   |false=>
    simp only[R,rF]at a;cases r: !ti.rows&&Pm t with
    |false=>simp only[r,rF]at a;cases a
    |true=>
     simp only[r,qV]at a;cases a;simp only[qC]at r;obtain⟨z,k,a5,M,W,a3⟩:=a1 (φ':=none) Y;refine⟨_,fun b=> .slice (some ⟨b,0,none⟩) l.toNat c.toNat,a3,fun za w0 w st E Z B d b h i o A y s=> ?_⟩;have D:G1 (C6 t w Z) ((madeCells z.cells (c.toNat*t.size)).toList.take (l.toNat*t.size)) (List.replicate l.toNat t.dflt):=KS k r.2 a5 _ _ M;generalize Q:madeCells z.cells (c.toNat*t.size)=O at i D;have V:O.size=c.toNat*t.size:=by rw[<-Q];simp[madeCells]
     have a2:=B0d i o V M W;refine⟨h.newRowE d (t:=t) (e:=ti.elem) (l:=List.replicate l.toNat t.dflt) (by rw[rM];exact a2) D (fun N j=>by
      simp only[Value.ownBlock,rB]at j;subst j;exact⟨A,y⟩) (fun N _ j=>by simp only[Value.ownBlock,rB]at j;subst j;exact s),fun a6 u=> ?_⟩
     have:=u;simp only[A9,root,rB]at this;exact this.symm
 . cases a
end
def CH (cx:Cx) (all:List Oper) (a:St):List Nat->(St->Prop)->St->Prop
 | [],k=>k
 |i::r,k=>fun b=>match all[i]? with
  |some o=>match JQ cx a (Eu all i) o.op with
   |some (c,lc,mk)=>XN c (CH cx all a r k (addA b (Eu all i) lc mk))
   |none=>False
  |none=>False
def A0t (all:List Oper) (f:Nat->Nat->Value) (bl:Nat->Nat):List Nat->G9->G9
 | [],E=>E
 |i::r,E=>A0t all f bl r (upd E (Eu all i) (f i (bl i)))
section
variable {za:Zn} {w0 w w':World} {Z:Nat->Prop} {cx:Cx} {all:List Oper} {st0:St} {k k':St->Prop} {f:Nat->Nat->Value} {X:Nat->Obj} {bl:Nat->Nat}
def bJ:∀ {ls:List Nat} {c:St},CH cx all st0 ls k c->∀i∈ls,∃o φ lc mk,all[i]? =some o/\JQ cx st0 (Eu all i) o.op=some (φ,lc,mk)/\HJ φ
 | [],_,_,_,h=>by cases h
 |i::r,c,a,j,b=>by
  simp only[CH]at a;split at a
  . rename_i o h;split at a
    . rename_i φ lc mk g;obtain⟨d,f⟩:=E6.1 a;rcases qU.1 b with rfl|b
      . exact⟨o,φ,lc,mk,h,g,d⟩
      . exact bJ f j b
    . exact a.elim
  . exact a.elim
def UY:∀ {ls:List Nat} {a:St},CH cx all st0 ls k a->(∀b,C4 a b->k b->k' b)->CH cx all st0 ls k' a
 | [],a,h,c=>c a (C4.refl a) h
 |i::r,a,h,c=>by
  simp only[CH]at h⊢;split at h
  . split at h
    . exact E6.2 ⟨(E6.1 h).1,UY (E6.1 h).2 fun b e a=>c b ((C4.addA _ _ _ _).trans e) a⟩
    . exact h
  . exact h
def FB {x:Nat} :∀ {l:List Nat} {E:G9},x∉Z8 all l->A0t all f bl l E x=E x
 | [],_,_=>rfl
 |i::l,E,h=>by
  simp only[Z8,rW,qU,g4u]at h;simp only[A0t];rw[FB h.2,C5 _ _ _ _ h.1]
def mM {i:Nat} :∀ {l:List Nat} {E:G9},(Z8 all l).Nodup->i∈l->A0t all f bl l E (Eu all i)=f i (bl i)
 | [],_,_,h=>by cases h
 |j::l,E,b,h=>by
  simp only[Z8,rW]at b;obtain⟨c,d⟩:=sJ.1 b;simp only[A0t];by_cases a:i∈l
  . exact mM d a
  . rcases qU.1 h with rfl|h
    . rw[FB c,C0]
    . exact absurd h a
def lX:∀ {ls:List Nat} {a:St} {E:G9} {B:Nat->Value},C3 za w0 a E w Z B->(∀i∈ls,∀o φ lc mk,all[i]? =some o->JQ cx st0 (Eu all i) o.op=some (φ,lc,mk)->A6l lc mk (X i) (f i))->
 (∀i∈ls,w.heap[bl i]? =some (X i)/\w0.heap.size<=bl i/\¬Z (bl i)/\za.b0<=bl i/\∀k,¬A9 w (B k) (a.L k) (bl i))->(∀i∈ls,∀j∈ls,i≠j->bl i≠bl j)->ls.Nodup->CH cx all st0 ls k a->∃s B',C3 za w0 s (A0t all f bl ls E) w Z B'/\k s
 | [],a,E,B,h,_,_,_,_,b=>⟨a,B,h,b⟩
 |i::T,a,E,B,M,r,g,n,O,b=>by
  simp only[CH]at b;obtain⟨Q,R⟩:=sJ.1 O;split at b
  . rename_i o P;split at b
    . rename_i φ lc mk h;obtain⟨_,b⟩:=E6.1 b;obtain⟨v,x,y,z,A⟩:=g i (rJ);obtain⟨I,J⟩:=r i rJ o φ lc mk P h za w0 w a E Z B (Eu all i) (bl i) M v x y A z;refine lX (ls:=T) (E:=upd E (Eu all i) (f i (bl i))) I (fun j c=>r j (qK _ c)) (fun j c=> ?_) (fun t h u g=>n t (qK _ h) u (qK _ g)) R b;obtain⟨c1,D,F,G,H⟩:=g j (qK _ c);refine⟨c1,D,F,G,fun q d=> ?_⟩;have N:(addA a (Eu all i) lc mk).L q=(a.newL lc).L q:=rfl;rw[N,St.L_newL]at d;by_cases l:q=a.nx
      . subst l;rw[qL rfl,C0]at d;exact n i rJ j (qK _ c) (fun e=>Q (e▸c)) (J _ d).symm
      . rw[qH l,C5 _ _ _ _ l]at d;exact H q d
    . exact b.elim
  . exact b.elim
def bG:∀(l:List Nat) (E:G9) (w:World),l.Nodup->(Z8 all l).Nodup->P9 w (Ew all f X l E w).2/\∃bl:Nat->Nat,(∀i∈l,w.heap.size<=bl i/\(Ew all f X l E w).2.heap[bl i]? =some (X i)/\(Ew all f X l E w).1 (Eu all i)=f i (bl i))/\∀i∈l,∀j∈l,i≠j->bl i≠bl j
 | [],_,w,_,_=>⟨P9.refl w,fun _=>0,by simp,by simp⟩
 |i::r,E,w,z,o=>by
  obtain⟨D,F⟩:=sJ.1 z;simp only[Z8,rW]at o;obtain⟨s,t⟩:=sJ.1 o;obtain⟨n,bl,h,x⟩:=bG r (upd E (Eu all i) (f i w.heap.size)) (w.alloc (X i)) F t;have B:P9 w (w.alloc (X i)):=P9.alloc w _;have A:(w.alloc (X i)).heap.size=w.heap.size+1:=Array.size_push ..;simp only[Ew];refine⟨B.trans n,fun j=>if j=i then w.heap.size else bl j,fun j d=> ?_,fun a ha b hb hab=> ?_⟩
  . rcases qU.1 d with rfl|d
    . have y:(if j=j then w.heap.size else bl j)=w.heap.size:=qL rfl;show w.heap.size<=(if j=j then w.heap.size else bl j)/\(Ew all f X r _ _).2.heap[if j=j then w.heap.size else bl j]? = _ /\ _=f j (if j=j then w.heap.size else bl j);rw[y];refine⟨qR _, ?_,by rw[Gx _ _ _ s,C0]⟩;rw[n.block _ (by rw[A];exact rN _)];exact heap_alloc_new w _
    . have:j≠i:=fun e=>D (e▸d)
      simp only[qH this];obtain⟨G,u,v⟩:=h j d;exact⟨by omega,u,v⟩
  . simp only;have g:∀q,q∈i::r->q≠i->q∈r:=fun q hq hqi=>(qU.1 hq).resolve_left hqi
    by_cases c:a=i
    . rw[qL c,qH (fun e=>hab (c.trans e.symm))];have:=(h b (g b hb (fun e=>hab (c.trans e.symm)))).1;omega
    . rw[qH c];by_cases k:b=i
      . rw[qL k];have:=(h a (g a ha c)).1;omega
      . rw[qH k];exact x a (g a ha c) b (g b hb k) hab
end
structure K where
 n:St->Prop
 x:Nat->St->Prop
 r:St->Prop
def K.at (k:K):Exit->St->Prop
 | .normal=>k.n
 | .exit i=>k.x i
 | .ret=>k.r
 | _=>fun _=>False
structure An where
 join:List (Nat×CW):= []
 loop:List (Nat×CW):= []
 plan:List (Nat×List Nat×List Nat×Bool×Pl):= []
def lead:Code->Option Nat
 | .region id _ _=>some id
 | .seq a b=>match lead a with
  |some i=>some i
  |none=>lead b
 | .cond _ a b=>match lead a with
  |some i=>some i
  |none=>lead b
 | .block _ c=>lead c
 | .loop c=>lead c
 | _=>none
def B5n (l:List (Nat×CW)):Option Nat->Option CW
 |some i=>Fa i l
 |none=>none
def C2i (A:CW) (a:St) (b:(St->Prop)->Prop) (c:St->Prop):Prop:=
 ∃J:A.den->Prop,b (KA A a J)/\∀p,A.wf p->J p->c (reflect A a p)
def B6a (A:CW) (a:St) (d:(St->Prop)->St->Prop):Prop:=
 match gath A a with
 |some (a,f)=>bif(A.rowL.all fun x=>Nat.blt x.1 a.nx)&&(A.boxL.all fun x=>Nat.blt x.1 a.nx)then
  (∃(I:A.den->Prop) (c:A.den->Nat),I f/\∀p,A.wf p->I p->d (KA A a fun b=>I b/\c b<c p) (reflect A a p))else False
 |none=>False
def Mm (cx:Cx) (all:List Oper) (o:Oper) (k:St->Prop) (a:St):Prop:=
 match o.guard with
 |none=>match Xl cx a [] o.op with
  |some (b,v)=>match o.dst with
   |some d=>XN b (k (a.setS d v))
   |none=>False
  |none=>match o.op with
   | .load T x=>match o.dst with
    |some d=>(match aI cx a d T x with
     |some b=>k b
     |none=>False)
    |none=>False
   | _=>False
 |some (j,b)=>match(all[j]?).bind (·.dst)with
  |some t=>bif Ma a 20 t then(match o.dst with
   |some d=>bif !(Nat.beq t d)then(match Xl cx a (gctx a 20 t b) o.op with
    |some (c, .one s)=>bif s.cs.all (B0p a.nx)then XN (B3c (ctxP a (gctx a 20 t b)) c) (k (a.setS d (.cnd t b s)))else False
    |some _=>False
    |none=>match o.op with
     | .load T x=>(match aG cx a (gctx a 20 t b) t b d T x with
      |some a=>k a
      |none=>False)
     | _=>False)else False
   |none=>False)else False
  |none=>False
def NG (cx:Cx) (all:List Oper):List Nat->(St->Prop)->St->Prop
 | [],k=>k
 |j::r,k=>fun a=>match all[j]? with
  |some o=>bif !(A9j o.op)&&B4r (aT all j) (Z8 all (j::r))then Mm cx all o (NG cx all r k) a else False
  |none=>False
def Q5 (cx:Cx) (sp:G8) (all:List Oper) (tails:List Nat) (n0:Nat) (nw:Bool):Pl->Bool->Bool->(St->Prop)->St->Prop
 | .done,_,_,k=>k
 | .q i p,a,t,k=>fun b=>match all[i]? with
  |some o=>bif a|| !nw then Mm cx all o (Q5 cx sp all tails n0 nw p a t k) b else False
  |none=>False
 | .p i p,a,t,k=>fun b=>match all[i]? with
  |some o=>bif !(A9j o.op)then Mm cx all o (Q5 cx sp all tails n0 nw p a t k) b else False
  |none=>False
 | .e i p,_,t,k=>fun a=>match all[i]? with
  |some o=>bif((t||tails.contains i) || !(XC sp a o) || (nw&&frO n0 a o.op))&&(!nw||eU sp n0 a o.op)then CJ cx sp all o (Q5 cx sp all tails n0 nw p false (t||tails.contains i) k) a else False
  |none=>False
 | .or i p q,b,t,k=>fun a=>
  (match all[i]? with
  |some o=>bif((t||tails.contains i) || !(XC sp a o) || (nw&&frO n0 a o.op))&&(!nw||eU sp n0 a o.op)then CJ cx sp all o (Q5 cx sp all tails n0 nw p false (t||tails.contains i) k) a else False
  |none=>False)/\Q5 cx sp all tails n0 nw q b t k a
 | .al a b p,_,t,k=>fun c=>bif A3f all a b then CH cx all c a (NG cx all b (Q5 cx sp all tails n0 nw p false t k)) c else False
def Lv (cx:Cx) (sp:G8) (an:An):Code->K->St->Prop
 | .skip,k=>k.n
 | .label _,k=>k.n
 | .region id ops b,k=>fun a=>bif b then(match Fa id an.plan with
  |some (c,b,d,p)=>bif B5u ops.toList c b p&&cx.P.follows .mixedOrders then Q5 cx sp ops.toList b a.nx d p true false k.n a else False
  |none=>False)else VA cx sp ops.toList ops.toList k.n a
 | .seq c b,k=>fun a=>match B5n an.join (lead b)with
  |some A=>C2i A a (fun j=>Lv cx sp an c {k with n:=j} a) (Lv cx sp an b k)
  |none=>Lv cx sp an c {k with n:=Lv cx sp an b k} a
 | .cond d b c,k=>fun a=>match(a.ev [] d).bind MH with
  |some e=>(e=true->Lv cx sp an b k a)/\(e=false->Lv cx sp an c k a)
  |none=>False
 | .block id c,k=>Lv cx sp an c {k with x:=fun i a=>bif Nat.beq i id then k.n a else k.x i a}
 | .loop c,k=>fun a=>match B5n an.loop (lead c)with
  |some A=>B6a A a fun j=>Lv cx sp an c {k with n:=j}
  |none=>False
 | .exit i,k=>k.x i
 | .ret,k=>k.r
 | _,_=>fun _=>False
section
variable {za:Zn} {w0:World} {cx:Cx} {sp:G8} {an:An} {all:List Oper}
def Tf {o:Oper} {k k':St->Prop} {b:St} (h:Mm cx all o k b) (a:∀c,C4 b c->k c->k' c):Mm cx all o k' b:=by
 unfold Mm at h⊢;split at h
 . split at h
   . split at h
     . exact E6.2 ⟨(E6.1 h).1,a _ (C4.setS _ _ _) (E6.1 h).2⟩
     . exact h
   . split at h
     . split at h
       . split at h
         . rename_i b;exact a _ (aJ b) h
         . exact h
       . exact h
     . exact h
 . split at h
   . obtain⟨c,h⟩:=B8 h;simp only[c,qV];split at h
     . obtain⟨c,h⟩:=B8 h;simp only[c,qV];split at h
       . obtain⟨c,h⟩:=B8 h;simp only[c,qV];exact E6.2 ⟨(E6.1 h).1,a _ (C4.setS _ _ _) (E6.1 h).2⟩
       . exact h
       . split at h
         . split at h
           . rename_i b;exact a _ (aH b) h
           . exact h
         . exact h
     . exact h
   . exact h
def VB:∀ {ls:List Nat} {k k':St->Prop} {a:St},NG cx all ls k a->(∀b,C4 a b->k b->k' b)->NG cx all ls k' a
 | [],_,_,a,h,b=>b a (C4.refl a) h
 |j::r,_,_,a,h,f=>by
  simp only[NG]at h⊢;split at h
  . obtain⟨a,h⟩:=B8 h;simp only[a,qV];exact Tf h fun b a c=>VB c fun g b d=>f g (a.trans b) d
  . exact h
def Z6 {tails:List Nat} {n0:Nat} {nw:Bool} :∀ {p:Pl} {pre t:Bool} {k k':St->Prop} {a:St},Q5 cx sp all tails n0 nw p pre t k a->(∀b,C4 a b->k b->k' b)->Q5 cx sp all tails n0 nw p pre t k' a
 | .done,_,_,_,_,a,h,b=>b a (C4.refl a) h
 | .q i p,pre,t,_,_,a,h,g=>by
  simp only[Q5]at h⊢;split at h
  . obtain⟨b,h⟩:=B8 h;simp only[b,qV]at h⊢;exact Tf h fun c b d=>Z6 d fun i c f=>g i (b.trans c) f
  . exact h
 | .p i p,pre,t,_,_,a,h,g=>by
  simp only[Q5]at h⊢;split at h
  . obtain⟨b,h⟩:=B8 h;simp only[b,qV];exact Tf h fun c b d=>Z6 d fun i c f=>g i (b.trans c) f
  . exact h
 | .e i p,pre,t,_,_,a,h,g=>by
  simp only[Q5]at h⊢;split at h
  . obtain⟨b,h⟩:=B8 h;simp only[b,qV];exact EY h fun c b d=>Z6 d fun i c f=>g i (b.trans c) f
  . exact h
 | .or i p q,pre,t,_,_,a,h,b=>by
  simp only[Q5]at h⊢;refine⟨?_,Z6 h.2 b⟩;have h:=h.1;split at h
  . obtain⟨c,h⟩:=B8 h;simp only[c,qV];exact EY h fun d c f=>Z6 f fun i d g=>b i (c.trans d) g
  . exact h
 | .al b c p,pre,t,_,_,a,h,g=>by
  simp only[Q5]at h⊢;obtain⟨a,h⟩:=B8 h;simp only[a,qV];exact UY h fun b a c=>VB c fun f b d=>Z6 d fun h c f=>g h (a.trans (b.trans c)) f
def C4.told (A:CW) (a:St) (p:A.den):C4 a (Vc.reflect A a p):=
 ⟨qX (uU _) (C4.reflect A a p).ct,fun _ b c=>lI b c,fun _ b c=>fE b c,(C4.reflect A a p).f.le (uU _)⟩
def C4.gath {A:CW} {a b:St} {p:A.den} (h:gath A a=some (b,p)):C4 a b:=by
 simp only[Vc.gath,qG,bind_some]at h;obtain⟨d,_,c,_,tl,_,f,_,h⟩:=h;obtain⟨_,h⟩:=D7 h;cases h;exact(C4.plugL _ _).trans (C4.settleSh _ _ _)
def LQ:∀ {c:Code} {k k':K} {a:St},Lv cx sp an c k a->(∀e b,C4 a b->k.at e b->k'.at e b)->Lv cx sp an c k' a:=by
 intro c
 induction c with
 |skip=>intro k k' a h d;exact d .normal a (C4.refl a) h
 |label l=>intro k k' a h d;exact d .normal a (C4.refl a) h
 |region id ops f=>
  intro k k' a h d;simp only[Lv]at h⊢;cases f with
  |true=>
   simp only[qV]at h⊢;split at h
   . obtain⟨g,h⟩:=B8 h;simp only[g,qV];exact Z6 h fun b e=>d .normal b e
   . exact h
  |false=>
   simp only[rF]at h⊢;exact NF h fun b e=>d .normal b e
 |seq v w j l=>
  intro k k' a h f;simp only[Lv]at h⊢;split at h
  . rename_i A _;obtain⟨J,r,i⟩:=h;refine⟨J,j r fun e b ev d=> ?_,fun p t s=>l (i p t s) fun e b ev d=> ?_⟩
    . cases e with
      |normal=>exact d
      |exit o=>exact f (.exit o) b ev d
      |ret=>exact f .ret b ev d
      | _=>exact d
    . exact f e b ((C4.told A a p).trans ev) d
  . refine j h fun e n g d=> ?_
    cases e with
    |normal=>exact l d fun e u o i=>f e u (g.trans o) i
    |exit o=>exact f (.exit o) n g d
    |ret=>exact f .ret n g d
    | _=>exact d
 |cond c i j f g=>
  intro k k' a h d;simp only[Lv]at h⊢;split at h
  . exact⟨fun e=>f (h.1 e) d,fun e=>g (h.2 e) d⟩
  . exact h
 |block id c j=>
  intro k k' a h f;simp only[Lv]at h⊢;refine j h fun e b ev d=> ?_
  cases e with
  |exit i=>
   simp only[K.at]at d⊢;cases g:Nat.beq i id with
   |true=>simp only[g,qV]at d⊢;exact f .normal b ev d
   |false=>simp only[g,rF]at d⊢;exact f (.exit i) b ev d
  |normal=>exact f .normal b ev d
  |ret=>exact f .ret b ev d
  | _=>exact d
 |loop c t=>
  intro k k' a h g;simp only[Lv]at h⊢;split at h
  . rename_i A _;unfold B6a at h⊢;split at h
    . rename_i i v f;obtain⟨o,h⟩:=B8 h;simp only[o,qV];obtain⟨I,u,j,l⟩:=h;refine⟨I,u,j,fun p r n=>t (l p r n) fun e b ev d=> ?_⟩;cases e with
      |normal=>exact d
      |exit s=>exact g (.exit s) b ((C4.gath f).trans ((C4.told A i p).trans ev)) d
      |ret=>exact g .ret b ((C4.gath f).trans ((C4.told A i p).trans ev)) d
      | _=>exact d
    . exact h
  . exact h
 |exit i=>intro k k' a h d;exact d (.exit i) a (C4.refl a) h
 |ret=>intro k k' a h d;exact d .ret a (C4.refl a) h
 | _=>intro k k' a h d;exact h
def ZB {A:CW} (k:za.b0=0) {b c:St} {J:A.den->Prop} {E:G9} {w:World} {Z:Nat->Prop} {B:Nat->Value} (h:C3 za w0 c E w Z B) (a:KA A b J c) (v:B1x za.n b) (ev:C4 b c):∃p,A.wf p/\J p/\∃Z' B',C3 za w0 (reflect A b p) E w Z' B':=by
 unfold KA at a;split at a
 . rename_i b p d;obtain⟨b,a⟩:=B8 a;simp only[A8v,qC,tO]at b;obtain⟨⟨⟨i,j⟩,t⟩,u⟩:=b;have c:=ev.trans (C4.gath d);have b:∀ {n g:Nat},dU n g=true->g≠0/\g<=n:=fun hh=>by
    simp only[dU,qC]at hh;have o:=qO hh.1;have o:=qO hh.2;omega
   obtain⟨r,Z',B',o⟩:=A1u k h d v (fun s hs=>c.s s (b (i s hs)).1 (b (i s hs)).2) (fun q hq=>c.l q (b (j q hq)).1 (b (j q hq)).2) (fun y hy=>Wi (t y hy)) (c.f.old u);exact⟨p,r,a,Z',B',o⟩
 . exact a.elim
variable (hty:G2 cx.P cx.tys=true) (hsp:Rr cx.P sp)
include hty in
theorem EZ {S:World->Prop} {o:Oper} {k:St->Prop} {I:St} {E:G9} {w:World} {Z:Nat->Prop} {B:Nat->Value} (j:∀w',S w'->(A9j o.op=true->P9 w w')) (h:C3 za w0 I E w Z B) (a:Mm cx all o k I):EV cx.P S all o (Nx za w0 k) E w:=by
 obtain⟨a1,X,ty,G,A,a2⟩:=o;unfold Mm at a;simp only at a j;split at a
 . split at a
   . rename_i Y a6 y;split at a
     . rename_i d;replace a:=E6.1 a;obtain⟨u,c,f,r⟩:=AF (ty:=ty) h hty (F1 E) y a.1;exact .inl ⟨rfl,u,fun w' g=>c w' (j w' g) _ _ _ _,_,_,_,h.setS d (f _) r,a.2⟩
     . exact a.elim
   . split at a
     . rename_i T x _;split at a
       . rename_i d;split at a
         . rename_i a4 s;obtain⟨u,B',c,f⟩:=kM (ty:=ty) h hty s;exact .inl ⟨rfl,u,fun w' g=>c w' (j w' g rfl) _ _ _ _,_,_,_,f,a⟩
         . exact a.elim
       . exact a.elim
     . exact a.elim
 . rename_i F i;split at a
   . rename_i t l;have a3:=(B8 a).1;replace a:=(B8 a).2;split at a
     . rename_i d;have U:=(B8 a).1;replace a:=(B8 a).2;have z:t≠d:=vE (by simpa using U);split at a
       . rename_i Y H y;obtain⟨R,a⟩:=B8 a;replace a:=E6.1 a;rw[jZ]at a;by_cases b:E t= .bool i
         . have D:=h.gctx (n:=20) b;obtain⟨u,c,f,r⟩:=AF (ty:=ty) h hty D y (a.1 (h.ctxP D));refine .inl ⟨HT l b,u,fun w' g=>c w' (j w' g) _ _ _ _,_,_,_,h.setS d (x:= .cnd t i H) (.inl ⟨?_,f E⟩) r,a.2⟩;rw[C5 _ _ _ _ z];exact b
         . have v:D4 all ⟨some d,X,ty,G,A,some (F,i)⟩ E=false:=by
            unfold D4 Y0;simp only[l];cases N:E t with
            |bool a0=>simp only[vH,g4f,rB];intro Q;exact b (by rw[N,Q])
            | _=>rfl
           refine .inr ⟨v,_,_,_,h.setS d (x:= .cnd t i H) (.inr ⟨?_,rfl⟩) (fun J O=>fD (tO.1 R J O)),a.2⟩;rw[C5 _ _ _ _ z];exact b
       . exact a.elim
       . split at a
         . rename_i T x _;split at a
           . rename_i a5 s;obtain⟨V,W⟩:=kL (ty:=ty) h hty z s;by_cases b:E t= .bool i
             . obtain⟨u,B',c,f⟩:=V b (h.gctx (n:=20) b);exact .inl ⟨HT l b,u,fun w' g=>c w' (j w' g rfl) _ _ _ _,_,_,_,f,a⟩
             . have v:D4 all ⟨some d, .load T x,ty,G,A,some (F,i)⟩ E=false:=by
                unfold D4 Y0;simp only[l];cases N:E t with
                |bool a0=>simp only[vH,g4f,rB];intro Q;exact b (by rw[N,Q])
                | _=>rfl
               obtain⟨B',M⟩:=W b;exact .inr ⟨v,_,_,_,M,a⟩
           . exact a.elim
         . exact a.elim
     . exact a.elim
   . exact a.elim
theorem UT {P:Program} {S:World->Prop} {o:Oper} {n a:G9->World->Prop} {E:G9} {w:World} (h:EV P S all o n E w) (c:∀E',n E' w->a E' w):EV P S all o a E w:=by
 rcases h with⟨a,v,b,d⟩ | ⟨a,b⟩
 . exact .inl ⟨a,v,b,c _ d⟩
 . exact .inr ⟨a,c _ b⟩
def RW (nw:Bool) (b0:Nat) (w w':World):Prop:=bif nw then(Below b0 w w'/\True)else P9 w w'
theorem RW.of {nw:Bool} {b0:Nat} {w w':World} (a:b0<=w.heap.size) (h:P9 w w'):RW nw b0 w w':=by
 cases nw with
 |true=>exact⟨⟨h.os,h.tape,h.output,h.size,fun k b=>h.block k (rC b a)⟩,h.drw⟩
 |false=>exact h
theorem RW.refl (nw:Bool) (b0:Nat) (w:World):RW nw b0 w w:=by
 cases nw with
 |true=>exact⟨Below.refl _ _,trivial⟩
 |false=>exact P9.refl _
theorem RW.trans {nw:Bool} {b0:Nat} {a b c:World} (h:RW nw b0 a b) (d:RW nw b0 b c):RW nw b0 a c:=by
 cases nw with
 |true=>exact⟨Below.trans h.1 d.1,trivial⟩
 |false=>exact P9.trans h d
include hty hsp in
theorem A2u {nw tl:Bool} {n0:Nat} {k:St->Prop} {o:Oper} {d:St} {E:G9} {w:World} {Z:Nat->Prop} {B:Nat->Value} (i:nw=true->za.k0=n0) (s:nw=false->za.b0=0) (h:C3 za w0 d E w Z B)
 (b:((tl|| !(XC sp d o) || (nw&&frO n0 d o.op))&&(!nw||eU sp n0 d o.op))=true) (a:CJ cx sp all o k d):L9 cx.P all o (fun E' w'=>(tl=true\/RW nw za.b0 w w')/\Nx za w0 k E' w') E w:=by
 simp only[qC,vL,rO]at b;obtain⟨b,c⟩:=b;have j:za.b0=0\/eU sp za.k0 d o.op=true:=by
  cases f:nw with
  |false=>exact .inl (s f)
  |true=>rw[f]at c;exact .inr (by rw[i f];simpa using c)
 rcases b with(b|b) |b
 . refine N3 ?_ (UZ h j hty hsp a);rintro E' w' ⟨_,n⟩;exact⟨.inl b,n⟩
 . refine N3 ?_ (UZ h j hty hsp a);rintro E' w' ⟨y,n⟩;exact⟨.inr (RW.of h.mrk.1 (y b)),n⟩
 . obtain⟨v,b⟩:=b;subst v;obtain⟨l,D,H,F,A,r⟩:=o;have t:=b;unfold frO at b;split at b
   . rename_i T p z g;simp only at g;subst g;unfold CJ at a;simp only at a;cases r with
     |none=>
      simp only[Xl]at a;cases l with
      |none=>
       simp only at a;have u:EF d (.store T p z)=false:=by
        rcases c with c|c
        . cases c
        . simp only[eU,qC,rO]at c;exact c.2
       rw[kU u]at a;simp only at a;split at a
       . rename_i I G x;refine N3 ?_ (bO h hty x (E6.1 a).1 (E6.1 a).2 rfl);rintro E' w' ⟨f,n⟩;exact⟨.inr (f (by rw[i rfl];exact t)),n⟩
       . exact a.elim
      |some f=>exact a.elim
     |some f=>
      obtain⟨x,u⟩:=f;simp only[Xl]at a;split at a
      . obtain⟨_,a⟩:=B8 a;split at a
        . obtain⟨_,a⟩:=B8 a;exact a.elim
        . exact a.elim
      . exact a.elim
   . cases b
include hty in
theorem lY {k:St->Prop} :∀ {d:List Nat},(∀j∈d,eZ all j=true)->(Z8 all d).Nodup->∀ {f:St} {E:G9} {w:World} {Z:Nat->Prop} {B:Nat->Value},C3 za w0 f E w Z B->NG cx all d k f->∃F,(∀x,x∉Z8 all d->F x=E x)/\AlV cx.P all d F/\Nx za w0 k F w
 | [],_,_,f,E,w,Z,B,h,b=>⟨E,fun _ _=>rfl,fun _ a=>(by cases a),f,Z,B,h,b⟩
 |j::W,r,o,f,E,w,Z,B,A,b=>by
  simp only[NG]at b;simp only[Z8,rW]at o;obtain⟨T,U⟩:=sJ.1 o;split at b
  . rename_i t i;obtain⟨g,b⟩:=B8 b;simp only[qC,rO]at g;obtain⟨G,H,I⟩:=Xk (r j rJ) i;have N:=LR g.2;have J:=EZ (S:=fun _=>True) (all:=all) hty (fun v _ hh=>by rw[hh]at g;cases g.1) A b;have R:D4 all t E=true:=by simp[D4,H]
    rcases J with⟨_,V,Q,X,Z1,B1,n,M⟩ | ⟨s,_⟩
    . rw[G]at n;obtain⟨F,h,y,z⟩:=lY (fun l c=>r l (qK _ c)) U n M;have D:F (Eu all j)=V:=by rw[h _ T];exact C0 _ _ _
      refine⟨F,fun x a=> ?_,fun l c=> ?_,z⟩
      . simp only[Z8,rW,qU,g4u]at a;rw[h x a.2];exact C5 _ _ _ _ a.1
      . rcases qU.1 c with rfl|c
        . refine⟨t,i,fun v=> ?_⟩;rw[D,KH (E:=F) (E':=E) i I fun u O=> ?_]
          . exact Q v trivial
          . have a:=N u O;simp only[Z8,rW,qU,g4u]at a;rw[h u a.2];exact C5 _ _ _ _ a.1
        . exact y l c
    . rw[R]at s;cases s
  . exact b.elim
theorem RW.size {nw:Bool} {b0:Nat} {a b:World} (h:RW nw b0 a b):a.heap.size<=b.heap.size:=by
 cases nw with
 |true=>exact h.1.size
 |false=>exact(show P9 a b from h).size
include hty in
theorem A5g {nw:Bool} {b s:List Nat} {k:St->Prop} {v:St} {E:G9} {w:World} {Z:Nat->Prop} {B:Nat->Value} (N:A3f all b s=true) (h:C3 za w0 v E w Z B) (M:CH cx all v b (NG cx all s k) v):∃f X,A6f cx.P (RW nw za.b0) all b s f X (Nx za w0 k) E w:=by
 simp only[A3f,qC,tO]at N;obtain⟨⟨⟨a6,u⟩,r⟩,ah⟩:=N;have u:=(tK.1 (Kb u)).1;have r:=Kb r;have r:(Z8 all b++Z8 all s).Nodup:=by simpa[Z8]using r
 obtain⟨F,T,a9⟩:=tK.1 r;have I:=bJ M;have a1:∀i,∃x:Obj×(Nat->Value),i∈b->∀o n lc mk,all[i]? =some o->JQ cx v (Eu all i) o.op=some (n,lc,mk)->(∀d,(execOp (ev E) o).run cx.P d= .ok (.value (x.2 d.heap.size)) (d.alloc x.1))/\A6l lc mk x.1 x.2:=fun i=>by
  by_cases a:i∈b
  . obtain⟨o,n,lc,mk,l,j,Q⟩:=I i a;obtain⟨X,f,U,V⟩:=A3g h hty j Q;refine⟨(X,f),fun _ ae aj ac ad J z=> ?_⟩;rw[l]at J;cases J;rw[j]at z;cases z;obtain⟨aa,af,a7,ag,a8,ab⟩:=o;exact⟨fun d=>U a7 d _ _ _ _,V⟩
  . exact⟨(.cells #[] 0 (0,0),fun _=>undef),fun a2=>absurd a2 a⟩
 obtain⟨g,H⟩:=g1o a1;refine⟨fun i=>(g i).2,fun i=>(g i).1,⟨fun i a=> ?_,fun i a d a5=>RW.of (qX h.mrk.1 a5.size) (P9.alloc d _),fun t c=> ?_⟩⟩
 . obtain⟨o,n,lc,mk,l,j,Q⟩:=I i a;exact⟨o,l,(H i a o n lc mk l j).1⟩
 . have a4:t.Nodup:=c.nodup_iff.2 u;have a3:(Z8 all t).Nodup:=(c.map _).nodup_iff.2 F;obtain⟨O,bl,D,R⟩:=bG (f:=fun i=>(g i).2) (X:=fun i=>(g i).1) t E w a4 a3;have W:=h.more (Z':=Z) O (fun _=>id) (fun _=> .inl);obtain⟨ai,B1,G,Y⟩:=lX (f:=fun i=>(g i).2) (X:=fun i=>(g i).1) (bl:=bl) W (fun i a o n lc mk l j=>(H i a o n lc mk l j).2) (fun i a=>by
    obtain⟨c1,z,a2⟩:=D i (c.symm.subset a);refine⟨z,qX h.ext.size c1,fun V=> ?_,qX h.mrk.1 c1,fun q U=> ?_⟩
    . have:=h.zlt _ V;omega
    . have:=((h.locs q).root (h.ft O U)).2.1;omega) (fun i a A y J=>R i (c.symm.subset a) A (c.symm.subset y) J) u M
   have a0:A0t all (fun i=>(g i).2) bl b E=(Ew all (fun i=>(g i).2) (fun i=>(g i).1) t E w).1:=funext fun x=>by
    by_cases z:x∈Z8 all b
    . obtain⟨i,a,e⟩:=J3.1 z;subst e;rw[mM F a,(D i (c.symm.subset a)).2.2]
    . rw[FB z,Gx _ _ _ fun J=>z ((c.map _).subset J)]
   rw[a0]at G;exact lY hty (fun A y=>a6 A (tH _ y)) T G Y
include hty hsp in
theorem Ck {za0:Zn} {tails:List Nat} {n0:Nat} {nw:Bool} {k:St->Prop} (d:nw=true->za.k0=n0) (c:nw=false->za.b0=0) (f:∀ {a:St} {E:G9} {w:World} {Z:Nat->Prop} {B:Nat->Value},C3 za w0 a E w Z B->C3 za0 w0 a E w Z B):∀ {p:Pl} {pre t:Bool} {a:St} {E:G9} {w:World} {Z:Nat->Prop} {B:Nat->Value},(nw=true->pre=true->za.b0=w.heap.size)->C3 za w0 a E w Z B->Q5 cx sp all tails n0 nw p pre t k a->RR cx.P (RW nw za.b0) all tails (Nx za0 w0 k) p t E w
 | .done,_,_,_,_,_,_,_,_,h,b=>⟨_,_,_,f h,b⟩
 | .q u p,pre,t,a,E,w,Z,B,h,i,b=>by
  simp only[Q5]at b;split at b
  . rename_i r n;obtain⟨o,b⟩:=B8 b;refine⟨r,n,UT (EZ hty (fun s g _=> ?_) i b) ?_⟩
    . cases nw with
      |false=>exact g
      |true=>
       have g:Below za.b0 w s/\True:=g;rw[h rfl (by simpa using o)]at g;exact⟨g.1,g.2⟩
    . rintro E' ⟨v,Z',B',j,l⟩;exact Ck d c f h j l
  . exact b.elim
 | .p s p,pre,t,a,E,w,Z,B,o,h,b=>by
  simp only[Q5]at b;split at b
  . rename_i r n;obtain⟨g,b⟩:=B8 b;refine⟨r,n,UT (EZ hty (fun v _ j=>by rw[j]at g;cases g) h b) ?_⟩;rintro E' ⟨u,Z',B',i,l⟩;exact Ck d c f o i l
  . exact b.elim
 | .e r p,pre,t,a,E,w,Z,B,u,h,b=>by
  simp only[Q5]at b;split at b
  . rename_i s n;obtain⟨l,b⟩:=B8 b;refine⟨s,n,N3 ?_ (A2u hty hsp d c (tl:=t||tails.contains r) h l b)⟩;rintro E' x ⟨o,v,Z',B',g,j⟩;exact⟨o,Ck d c f (fun _ i=>by cases i) g j⟩
  . exact b.elim
 | .or s p q,pre,t,a,E,w,Z,B,o,h,b=>by
  simp only[Q5]at b;refine⟨?_,Ck d c f o h b.2⟩;have b:=b.1;split at b
  . rename_i u n;obtain⟨l,b⟩:=B8 b;refine⟨u,n,N3 ?_ (A2u hty hsp d c (tl:=t||tails.contains s) h l b)⟩;rintro E' x ⟨r,v,Z',B',g,j⟩;exact⟨r,Ck d c f (fun _ i=>by cases i) g j⟩
  . exact b.elim
 | .al y z p,pre,t,a,E,w,Z,B,x,l,b=>by
  simp only[Q5]at b;obtain⟨u,b⟩:=B8 b;obtain⟨h,X,g⟩:=A5g (nw:=nw) hty u l b;refine⟨h,X,g.one,g.rel,fun v s=> ?_⟩;obtain⟨F,i,j,A,Z',B',n,r⟩:=g.fin v s;exact⟨F,i,j,Ck d c f (fun _ o=>by cases o) n r⟩
theorem C3.marked {a:St} {E:G9} {w:World} {Z:Nat->Prop} {B:Nat->Value} (h:C3 za w0 a E w Z B):C3 {za with k0:=a.nx,b0:=w.heap.size} w0 a E w Z B:=
 ⟨h.ext,h.zlt,h.slots,h.locs,h.disj,h.refs,h.refl,h.fresh,h.bone,h.zin,h.nms,h.bfix,⟨qR _,fun k d c b=>by
  have:a.L k= .none:=h.fresh k c;rw[this]at b;exact b.elim⟩,h.frs,h.frf⟩
theorem C3.unmark {k0 b0:Nat} (a:za.b0=0) {b:St} {E:G9} {w:World} {Z:Nat->Prop} {B:Nat->Value} (h:C3 {za with k0:=k0,b0:=b0} w0 b E w Z B):C3 za w0 b E w Z B:=
 ⟨h.ext,h.zlt,h.slots,h.locs,h.disj,h.refs,h.refl,h.fresh,h.bone,h.zin,h.nms,h.bfix,⟨by rw[a];exact rK _,fun k b _ _=>by rw[a];exact rK _⟩,h.frs,h.frf⟩
end
section
variable {za:Zn} {w0:World} {cx:Cx} {sp:G8} {an:An}
def A8d {A:CW} {b c:St} {p:A.den} {E:G9} {w:World} {Z:Nat->Prop} {B:Nat->Value} (f:za.b0=0) (h:C3 za w0 b E w Z B) (a:gath A b=some (c,p)):∃Z',C3 za w0 c E w Z' B:=by
 simp only[Vc.gath,qG,bind_some]at a;obtain⟨i,_,g,_,tl,_,j,_,a⟩:=a;obtain⟨_,a⟩:=D7 a;cases a;obtain⟨Z0,d⟩:=h.plugL f (l:=A.rowL);exact C3.settleSh d
def post (za:Zn) (w0:World) (k:K):Exit->G9->World->Prop:=fun e E w=>Nx za w0 (k.at e) E w
variable (hty:G2 cx.P cx.tys=true) (hsp:Rr cx.P sp)
include hty hsp in
theorem A2t (g:za.b0=0) {n:Nat} :∀ {c:Code} {k:K} {a:St} {E:G9} {w:World} {Z:Nat->Prop} {B:Nat->Value},C3 za w0 a E w Z B->Lv cx sp an c k a->Gw.Wp cx.P n c (post za w0 k) E w:=by
 intro c
 induction c with
 |skip=>intro k a E w Z B h d _ f b;exact wp_skip ⟨E,b,a,Z,B,h,d⟩
 |label l=>intro k a E w Z B h d _ f b;exact wp_label ⟨E,b,a,Z,B,h,d⟩
 |exit i=>intro k a E w Z B h d _ f b;exact wp_exit ⟨E,b,a,Z,B,h,d⟩
 |ret=>intro k a E w Z B h d _ f b;exact wp_ret ⟨E,b,a,Z,B,h,d⟩
 |region id ops z=>
  intro k a E w Z B h b j f u;simp only[Ax]at j;simp only[Lv]at b;have s:ops=ops.toList.toArray:=by simp
  cases z with
  |false=>
   simp only[rF]at b;rw[s];refine wp_region ?_;have:=UL (P:=cx.P) (Q:=post za w0 k) j ops.toList 0 (by simp) f E w u (bK g hty hsp h b);simpa[g2y]using this
  |true=>
   simp only[qV]at b;split at b
   . rename_i F tails nw p _;obtain⟨d,b⟩:=B8 b;simp only[qC]at d;obtain⟨d,D⟩:=d;simp only[B5u,qC]at d;rw[s];refine wp_region_any D (XB (S:=fun _=>True) (tails:=tails) _ _ _ _ ?_);have o:G3 tails (Array.replicate ops.toList.length false)=false:=by
      unfold G3;rw[zR];intro x _;simp only[yH,yY];split<;>simp
     have l:=h.more (Z':=Z) (w':=w.drew) (P9.refl w).drew (fun _ h=>h) (fun _=> .inl);have fin:∀b0,RR cx.P (RW nw b0) ops.toList tails (Nx za w0 k.n) p false E w.drew->V7 cx.P ops.toList.toArray (EB n (post za w0 k)) (RW nw b0 w.drew) tails ops.toList.length (Array.replicate ops.toList.length false) f w.drew:=fun b0 hd=>
      A7l (P:=cx.P) (R:=RW nw b0) (RW.refl nw _) (fun f y=>f.trans y) (Q:=post za w0 k) j d.1.1 d.1.2 (fun c E w i=>by obtain⟨_,_,_,_,i⟩:=i;exact i) p ops.toList.length _ none d.2 ⟨iK _ _,fun v=>by rw[o]at v;cases v⟩ false o.symm f E w.drew u (fun _ i=>by cases i) hd
     cases nw with
     |true=>
      have:=fin _ (Ck (za0:=za) (nw:=true) hty hsp (n0:=a.nx) (fun _=>rfl) (fun i=>by cases i) (fun h=>h.unmark g) (fun _ _=>rfl) l.marked b);simpa using Ie (S':=fun _=>True) (fun _ _=>trivial) _ _ _ _ this
     |false=>
      have:=fin _ (Ck (za0:=za) (nw:=false) hty hsp (n0:=a.nx) (fun i=>by cases i) (fun _=>g) (fun h=>h) (fun i=>by cases i) l b);simpa using Ie (S':=fun _=>True) (fun _ _=>trivial) _ _ _ _ this
   . exact b.elim
 |seq O T y z=>
  intro k a E w Z B s l i u v;simp only[Ax,qC]at i;simp only[Lv]at l;split at l
  . rename_i A _;obtain⟨J,D,G⟩:=l;have F:=LQ (k':= {n:=fun d=>C4 a d/\KA A a J d,x:=k.x,r:=k.r}) D (fun e d ev j=>by
     cases e with
     |normal=>exact⟨ev,j⟩
     |exit H=>exact j
     |ret=>exact j
     | _=>exact j)
    refine wp_seq (wp_mono (y s F i.1 u v) ?_);rintro e o w' ⟨E',h,d,Z',B',f,b⟩;cases e with
    |normal=>
     obtain⟨p,N,M,Z2,B2,H⟩:=ZB g f b.2 s.pure b.1;exact z H (G p N M) i.2 o h
    |exit H=>exact⟨E',h,d,Z',B',f,b⟩
    |ret=>exact⟨E',h,d,Z',B',f,b⟩
    | _=>exact b.elim
  . refine wp_seq (wp_mono (y s l i.1 u v) ?_);rintro e o w' ⟨E',h,d,Z',B',f,b⟩;cases e with
    |normal=>exact z f b i.2 o h
    |exit H=>exact⟨E',h,d,Z',B',f,b⟩
    |ret=>exact⟨E',h,d,Z',B',f,b⟩
    | _=>exact b.elim
 |cond c x z u v=>
  intro k a E w Z B h b d i f;simp only[Ax,qC]at d;simp only[Lv]at b;split at b
  . rename_i e j;obtain⟨y,l,o⟩:=bind_some.1 j;have s:=Oz (h.ev (F1 E) l).1 o;refine wp_cond (t:=e) (by rw[f.ev];exact s) ?_;cases e with
    |true=>exact u h (b.1 rfl) d.1 i f
    |false=>exact v h (b.2 rfl) d.2 i f
  . exact b.elim
 |block id c v=>
  intro k a E w Z B l u o j s;refine wp_block (wp_mono (v l u o j s) ?_);rintro e z w' ⟨E',f,h,Z',B',d,b⟩;cases e with
  |normal=>exact⟨E',f,h,Z',B',d,b⟩
  |ret=>exact⟨E',f,h,Z',B',d,b⟩
  |exit y=>
   simp only[Exit.inBlock];simp only[K.at]at b;by_cases i:y=id
   . subst i;simp only[vY];simp at b;exact⟨E',f,h,Z',B',d,b⟩
   . simp only[i,yQ];rw[E4 i]at b;exact⟨E',f,h,Z',B',d,b⟩
  | _=>exact b.elim
 |loop c a3=>
  intro k a E w Z B v b F a6 X;simp only[Ax]at F;simp only[Lv]at b;split at b
  . rename_i A _;unfold B6a at b;split at b
    . rename_i l H D;obtain⟨z,b⟩:=B8 b;simp only[qC,tO]at z;obtain⟨I,i,M,N⟩:=b;obtain⟨Z1,G⟩:=A8d g v D;obtain⟨a2,Z2,B2,O⟩:=A1u g v D G.pure (fun _ _=>rfl) (fun _ _=>rfl) (fun a4 hy=>Wi (z.1 a4 hy)) rfl;refine wp_loop_ghost (fun m o w=>∃p E',i p=m/\Gw.C6 n o E'/\A.wf p/\I p/\∃Z B,C3 za w0 (reflect A l p) E' w Z B) (i H) ⟨H,E,rfl,X,a2,M,Z2,B2,O⟩ ?_;rintro m o w ⟨p,E',a7,Y,a0,W,Z3,B3,T⟩;have U:=LQ (k':= {n:=fun d=>C4 (reflect A l p) d/\KA A l (fun h=>I h/\i h<i p) d,x:=k.x,r:=k.r}) (N p a0 W) (fun e d ev j=>by
       cases e with
       |normal=>exact⟨ev,j⟩
       |exit y=>exact j
       |ret=>exact j
       | _=>exact j)
      refine wp_mono (a3 T U F o Y) ?_;rintro e a5 w' ⟨E'',u,d,Z',B',s,f⟩;cases e with
      |normal=>
       obtain⟨h,a1,y,Z5,B5,V⟩:=ZB g s f.2 G.pure ((C4.told A l p).trans f.1);exact⟨i h,by have:=y.2;omega,h,E'',rfl,u,a1,y.1,Z5,B5,V⟩
      |exit y=>exact⟨E'',u,d,Z',B',s,f⟩
      |ret=>exact⟨E'',u,d,Z',B',s,f⟩
      | _=>exact f.elim
    . exact b.elim
  . exact b.elim
 | _=>intro k a E w Z B h b;exact b.elim
end
abbrev Nv (α:Type):List α:= []
def Xn (cx:Cx) (a:St):List ResultVar->Option (List SV)
 | []=>some []
 | .tmp t::r=>match a.S t with
  | .one s=>(Xn cx a r).map (s:: ·)
  | _=>none
 | .cell b T::r=>do
  let ti<-cx.ti T
  match a.S b with
  | .one ⟨false,[.box k 0]⟩=>match a.L k with
   | .box _ b=>bif Nat.beq b.length ti.ty.size then(Xn cx a r).map (⟨ti.agg,b⟩:: ·)else none
   | _=>none
  | _=>none
def settleR:St->List RT->List SV->St
 |c, .val _ _::a,s::b=>settleR (settle c s.cs) a b
 |c, .own _ _::a,_::b=>settleR c a b
 |a, .obox _ _::c,s::d=>settleR (match c1 s with
  |some (.box k 0)=>(match a.L k with
   | .box _ b=>settle a b
   | _=>a)
  | _=>a) c d
 |c, .rows _ _ _::a,_::b=>settleR c a b
 |a,_,_=>a
def CE (a:St):(rs:List RT)->List SV->Option (Ae rs)
 | [],[]=>some ()
 | .val b t::rs,s::c=>(Px b t s).bind fun x=>(CE a rs c).map fun y=>(x,y)
 | .own t e::rs,s::b=>((c1 s).bind (LN a t e)).bind fun x=>(CE a rs b).map fun y=>(x,y)
 | .obox T t::rs,s::b=>((ZD s).bind fun k=>bif Nat.ble a.nm k then iH a T t k else none).bind fun x=>(CE a rs b).map fun y=>(x,y)
 | .rows t e b::rs,s::c=>((Qb s).bind fun k=>bif Nat.ble a.nm k then rowsAt a t e b k else none).bind fun x=>(CE a rs c).map fun y=>(x,y)
 | _,_=>none
def Ay:List RT->List SV->List Nat
 | .own _ _::a,⟨false,[.row k]⟩::b=>k::Ay a b
 | .obox _ _::a,⟨false,[.box k 0]⟩::b=>k::Ay a b
 | .rows _ _ _::a,⟨false,[.row k]⟩::b=>k::Ay a b
 | _::a,_::b=>Ay a b
 | _,_=> []
def settleM:St->List AM->Nat->St
 |a, .box _ _::r,j=>settleM (match a.L j with| .box _ cs=>settle a cs| _=>a) r (j+1)
 |a, .row _ _::r,j=>settleM a r (j+1)
 |a, .val _ _::r,j=>settleM a r j
 |a, .fn _ _ _::r,j=>settleM a r j
 |a, .rows _ _ _::r,j=>settleM a r (j+1)
 |a,[],_=>a
def XR (a:St):(as:List AM)->Nat->Option (Lu as)
 | [],_=>some ()
 | .row t e::r,j=>(Ue a t e j).bind fun x=>(XR a r (j+1)).map fun y=>(x,y)
 | .box T t::r,j=>(iH a T t j).bind fun x=>(XR a r (j+1)).map fun y=>(x,y)
 | .val _ _::r,j=>XR a r j
 | .fn _ _ _::r,j=>XR a r j
 | .rows t e b::r,j=>(rowsAt a t e b j).bind fun x=>(XR a r (j+1)).map fun y=>(x,y)
def B5r:AM->Bool
 | .row t _=>Jy t
 | .rows t _ _=>Jy t
 | .box _ t=>Jy t
 | _=>true
def B9l (s:B4) (x:A4 s.args) (r:Ae s.res) (o:Lu s.args):Prop:=bif O8 s.args then s.post x r/\s.mpost x r o else s.post x r
def fin (cx:Cx) (s:B4) (c:List ResultVar) (x:A4 s.args) (a:St):Prop:=
 match Xn cx a c with
 |some b=>match Xn cx (settleM (settleR a s.res b) s.args 0) c with
  |some c=>match CE (settleM (settleR a s.res b) s.args 0) s.res c,XR (settleM (settleR a s.res b) s.args 0) s.args 0 with
   |some r,some o=>bif(EH (Ay s.res c)&&Km s.res)&&(s.shared|| (s.res.all A1r&&s.args.all B5r))then B9l s x r o else False
   | _,_=>False
  |none=>False
 |none=>False
def Gd (P:Program):(as:List AM)->A4 as->Nat->Nat->List (Nat×Nat×DV)
 | [],_,_,_=> []
 | .val a t::r,x,i,j=>(i,1, .one ⟨a,explode t x.1⟩)::Gd P r x.2 (i+1) j
 | .row _ _::r,x,i,j=>(i,1, .one ⟨false,[.row j]⟩)::Gd P r x.2 (i+1) (j+1)
 | .box _ _::r,x,i,j=>(i,1, .one ⟨false,[.box j 0]⟩)::Gd P r x.2 (i+1) (j+1)
 | .rows _ _ _::r,x,i,j=>(i,1, .one ⟨false,[.row j]⟩)::Gd P r x.2 (i+1) (j+1)
 | .fn a c b::r,x,i,j=>(i,1, .one ⟨false,[.fv P a c b x.1.1 x.1.2]⟩)::Gd P r x.2 (i+1) j
def Cw:(as:List AM)->A4 as->Nat->List (Nat×Nat×LC)
 | [],_,_=> []
 | .val _ _::r,x,j=>Cw r x.2 j
 | .fn _ _ _::r,x,j=>Cw r x.2 j
 | .row t e::r,x,j=>(j,1, .row t e x.1)::Cw r x.2 (j+1)
 | .box T t::r,x,j=>(j,1, .box T (explode t x.1))::Cw r x.2 (j+1)
 | .rows t e a::r,x,j=>(j,1, .rows t e a x.1 [] none)::Cw r x.2 (j+1)
def Jg:List AM->Nat
 | []=>0
 | .row _ _::r=>Jg r+1
 | .box _ _::r=>Jg r+1
 | .rows _ _ _::r=>Jg r+1
 | .val _ _::r=>Jg r
 | .fn _ _ _::r=>Jg r
def oN (P:Program) (as:List AM) (x:A4 as):St:=⟨Gd P as x 0 0,Cw as x 0,Jg as,1,Jg as,[]⟩
def B8c (cx:Cx) (sp:G8) (an:An) (s:B4) (a:List ResultVar) (c:Code) (x:A4 s.args):Prop:=
 Lv cx sp an c ⟨fin cx s a x,fun _ _=>False,fin cx s a x⟩ (oN cx.P s.args x)
section
variable {za:Zn} {w0 w:World} {Z:Nat->Prop} {B:Nat->Value} {st:St} {E:G9} {cx:Cx} {sp:G8} {an:An}
def jU (tmps:Array Value):ResultVar->Sem Value
 | .tmp t=>pure (tmps.getD t undef)
 | .cell a t=>do loadVar t (<-asAddr (tmps.getD a undef))
def IB (j:G2 cx.P cx.tys=true) (h:C3 za w0 st E w Z B) {tmps:Array Value} (b:∀t,tmps.getD t undef=E t):∀ {A:List ResultVar} {ss:List SV},Xn cx st A=some ss->∃vs,(A.mapM (jU tmps)).run cx.P w= .ok vs w/\Ot w Z B ss vs
 | [],ss,a=>by cases a;exact⟨[],rfl,rfl⟩
 | .tmp t::r,ss,a=>by
  simp only[Xn]at a;split at a
  . rename_i s g;simp only[qJ]at a;obtain⟨k,i,rfl⟩:=a;obtain⟨vs,d,f⟩:=IB j h b i;have c:=h.slots t;rw[g]at c;refine⟨E t::vs, ?_,E t,vs,rfl,c,f⟩;rw[wQ];simp only[jU,b,Sem.run_bind,Sem.run_pure,Result.andThen_ok,d]
  . cases a
 | .cell D T::a1,ss,a=>by
  simp only[Xn,qG,bind_some]at a;obtain⟨ti,W,a⟩:=a;split at a
  . rename_i X N;split at a
    . rename_i T' a0 O;obtain⟨J,a⟩:=D7 a;simp only[qJ]at a;obtain⟨a2,R,rfl⟩:=a;obtain⟨vs,r,s⟩:=IB j h b R;have Q:=qD J;have y:=h.slots D;rw[N]at y;obtain⟨_,_,F,⟨l,G,n⟩,_⟩:=y;cases F;have v:=h.locs X;rw[O]at v;obtain⟨Y,c,o,_,_,x,d⟩:=v;rw[G]at o;cases o;have k:c.toList.length=ti.ty.size:=by rw[<-Q,d.len]
      rcases(K9 (B9 j W)).2.1 with⟨i,I⟩ | ⟨i,V,U⟩
      . refine⟨.agg c.toList.toArray::vs, ?_,_,vs,rfl,by rw[i];exact⟨c.toList,rfl,d⟩,s⟩;obtain⟨f,H⟩:=Oa (P:=cx.P) (w:=w) I;have g:=run_loadCells_list (P:=cx.P) (w:=w) ⟨l,0,none⟩ c.toList x.cellsAt;rw[k]at g;unfold loadCells at g;rw[wQ];simp[jU,b,n,asAddr,loadVar,f,H,g,r,go_sem]
      . rw[U]at k
        match z:c.toList,k with
        | [u],_=>
         rw[z]at d;have M:w.cell? ⟨l,0,none⟩=some u:=by
          have:=x.cellsAt 0 u (by rw[z];rfl);rwa[K4]at this
         refine⟨u::vs, ?_,u,vs,rfl,by rw[i];exact d,s⟩;have f:=Gy (P:=cx.P) (w:=w) V;rw[wQ];simp[jU,b,n,asAddr,loadVar,f,M,r,go_sem]
    . cases a
  . cases a
def C3.settleR:∀ {rs:List RT} {ss:List SV} {st:St} {Z:Nat->Prop},C3 za w0 st E w Z B->∃Z',C3 za w0 (settleR st rs ss) E w Z' B
 | .val _ _::rs,s::ss,st,Z,h=>by
  obtain⟨Z1,a⟩:=h.settle s.cs;exact C3.settleR (rs:=rs) (ss:=ss) a
 | .own _ _::rs,_::ss,st,Z,h=>C3.settleR (rs:=rs) (ss:=ss) h
 | .obox _ _::rs,s::ss,st,Z,h=>by
  simp only[Vc.settleR];split
  . split
    . obtain⟨Z1,a⟩:=h.settle _;exact C3.settleR (rs:=rs) (ss:=ss) a
    . exact C3.settleR (rs:=rs) (ss:=ss) h
  . exact C3.settleR (rs:=rs) (ss:=ss) h
 | [],_,st,Z,h=>⟨Z,h⟩
 | .val _ _:: _,[],st,Z,h=>⟨Z,h⟩
 | .own _ _:: _,[],st,Z,h=>⟨Z,h⟩
 | .obox _ _:: _,[],st,Z,h=>⟨Z,h⟩
 | .rows _ _ _::rs,_::ss,st,Z,h=>C3.settleR (rs:=rs) (ss:=ss) h
 | .rows _ _ _:: _,[],st,Z,h=>⟨Z,h⟩
def Pw (h:C3 za w0 st E w Z B) {Zn:Nat->Prop} (f:∀b,Zn b->Z b):∀ {rs:List RT} {ss:List SV} {vs:List Value} {r:Ae rs},((∀b,Z b->Zn b)\/rs.all A1r=true)->Ot w Z B ss vs->CE st rs ss=some r->(Ay rs ss).Nodup->Km rs=true->
 Ly w0.heap.size w Zn rs vs r/\∀u∈U3 rs vs,∀b,root u=some b->∃k∈Ay rs ss,A9 w (B k) (st.L k) b
 | [],[],vs,_,_,a,_,_,_=>⟨a,fun u c=>by simp[U3]at c⟩
 | [],_:: _,_,_,_,_,a,_,_=>by cases a
 | .val _ _:: _,[],_,_,_,_,a,_,_=>by cases a
 | .own _ _:: _,[],_,_,_,_,a,_,_=>by cases a
 | .obox _ _:: _,[],_,_,_,_,a,_,_=>by cases a
 | .rows _ _ _:: _,[],_,_,_,_,a,_,_=>by cases a
 | .rows v n o::rs,ac::ss,_,r,c,⟨ad,ae,e,Q,R⟩,A,z,F=>by
  simp only[CE,bind_some,qJ]at A;obtain⟨G,⟨q,l,s⟩,ai,g,rfl⟩:=A;subst e;obtain⟨a2,s⟩:=D7 s;have ah:=qO a2;have X:ac=⟨false,[.row q]⟩:=by
   unfold Qb at l;split at l
   . cases l;rfl
   . cases l
  subst X;obtain⟨_,_,N,t,_⟩:=Q;cases N;have t:ad=B q:=t;subst t;obtain⟨al,D⟩:=W4 s;have x:=h.locs q;rw[D]at x;have U:=x.rowsR;have y:∀b,A9 w (B q) (.rows v n o G [] none) b->A9 w (B q) (st.L q) b:=fun b a=>by rw[D];exact(T5 fun _ _=>rfl).1 a
  simp only[Km,Z9,Nq,qC,zA,wM,rO]at F;obtain⟨⟨aa,H⟩,ab⟩:=F;have Y:Ay (.rows v n o::rs) (⟨false,[.row q]⟩::ss)=q::Ay rs ss:=rfl;rw[Y]at z⊢;have a1:=sJ.1 z;obtain⟨O,P⟩:=Pw h f (c.imp id fun j=>by simp only[tG,qC]at j;exact j.2) R g a1.2 ab;have V:Bd w Zn v n o (B q) G:=by
   obtain⟨ag,a6,a7,a8,a9⟩:=U;refine⟨ag,a6,fun a5 I af W a3=>(a7 a5 I af W a3).imp fun aj g=>⟨g.1, ?_⟩,a8,a9⟩;rcases c with c|c
   . exact g.2.mono fun _ _=>C6.mono c (fun _ _=>rfl)
   . simp only[tG,qC]at c;exact g.2.mono fun _ _ j=>C6.flat c.1 j
  refine⟨⟨B q,ae,rfl,⟨V,fun b a=> ?_⟩,fun _=>⟨⟨aa,fun _=>H⟩,fun b a u d=>by rw[Tb H]at d;cases d⟩,O⟩,fun u d b a=> ?_⟩
  . obtain⟨i,J,M⟩:=(h.locs q).root (y b a);refine⟨?_,fun a4=>M (f b a4),J⟩;rcases i with i|i
    . exact i.2
    . have:=h.nms.1;omega
  . simp only[U3,qU]at d;rcases d with rfl|d
    . exact⟨q,by simp,y b (.inl a)⟩
    . obtain⟨k,a0,r⟩:=P u d b a;exact⟨k,qK _ a0,r⟩
 | .val g F::rs,s::ss,_,r,a,⟨v,G,e,t,x⟩,j,i,l=>by
  simp only[Km,qC]at l;obtain⟨H,z⟩:=l;simp only[CE,bind_some,qJ]at j;obtain⟨M,A,N,D,rfl⟩:=j;have y:Ay (.val g F::rs) (s::ss)=Ay rs ss:=by
   obtain⟨I,J⟩:=s;simp only[Ay]
  rw[y]at i⊢;obtain⟨n,o⟩:=Pw h f (a.imp id fun d=>by simp only[tG,qC]at d;exact d.2) x D i z;subst e;refine⟨⟨v,G,rfl, ?_,fun d=>(by cases d),n⟩,o⟩;have c:=De t A;rcases a with a|a
  . exact c.mono a (fun _ _=>rfl)
  . simp only[tG,qC]at a;cases g with
    |true=>obtain⟨cs,e,c⟩:=c;exact⟨cs,e,C6.flat a.1 c⟩
    |false=>exact C6.flat (cs:= [v]) a.1 c
 | .own y D::rs,ab::ss,_,r,g,⟨z,V,e,X,F⟩,M,l,P=>by
  simp only[Km,Z9,Nq,qC,zA,wM,g0t,g0n,g1i,rO]at P;obtain⟨N,O⟩:=P;simp only[CE,bind_some,qJ]at M;obtain⟨a8,⟨n,j,a0⟩,ac,R,rfl⟩:=M;subst e;have Y:ab=⟨false,[n]⟩:=by
   unfold c1 at j;split at j
   . cases j;rfl
   . cases j
  subst Y;obtain⟨_,_,W,a4,_⟩:=X;cases W;obtain⟨A,x,U,a9,aa⟩:=LO h a4 a0;have a6:=D8 x;have G:G1 (C6 y w Zn) A a8:=by
   rcases g with g|g
   . exact U.mono fun _ _=>C6.mono g (fun _ _=>rfl)
   . simp only[tG,qC]at g;exact U.mono fun _ _ d=>C6.flat g.1 d
  have H:(∀b,Z b->Zn b)\/rs.all A1r=true:=g.imp id fun d=>by simp only[tG,qC]at d;exact d.2
  rcases aa with⟨q,rfl,I,Q⟩ | ⟨a2,a1⟩
  . have s:Ay (.own y D::rs) (⟨false,[.row q]⟩::ss)=q::Ay rs ss:=rfl;rw[s]at l⊢;have J:=sJ.1 l;obtain⟨o,i⟩:=Pw h f H F R J.2 O;refine⟨⟨z,V,rfl,⟨A,x,G,fun b a a7=>a9 b a (f b a7)⟩,fun _=>⟨⟨N,fun d=>(by cases d)⟩,fun b a u c hub=> ?_⟩,o⟩,fun u c b a=> ?_⟩
    . obtain⟨k,t,a5⟩:=i u c b hub;have a3:root (B q)=some b:=by rw[<-Q];exact a
      exact h.disj q k b (fun d=>J.1 (d▸t)) (A9.of I a3) a5
    . simp only[U3,qU]at c;rcases c with rfl|c
      . exact⟨q,by simp,A9.of I (by rw[<-Q];exact a)⟩
      . obtain⟨k,t,r⟩:=i u c b a;exact⟨k,qK _ t,r⟩
  . have s:Ay (.own y D::rs) (⟨false,[n]⟩::ss)=Ay rs ss:=by cases n<;>first|rfl|exact absurd rfl (a1 _)
    rw[s]at l⊢;obtain⟨o,i⟩:=Pw h f H F R l O;have v:∀b,root z≠some b:=fun b a=>by rw[a2]at a;cases a
    refine⟨⟨z,V,rfl,⟨A,x,G,fun b a=>absurd (a6.trans a) (v b)⟩,fun _=>⟨⟨N,fun d=>(by cases d)⟩,fun b a=>absurd a (v b)⟩,o⟩,fun u c b a=> ?_⟩;simp only[U3,qU]at c;rcases c with rfl|c
    . exact absurd a (v b)
    . exact i u c b a
 | .obox T M::rs,ab::ss,_,r,a,⟨ac,ad,e,V,W⟩,G,D,J=>by
  simp only[Km,Z9,Nq,qC,zA,wM,g0t,g0n,g1i,rO]at J;obtain⟨a5,a6⟩:=J;simp only[CE,bind_some,qJ]at G;obtain⟨ae,⟨q,l,t⟩,ag,a9,rfl⟩:=G;subst e;obtain⟨a3,t⟩:=D7 t;have a0:ab=⟨false,[.box q 0]⟩:=by
   unfold ZD at l;split at l
   . cases l;rfl
   . cases l
  subst a0;obtain⟨_,_,R,⟨i,x,o⟩,_⟩:=V;cases R;obtain⟨cs,H,a4⟩:=Wj t;have z:=h.locs q;rw[H]at z;obtain⟨af,N,v,j,O,P,Q⟩:=z;rw[v]at x;cases x;have I:=Fl Q a4;have a7:C6 M w Zn N.toList ae:=by
   rcases a with a|a
   . exact C6.mono a (fun _ _=>rfl) I
   . simp only[tG,qC]at a;exact C6.flat a.1 I
  have a1:(∀b,Z b->Zn b)\/rs.all A1r=true:=a.imp id fun d=>by simp only[tG,qC]at d;exact d.2
  have a2:Ay (.obox T M::rs) (⟨false,[.box q 0]⟩::ss)=q::Ay rs ss:=rfl;rw[a2]at D⊢;have F:=sJ.1 D;obtain⟨U,y⟩:=Pw h f a1 W a9 F.2 a6;have X:w0.heap.size<=i:=by
   rcases j with j|j
   . exact j.2
   . have:=h.nms.1;have:=qO a3;omega
  have A:∀n,root (Value.pointer (some ⟨i,0,none⟩))=some n->A9 w (B q) (st.L q) n:=fun n Y=>by rw[H,v];exact Y
  refine⟨⟨ac,ad,rfl,⟨i,N,o,X,fun aa=>O (f i aa),P,a7⟩,fun _=>⟨⟨a5,fun d=>(by cases d)⟩,fun b c u g hub=> ?_⟩,U⟩,fun u g b c=> ?_⟩
  . obtain⟨k,s,a8⟩:=y u g b hub;rw[o]at c;exact h.disj q k b (fun d=>F.1 (d▸s)) (A b c) a8
  . simp only[U3,qU]at g;rcases g with rfl|g
    . rw[o]at c;exact⟨q,by simp,A b c⟩
    . obtain⟨k,s,r⟩:=y u g b c;exact⟨k,qK _ s,r⟩
def C3.settleM:∀ {as:List AM} {st:St} {j:Nat} {Z:Nat->Prop},C3 za w0 st E w Z B->∃Z',C3 za w0 (settleM st as j) E w Z' B
 | [],st,_,Z,h=>⟨Z,h⟩
 | .row _ _::r,st,j,Z,h=>C3.settleM (as:=r) h
 | .val _ _::r,st,j,Z,h=>C3.settleM (as:=r) h
 | .fn _ _ _::r,st,j,Z,h=>C3.settleM (as:=r) h
 | .rows _ _ _::r,st,j,Z,h=>C3.settleM (as:=r) h
 | .box _ _::r,st,j,Z,h=>by
  simp only[Vc.settleM];split
  . obtain⟨Z1,a⟩:=h.settle _;exact C3.settleM (as:=r) a
  . exact C3.settleM (as:=r) h
def Zu (h:C3 za w0 st E w Z B) {Zn:Nat->Prop} :∀ {as:List AM} {vs:List Value} {o:Lu as} {j:Nat},((∀b,Z b->Zn b)\/as.all B5r=true)->(∀m u,(D3 as vs)[m]? =some u->B (j+m)=u)->(∀m p,(O9 as vs)[m]? =some p->∀b,up za w0 (j+m) b->A9 w0 p.2 (lcA p.1) b)->vs.length=as.length->XR st as j=some o->Ux w0 w Zn as vs o
 | [],_,_,_,_,_,_,_,_=>trivial
 |a::r,[],_,_,_,_,_,c,_=>by simp at c
 | .val _ _::r,v::vs,o,j,g,d,f,i,k=>Zu (as:=r) h (g.imp id fun c=>by simp only[tG,qC]at c;exact c.2) d f (by simpa using i) k
 | .fn _ _ _::r,v::vs,o,j,g,d,f,i,k=>Zu (as:=r) h (g.imp id fun c=>by simp only[tG,qC]at c;exact c.2) d f (by simpa using i) k
 | .row D e::z,v::vs,o,j,c,k,s,t,n=>by
  simp only[XR,bind_some,qJ]at n;obtain⟨F,x,G,y,rfl⟩:=n;have r:B j=v:=k 0 v (by simp[D3,K6]);have l:=h.locs j;rw[Hr x]at l;obtain⟨A,g,i,_⟩:=l;rw[r]at g;refine⟨⟨A,g, ?_⟩,Zu (as:=z) h (c.imp id fun d=>by simp only[tG,qC]at d;exact d.2) (fun m u f=>by rw[show j+1+m=j+(m+1)from by omega];exact k (m+1) u (by simpa[D3,K6]using f)) (fun m p f=>by rw[show j+1+m=j+(m+1)from by omega];exact s (m+1) p (by simpa[O9,K6]using f)) (by simpa using t) y⟩;rcases c with c|c
  . exact i.mono fun _ _=>C6.mono c (fun _ _=>rfl)
  . simp only[tG,qC]at c;exact i.mono fun _ _ d=>C6.flat c.1 d
 | .box T I::F,v::vs,o,j,c,g,t,y,l=>by
  simp only[XR,bind_some,qJ]at l;obtain⟨J,A,M,D,rfl⟩:=l;have s:B j=v:=g 0 v (by simp[D3,K6]);obtain⟨H,x,z⟩:=Wj A;have i:=h.locs j;rw[x]at i;obtain⟨b,G,f,_,_,n,r⟩:=i;rw[s]at f;refine⟨⟨b,G,f,n, ?_⟩,Zu (as:=F) h (c.imp id fun k=>by simp only[tG,qC]at k;exact k.2) (fun m u d=>by rw[show j+1+m=j+(m+1)from by omega];exact g (m+1) u (by simpa[D3,K6]using d)) (fun m p d=>by rw[show j+1+m=j+(m+1)from by omega];exact t (m+1) p (by simpa[O9,K6]using d)) (by simpa using y) D⟩;have:=Fl r z;rcases c with c|c
  . exact C6.mono c (fun _ _=>rfl) this
  . simp only[tG,qC]at c;exact C6.flat c.1 this
 | .rows P e A::O,v::vs,o,j,c,n,t,i,y=>by
  simp only[XR,bind_some,qJ]at y;obtain⟨z,l,R,f,rfl⟩:=y;have r:B j=v:=n 0 v (by simp[D3,K6]);have s:=h.locs j;obtain⟨al,x⟩:=W4 l;rw[x]at s;have g:=s.rowsR;rw[r]at g;refine⟨⟨?_,fun b I=> ?_⟩,Zu (as:=O) h (c.imp id fun d=>by simp only[tG,qC]at d;exact d.2) (fun m u k=>by rw[show j+1+m=j+(m+1)from by omega];exact n (m+1) u (by simpa[D3,K6]using k)) (fun m p k=>by rw[show j+1+m=j+(m+1)from by omega];exact t (m+1) p (by simpa[O9,K6]using k)) (by simpa using i) f⟩
  . rcases c with c|c
    . exact g.mono c
    . simp only[tG,qC]at c;obtain⟨Q,D,F,G,H⟩:=g;exact⟨Q,D,fun M N z i l=>(F M N z i l).imp fun U f=>⟨f.1,f.2.mono fun _ _ d=>C6.flat c.1 d⟩,G,H⟩
  . have J:A9 w (B j) (st.L j) b:=by rw[x,r];exact(T5 fun _ _=>rfl).1 I
    exact t 0 (.rows P e A,v) (by simp[O9,K6]) b ((h.locs j).root J).1
variable {P:Program}
def Gm {n:Nat} :∀ {as:List AM} {vs:List Value} {x:A4 as} {i j s:Nat},Y3 P w Z as vs x->i<=s->(∀m u,(D3 as vs)[m]? =some u->B (j+m)=u)->j+Jg as<=n->RD w Z B E (find (0, .dead) s (Gd P as x i j)).2 ((vs[s-i]?).getD undef)/\IA n (find (0, .dead) s (Gd P as x i j)).2
 | [],_,_,_,_,_,_,_,_,_=>⟨trivial,trivial⟩
 |a::z,_,x,i,j,s,⟨v,F,e,g,f⟩,y,b,c=>by
  subst e;by_cases d:i=s
  . subst d;cases a with
    |val a t=>
     simp only[Gd,find,xX,qV,xK];exact⟨Aw.explode g,E7⟩
    |row t e=>
     simp only[Gd,find,xX,qV,xK];have k:B j=v:=b 0 v (by simp[D3,K6]);exact⟨⟨v,[],rfl,k.symm,rfl⟩,fun l h=>by simp at h;subst h;simp only[Jg]at c;show j<n;omega⟩
    |box T A=>
     simp only[Gd,find,xX,qV,xK];have o:B j=v:=b 0 v (by simp[D3,K6]);obtain⟨l,D,h,_⟩:=g;exact⟨⟨v,[],rfl,⟨l,o.trans h,h⟩,rfl⟩,fun t k=>by simp at k;subst k;simp only[Jg]at c;show j<n;omega⟩
    |rows t e o=>
     simp only[Gd,find,xX,qV,xK];have k:B j=v:=b 0 v (by simp[D3,K6]);exact⟨⟨v,[],rfl,k.symm,rfl⟩,fun l h=>by simp at h;subst h;simp only[Jg]at c;show j<n;omega⟩
    |fn k o=>
     simp only[Gd,find,xX,qV,xK];exact⟨⟨v,[],rfl,g,rfl⟩,fun l h=>by simp at h;subst h;trivial⟩
  . have r:s-i=(s-(i+1))+1:=by omega
    rw[r];cases a with
    |val a t=>
     simp only[Gd,find,E4 d,rF,uN];exact Gm (i:=i+1) (s:=s) f (by omega) b c
    |fn h k=>
     simp only[Gd,find,E4 d,rF,uN];exact Gm (i:=i+1) (s:=s) f (by omega) b c
    |row t e=>
     simp only[Gd,find,E4 d,rF,uN];exact Gm (i:=i+1) (s:=s) f (by omega) (fun m u h=>by rw[show j+1+m=j+(m+1)from by omega];exact b (m+1) u (by simpa[D3,K6]using h)) (by simp only[Jg]at c;omega)
    |box t e=>
     simp only[Gd,find,E4 d,rF,uN];exact Gm (i:=i+1) (s:=s) f (by omega) (fun m u h=>by rw[show j+1+m=j+(m+1)from by omega];exact b (m+1) u (by simpa[D3,K6]using h)) (by simp only[Jg]at c;omega)
    |rows t e k=>
     simp only[Gd,find,E4 d,rF,uN];exact Gm (i:=i+1) (s:=s) f (by omega) (fun m u h=>by rw[show j+1+m=j+(m+1)from by omega];exact b (m+1) u (by simpa[D3,K6]using h)) (by simp only[Jg]at c;omega)
def oO {n:Nat} {U:Nat->Nat->Prop} :∀ {as:List AM} {vs:List Value} {x:A4 as} {j k:Nat},Y3 P w Z as vs x->(∀m p,(O9 as vs)[m]? =some p->B (j+m)=p.2/\∀b,A9 w p.2 (lcA p.1) b->U (j+m) b)->
 RL (U k) w Z B k (find (0, .none) k (Cw as x j)).2/\BC n (find (0, .none) k (Cw as x j)).2/\(live (find (0, .none) k (Cw as x j)).2->j<=k/\∃p,(O9 as vs)[k-j]? =some p/\∀b,A9 w (B k) (find (0, .none) k (Cw as x j)).2 b->A9 w p.2 (lcA p.1) b):=by
 intro as
 induction as with
 |nil=>intro _ _ _ _ _ _;exact⟨trivial,trivial,fun h=>h.elim⟩
 |cons f r o=>
  intro vs x j k D c;obtain⟨v,y,e,h,i⟩:=D;subst e;have l:K6 f=true->j≠k->RL (U k) w Z B k (find (0, .none) k (Cw r x.2 (j+1))).2/\BC n (find (0, .none) k (Cw r x.2 (j+1))).2/\(live (find (0, .none) k (Cw r x.2 (j+1))).2->j<=k/\∃p,(O9 (f::r) (v::y))[k-j]? =some p/\∀b,A9 w (B k) (find (0, .none) k (Cw r x.2 (j+1))).2 b->A9 w p.2 (lcA p.1) b):=fun hm a=>by
   obtain⟨t,u,g⟩:=o (vs:=y) (x:=x.2) (j:=j+1) (k:=k) i (fun m p s=>by rw[show j+1+m=j+(m+1)from by omega];exact c (m+1) p (by simpa[O9,hm]using s));refine⟨t,u,fun d=>⟨by have:=(g d).1;omega, ?_⟩⟩;obtain⟨E,p,z,A⟩:=g d;refine⟨p, ?_,A⟩;rw[show k-j=(k-(j+1))+1 from by omega];simpa[O9,hm]using z
  cases f with
  |val f t=>exact o (x:=x.2) i c
  |fn f t=>exact o (x:=x.2) i c
  |row u s=>
   simp only[Cw,find];by_cases a:j=k
   . subst a;simp only[xX,qV];obtain⟨g,E⟩:=c 0 (.row u s,v) (by simp[O9,K6]);obtain⟨F,t,z,A⟩:=h;have g:B j=v:=g;refine⟨⟨F,by rw[g];exact t,z,fun b d=> ?_⟩,trivial,fun _=>⟨qR _,(.row u s,v),by simp[O9,K6],fun b d=>by rw[g]at d;exact d⟩⟩;rw[g]at d;exact⟨E b ((D8 t).trans d),A b d⟩
   . simp only[E4 a,rF];exact l rfl a
  |box T t=>
   simp only[Cw,find];by_cases a:j=k
   . subst a;simp only[xX,qV];obtain⟨d,E⟩:=c 0 (.box T t,v) (by simp[O9,K6]);obtain⟨b,F,g,u,z,A⟩:=h;have d:B j=v:=d;exact⟨⟨b,F,d.trans g,E b (by rw[g];rfl),u,z,S4 A⟩,E7,fun _=>⟨qR _,(.box T t,v),by simp[O9,K6],fun b s=>by rw[d]at s;exact s⟩⟩
   . simp only[E4 a,rF];exact l rfl a
  |rows u s t=>
   simp only[Cw,find];by_cases a:j=k
   . subst a;simp only[xX,qV];obtain⟨g,E⟩:=c 0 (.rows u s t,v) (by simp[O9,K6]);obtain⟨z,A⟩:=h;have g:B j=v:=g;refine⟨Bd.rl (by rw[g];exact z) fun b d=> ?_,fun p F=>(by cases F),fun _=>⟨qR _,(.rows u s t,v),by simp[O9,K6],fun b d=>by rw[g]at d;exact(T5 fun _ _=>rfl).1 d⟩⟩;rw[g]at d;exact⟨E b ((T5 fun _ _=>rfl).1 d),A b d⟩
   . simp only[E4 a,rF];exact l rfl a
def Y3.len:∀ {as:List AM} {vs:List Value} {x:A4 as},Y3 P w Z as vs x->vs.length=as.length
 | [],_,_,h=>by rw[show _= _ from h];rfl
 | _:: _,_,_,⟨v,b,e,_,a⟩=>by rw[e,rG,rG,Y3.len a]
def Y4:∀ {as:List AM} {vs:List Value},vs.length=as.length->(D3 as vs).length=Jg as
 | [],vs,_=>by cases vs<;>rfl
 |a::r,[],h=>by simp at h
 | .val _ _::r,v::vs,h=>Y4 (as:=r) (by simpa using h)
 | .fn _ _ _::r,v::vs,h=>Y4 (as:=r) (by simpa using h)
 | .row _ _::r,v::vs,h=>by simp only[D3,K6,qV,rG,Jg];rw[Y4 (as:=r) (by simpa using h)]
 | .box _ _::r,v::vs,h=>by simp only[D3,K6,qV,rG,Jg];rw[Y4 (as:=r) (by simpa using h)]
 | .rows _ _ _::r,v::vs,h=>by simp only[D3,K6,qV,rG,Jg];rw[Y4 (as:=r) (by simpa using h)]
def Sp:∀(as:List AM) (vs:List Value),D3 as vs=(O9 as vs).map (·.2)
 | [],vs=>by cases vs<;>rfl
 | _:: _,[]=>rfl
 |a::r,v::vs=>by
  simp only[D3,O9];cases K6 a
  . exact Sp r vs
  . simp only[qV,rW,Sp r vs]
def Dis.get:∀ {l:List (AM×Value)} {m c b:Nat} {u a:AM×Value},Dis w l->m<c->l[m]? =some u->l[c]? =some a->A9 w u.2 (lcA u.1) b->¬A9 w a.2 (lcA a.1) b
 | [],_,_,_,_,_,_,_,h,_,_=>by simp at h
 |v::l,0,c+1,b,u,a,g,i,h,d,f=>by
  simp at h d;subst h;exact g.1 b f a (sW d)
 |v::l,m+1,c+1,b,u,a,g,i,h,d,f=>by
  simp at h d;exact Dis.get g.2 (by omega) h d f
 |v::l,_,0,_,_,_,_,d,_,_,_=>by omega
def eJ (as:List AM) (vs:List Value):Nat->Value:=fun j=>((D3 as vs)[j]?).getD (.bool false)
def AB:∀ {as:List AM} {vs:List Value} {x:A4 as},Y3 P w Z as vs x->∀u∈D3 as vs,u.oneCell'=true
 | [],vs,_,_,u,a=>by cases vs<;>cases a
 | .val _ _::r,_,_,⟨v,c,e,_,a⟩,u,b=>by subst e;exact AB (as:=r) a u b
 | .fn _ _ _::r,_,_,⟨v,c,e,_,a⟩,u,b=>by subst e;exact AB (as:=r) a u b
 | .row t d::r,_,_,⟨v,f,e,⟨h,g,_⟩,c⟩,u,a=>by
  subst e;simp only[D3,K6,qV,qU]at a;rcases a with rfl|a
  . rcases g.2 with⟨b,_⟩ | ⟨_,_,_,b,_⟩<;>rw[b]<;>rfl
  . exact AB (as:=r) c u a
 | .rows t d f::r,_,_,⟨v,h,e,⟨⟨i,g,_⟩,_⟩,c⟩,u,a=>by
  subst e;simp only[D3,K6,qV,qU]at a;rcases a with rfl|a
  . rcases g.2 with⟨b,_⟩ | ⟨_,_,_,b,_⟩<;>rw[b]<;>rfl
  . exact AB (as:=r) c u a
 | .box t d::r,_,_,⟨v,h,e,⟨c,f,g,_⟩,b⟩,u,a=>by
  subst e;simp only[D3,K6,qV,qU]at a;rcases a with rfl|a
  . rw[g];rfl
  . exact AB (as:=r) b u a
def Gq:∀ {as:List AM} {x:A4 as} {j k:Nat},¬live (find (0, .none) k (Cw as x j)).2->(find (0, .none) k (Cw as x j)).2= .none
 | [],_,_,_,_=>rfl
 | .val _ _::r,x,j,k,h=>Gq (as:=r) (x:=x.2) (j:=j) h
 | .fn _ _ _::r,x,j,k,h=>Gq (as:=r) (x:=x.2) (j:=j) h
 | .row t b::r,x,j,k,h=>by
  simp only[Cw,find]at h⊢;cases a:Nat.beq j k with
  |true=>rw[a]at h;exact absurd trivial h
  |false=>rw[a]at h;exact Gq (as:=r) h
 | .rows t b c::r,x,j,k,h=>by
  simp only[Cw,find]at h⊢;cases a:Nat.beq j k with
  |true=>rw[a]at h;exact absurd trivial h
  |false=>rw[a]at h;exact Gq (as:=r) h
 | .box T t::r,x,j,k,h=>by
  simp only[Cw,find]at h⊢;cases a:Nat.beq j k with
  |true=>rw[a]at h;exact absurd trivial h
  |false=>rw[a]at h;exact Gq (as:=r) h
def B9o (w:World) (as:List AM) (vs:List Value):Nat->Nat->Prop:=fun k b=>∃p:AM×Value,(O9 as vs)[k]? =some p/\A9 w p.2 (lcA p.1) b
def zn0 (w:World) (Z:Nat->Prop) (as:List AM) (vs:List Value):Zn:=⟨Z,kR w as vs,Jg as,eJ as vs,0,0,B9o w as vs,fun _ _ ⟨p,hp,hb⟩=>⟨p,sW hp,hb⟩,[]⟩
def B3e {as:List AM} {vs:List Value} {x:A4 as} (J:∀b,Z b->b<w.heap.size) (h:Y3 P w Z as vs x) (D:Dis w (O9 as vs)):C3 (zn0 w Z as vs) w (oN P as x) (MS vs) w Z (eJ as vs):=by
 have O:=Y4 (Y3.len h);have z:∀m u,(D3 as vs)[m]? =some u->eJ as vs (0+m)=u:=fun m u a=>by simp only[eJ,sA,a,vO]
 have g:∀(m:Nat) (p:AM×Value),(O9 as vs)[m]? =some p->(D3 as vs)[m]? =some p.2:=fun m p a=>by rw[Sp,vA,a];rfl
 have d:=fun k=>oO (P:=P) (w:=w) (Z:=Z) (B:=eJ as vs) (n:=Jg as) (U:=fun k b=>up (zn0 w Z as vs) w k b) (j:=0) (k:=k) h (fun m p a=>⟨z m p.2 (g m p a),fun b l=> .inr ⟨by have:=MO (g m p a);simp only[sA];show m<Jg as;omega,p,by simpa using a,l⟩⟩)
 have A:=fun s=>Gm (P:=P) (w:=w) (Z:=Z) (B:=eJ as vs) (E:=MS vs) (n:=Jg as) (i:=0) (j:=0) (s:=s) h (rK _) z (by omega)
 refine⟨Gl.of (P9.refl w),J,fun s=>(A s).1,fun k=>(d k).1,fun k o b Q r t=> ?_,fun s=>(A s).2,fun k=>(d k).2.1,fun k F=> ?_,fun k=> ?_,fun b l=> .inl l,⟨rfl,qR _⟩,fun _ _=>rfl,⟨rK _,fun _ _ _ _=>rK _⟩,trivial,fun M H=>(by cases H)⟩
 . obtain⟨_,p,c,v⟩:=(d k).2.2 r.live;obtain⟨_,R,f,y⟩:=(d o).2.2 t.live;simp only[g0p]at c f;rcases sD k o with I|N
   . exact D.get I c f (v b r) (y b t)
   . exact D.get (by omega:o<k) f c (y b t) (v b r)
 . by_cases G:live ((oN P as x).L k)
   . obtain⟨_,p,c,_⟩:=(d k).2.2 G;simp only[g0p]at c;have:=MO (g k p c);have F:Jg as<=k:=F;omega
   . exact Gq G
 . simp only[eJ];cases a:(D3 as vs)[k]? with
   |none=>rfl
   |some u=>exact AB h u (sW a)
def A9g {f:FuncId} {fn:Func} {c:Code} {s:B4} (a0:cx.P.funcs[f]? =some fn) (a:fn.body=some c) (a1:s.args.length<=fn.ntmps) (a3:Ax fn.ntmps c=true) (Q:G2 cx.P cx.tys=true) (a9:Rr cx.P sp)
 (ac:∀x,awf s.args x->s.pre x->B8c cx sp an s fn.results.toList c x):B6 cx.P f s:=by
 intro w Z i x ad H Y a5;have v:i.length=s.args.length:=H.len;have a8:=ac x H.awf a5;generalize k:zn0 w Z s.args i=za;have M:=B3e ad H Y;rw[k]at M;refine MJ a0 a (by rw[v];exact a1) a3 (fun E l=>Nx za w (fin cx s fn.results.toList x) E l) ?_ ⟨fun a4 U G=> ?_⟩
 . rintro E l A ab ⟨st,Z',B',D,h⟩;unfold fin at h;split at h
   . rename_i ss af;split at h
     . rename_i ah aa;split at h
       . rename_i z R G a2;obtain⟨g,r⟩:=B8 h;simp only[qC]at g;obtain⟨Z0,X⟩:=C3.settleR (rs:=s.res) (ss:=ss) D;obtain⟨Z1,n⟩:=C3.settleM (as:=s.args) (j:=0) X;obtain⟨B,V,W⟩:=IB Q n ab aa;have a7:(results fn A).run cx.P l= .ok (Xy B) l:=by
          have d:(fn.results.mapM (jU A)).run cx.P l= .ok B.toArray l:=by
           rw[yS];simp[V]
          have e:results fn A=(do let i<-fn.results.mapM (jU A);pure (if D:i.size=1 then i[0]else .tuple i)):=by
           unfold results;congr 1
          rw[e];simp only[Sem.run_bind,d,Result.andThen_ok,Sem.run_pure]
          match B with
          | []=>rfl
          | [u]=>rfl
          |u::ai::z=>rfl
         have O:s.post x z/\(O8 s.args=true->s.mpost x z R):=by
          unfold B9l at r;cases d:O8 s.args with
          |true=>simp only[d,qV]at r;exact⟨r.1,fun _=>r.2⟩
          |false=>simp only[d,rF]at r;exact⟨r,fun o=>by cases o⟩
         refine⟨_,a7, ?_,z,R,B,(fun b=>s.shared=true/\Z1 b),O.1,O.2,rfl,fun b a=> ?_, ?_, ?_⟩
         . have:=D.ext;rw[<-k]at this;exact this
         . rcases n.zin b a.2 with o|o
           . rw[<-k]at o;exact .inr ⟨a.1,o⟩
           . exact .inl ⟨o,n.zlt b a.2⟩
         . refine(Pw n (Zn:=fun b=>s.shared=true/\Z1 b) (fun b a=>a.2) ?_ W G (Hm g.1.1) g.1.2).1;cases I:s.shared with
           |true=>exact .inl fun b a=>⟨rfl,a⟩
           |false=>rw[I]at g;simp only[wM,qC]at g;exact .inr g.2.1
         . refine Zu (Zn:=fun b=>s.shared=true/\Z1 b) n (j:=0) ?_ (fun m u d=> ?_) (fun m p d b t=> ?_) v a2
           . cases I:s.shared with
             |true=>exact .inl fun b a=>⟨rfl,a⟩
             |false=>rw[I]at g;simp only[wM,qC]at g;exact .inr g.2.2
           . have y:=MO d;rw[Y4 v]at y;have:=n.bfix m (by rw[<-k];exact y);rw[sA,this, <-k];show eJ s.args i m=u;simp only[eJ,d,vO]
           . rw[<-k,sA]at t;rcases t with⟨t,_⟩ | ⟨_,ag,N,a⟩
             . have y:=MO (show(D3 s.args i)[m]? =some p.2 by rw[Sp,vA,d];rfl);rw[Y4 v]at y;have t:Jg s.args<=m:=t;omega
             . rw[d]at N;cases N;exact a
       . exact h.elim
     . exact h.elim
   . exact h.elim
 . refine wp_mono (A2t Q a9 (by rw[<-k];rfl) M a8 a4 U G) ?_;rintro e ae l ⟨E',a6,T,Z',B',J,F⟩;refine⟨E',a6, ?_⟩;cases e with
   |normal=>exact⟨T,Z',B',J,F⟩
   |ret=>exact⟨T,Z',B',J,F⟩
   | _=>exact F.elim
def A9h {f:FuncId} {fn:Func} {c:Code} {s:B4} {a:A4 s.args->Prop} (g:cx.P.funcs[f]? =some fn) (b:fn.body=some c) (h:s.args.length<=fn.ntmps) (i:Ax fn.ntmps c=true) (k:G2 cx.P cx.tys=true) (j:Rr cx.P sp)
 (d:∀x,B8c cx sp an s fn.results.toList c x=a x) (l:∀x,awf s.args x->s.pre x->a x):B6 cx.P f s:=
 A9g g b h i k j fun x n a=>by rw[d];exact l x n a
def B8d (P:Program) (tys:List (Nat×TI)) (sp:G8) (an:An) (s:B4) (fn:Func) (x:A4 s.args):Prop:=B8c ⟨P,tys⟩ sp an s fn.results.toList (fn.body.getD .skip) x
def A9i {P:Program} {tys:List (Nat×TI)} {sp:G8} {an:An} {f:FuncId} {fn:Func} {s:B4} {g:A4 s.args->Prop} (i:P.funcs[f]? =some fn) (b:fn.body.isSome=true) (j:Nat.ble s.args.length fn.ntmps=true) (k:Ax fn.ntmps (fn.body.getD .skip)=true) (n:G2 P tys=true) (l:Rr P sp)
 (h:∀x,B8d P tys sp an s fn x=g x) (o:∀x,awf s.args x->s.pre x->g x):B6 P f s:=by
 cases a:fn.body with
 |none=>rw[a]at b;cases b
 |some c=>
  have d:fn.body.getD .skip=c:=by rw[a];rfl
  refine A9h (cx:=⟨P,tys⟩) (an:=an) (c:=c) i a (qO j) (by rw[<-d];exact k) n l (fun x=> ?_) o;rw[<-h x, <-d];rfl
def AG (a:Nat):Nat->List SV->List (Nat×Nat×DV)
 | _,[]=> []
 |i,s::b=>(i,a, .one s)::AG a (i+1) b
def fA (st:St) (ss:List SV):St:=⟨AG (st.ct+1) 0 ss,st.lc,st.nx,st.ct+1,st.nm,st.sl::st.fr⟩
def pS (cx:Cx) (b:List ResultVar) (k:St->List SV->Prop) (st:St):Prop:=
 match st.fr with
 |f::a=>(match Xn cx st b with
  |some b=>k ⟨f,st.lc,st.nx,st.ct,st.nm,a⟩ b
  |none=>False)
 | []=>False
def KQ (cx:Cx) (b:List (Nat×G8×An)) (a:List ResultVar) (c:Code) (n d:Nat) (st:St) (ss:List SV) (k:St->List SV->Prop):Prop:=
 match Fa d b with
 |some (sp,an)=>bif Nat.ble ss.length n then Lv cx sp an c ⟨pS cx a k,fun _ _=>False,pS cx a k⟩ (fA st ss)else False
 |none=>False
def aZ {g:List ResultVar} {k k':St->List SV->Prop} {ss:List SV} {a:St} (ev:C4 (fA st ss) a) (h:pS cx g k a) (n:∀a f,C4 st a->k a f->k' a f):pS cx g k' a:=by
 unfold pS at h⊢;cases c:a.fr with
 |nil=>rw[c]at h;exact h
 |cons i j=>
  rw[c]at h;simp only at h⊢;split at h
  . have e:=ev.f;rw[c]at e;have e:N9 (st.ct+1) st.sl i/\Y2 (st.ct+1) st.fr j:=e;refine n _ _ ⟨qX (uU _) ev.ct,fun s d b=> ?_,fun q d b=>ev.l q d (xI b),e.2.le (uU _)⟩ h;exact N9.find s e.1 (xI b)
  . exact h
def A8p (f:List (Nat×G8×An)) (j:List ResultVar) (c:Code) (n:Nat) {st:St} {d:Nat} {ss:List SV} {k k':St->List SV->Prop} (h:KQ cx f j c n d st ss k) (g:∀a i,C4 st a->k a i->k' a i):KQ cx f j c n d st ss k':=by
 unfold KQ at h⊢;split at h
 . obtain⟨l,h⟩:=B8 h;simp only[l,qV];refine LQ h fun e a ev b=> ?_
   cases e with
   |normal=>exact aZ ev b g
   |ret=>exact aZ ev b g
   | _=>exact b
 . exact h
def Xb (cx:Cx) (a:List (Nat×G8×An)) (b:List ResultVar) (c:Code) (n:Nat):Inl:= {run:=KQ cx a b c n,step:=A8p a b c n}
def IE {c s:Nat} :∀ {ss:List SV} {i:Nat},(find (0, .dead) s (AG c i ss)).2=if i<=s then(match ss[s-i]? with|some v=> .one v|none=> .dead)else .dead
 | [],i=>by simp[AG,find]
 |v::ss,i=>by
  simp only[AG,find];cases b:Nat.beq i s with
  |true=>
   have:=qD b;subst this;simp
  |false=>
   have d:i≠s:=vE b;simp only[rF,IE (ss:=ss) (i:=i+1)];by_cases a:i+1<=s
   . rw[qL a,qL (by omega),show s-i=(s-(i+1))+1 from by omega,uN]
   . rw[qH a,qH (by omega)]
def Ot.len {w:World} {Z:Nat->Prop} {B:Nat->Value} :∀ {ss:List SV} {vs:List Value},Ot w Z B ss vs->vs.length=ss.length
 | [],_,h=>by rw[show _= _ from h];rfl
 | _:: _,_,⟨v,b,e,_,a⟩=>by rw[e,rG,rG,Ot.len a]
def LM (h:C3 za w0 st E w Z B):∀ {f:List ResultVar} {ss:List SV},Xn cx st f=some ss->∀s∈ss,Kl st.nx s
 | [],_,a=>by cases a;intro s a;cases a
 | .tmp t::r,ss,a=>by
  simp only[Xn]at a;split at a
  . rename_i g d;simp only[qJ]at a;obtain⟨i,c,rfl⟩:=a;intro s b;rcases qU.1 b with rfl|b
    . have:=h.refs t;rw[d]at this;exact this
    . exact LM h c s b
  . cases a
 | .cell g t::r,ss,a=>by
  simp only[Xn,qG,bind_some]at a;obtain⟨ti,_,a⟩:=a;split at a
  . rename_i k _;split at a
    . rename_i T i c;obtain⟨_,a⟩:=D7 a;simp only[qJ]at a;obtain⟨j,d,rfl⟩:=a;intro s b;rcases qU.1 b with rfl|b
      . have:=h.refl k;rw[c]at this;exact this
      . exact LM h d s b
    . cases a
  . cases a
def A0y (P:Program) (a:List (Nat×G8×An)):Prop:=∀x∈a,Rr P x.2.1
def ZM {α:Type} {d:Nat} {x:α} :∀ {l:List (Nat×α)},Fa d l=some x->(d,x)∈l
 | [],h=>by cases h
 | (t,y)::l,h=>by
  simp only[Fa]at h;cases a:Nat.beq t d with
  |true=>
   rw[a]at h;have:=qD a;subst this;cases h;simp
  |false=>rw[a]at h;exact qK _ (ZM h)
def Np {f:FuncId} {fn:Func} {c:Code} {r:List (Nat×G8×An)} (X:cx.P.funcs[f]? =some fn) (V:fn.body=some c) (a5:Ax fn.ntmps c=true) (I:G2 cx.P cx.tys=true) (l:A0y cx.P r):gC cx.P f (Xb cx r fn.results.toList c fn.ntmps):=by
 refine {go:= ?_};intro za w0 st E w Z B N i k J W h G a9 d;have d:KQ cx r fn.results.toList c fn.ntmps N st i J:=d;unfold KQ at d;split at d
 . rename_i sp an a1;have l:=l _ (ZM a1);simp only at l;obtain⟨x,d⟩:=B8 d;have x:=qO x;have a3:=G.len;have A:∀s,(fA st i).S s=match i[s]? with|some v=> .one v|none=> .dead:=fun s=>by
    show(find (0, .dead) s (AG (st.ct+1) 0 i)).2= _;rw[IE,qL (rK _)];rfl
   have U:C3 {za with es:=E::za.es} w0 (fA st i) (MS k) w Z B:=by
    refine⟨h.ext,h.zlt,fun s=> ?_,h.locs,h.disj,fun s=> ?_,h.refl,h.fresh,h.bone,h.zin,h.nms,h.bfix,h.mrk,⟨h.slots,h.frs⟩,fun H o s=> ?_⟩
    . rw[A];cases z:i[s]? with
      |none=>trivial
      |some v=>
       obtain⟨u,O,Q⟩:=G.get z;show RS w Z B v (MS k s);simp only[MS,O,vO];exact Q
    . rw[A];cases z:i[s]? with
      |none=>trivial
      |some v=>exact a9 v (sW z)
    . rcases qU.1 o with rfl|o
      . exact h.refs s
      . exact h.frf H o s
   refine MJ X V (by rw[a3];exact x) a5 (fun E' j=>Nx {za with es:=E::za.es} w0 (pS cx fn.results.toList J) E' j) ?_ ⟨fun a6 M a7=> ?_⟩
   . rintro E' j n ab ⟨g,Z',B',a,b⟩;unfold pS at b;have F:=a.frs;have t:=a.frf;cases D:g.fr with
     |nil=>rw[D]at b;exact b.elim
     |cons z O=>
      rw[D]at b F t;simp only at b;obtain⟨Y,a0⟩:=F;split at b
      . rename_i ac H;obtain⟨o,R,T⟩:=IB I a ab H;have aa:(results fn n).run cx.P j= .ok (Xy o) j:=by
         have a4:(fn.results.mapM (jU n)).run cx.P j= .ok o.toArray j:=by
          rw[yS];simp[R]
         have e:results fn n=(do let k<-fn.results.mapM (jU n);pure (if h:k.size=1 then k[0]else .tuple k)):=by
          unfold results;congr 1
         rw[e];simp only[Sem.run_bind,a4,Result.andThen_ok,Sem.run_pure]
         match o with
         | []=>rfl
         | [u]=>rfl
         |u::af::ae=>rfl
        exact⟨_,aa,⟨z,g.lc,g.nx,g.ct,g.nm,O⟩,Z',B',ac,o,⟨a.ext,a.zlt,Y,a.locs,a.disj,fun s=>t z (by simp) s,a.refl,a.fresh,a.bone,a.zin,a.nms,a.bfix,a.mrk,a0,fun Q a2 s=>t Q (by simp[a2]) s⟩,rfl,T,LM a H,b⟩
      . exact b.elim
   . refine wp_mono (A2t I l (by exact W) U d a6 M a7) ?_;rintro e ad j ⟨E',a8,g,Z',B',a,y⟩;refine⟨E',a8, ?_⟩;cases e with
     |normal=>exact⟨g,Z',B',a,y⟩
     |ret=>exact⟨g,Z',B',a,y⟩
     | _=>exact y.elim
 . exact d.elim
def Dx (run:Inl):B4:= {args:= [],res:= [],pre:=fun _=>False,post:=fun _ _=>True,inl:=some run}
end
end Go.Vc
namespace Go.Proofs.YtljgpjhcieidbaaGreat
open Go.IntKind (i64 u64 u32)
def nv:List Int->Nat
 | []=>0
 |a::l=>a.toNat+4294967296*nv l
def nc (n:Nat):List Int:=if h:n=0 then []else((n%4294967296:Nat):Int)::nc (n/4294967296)
termination_by n
decreasing_by omega
def eF (x:Int):Prop:=0<=x/\x<=4294967295
def A8 (l:List Int):Prop:=∀x∈l,eF x
def O4:nc 0= []:=by rw[nc];rfl
def LA {n:Nat} (h:n≠0):nc n=((n%4294967296:Nat):Int)::nc (n/4294967296):=by rw[nc];simp[h]
def F3 (n:Nat):nv (nc n)=n:=by
 induction n using Nat.strongRecOn with
 | _ n a=>
  by_cases h:n=0
  . subst h;rw[O4];rfl
  . rw[LA h];simp only[nv,a (n/4294967296) (by omega)];omega
def J4 (n:Nat):A8 (nc n):=by
 induction n using Nat.strongRecOn with
 | _ n b=>
  by_cases h:n=0
  . subst h;rw[O4];intro x a;cases a
  . rw[LA h];intro x a;rcases qU.1 a with rfl|a
    . unfold eF;omega
    . exact b (n/4294967296) (by omega) x a
def Xc {n:Nat} :nc n= []↔n=0:=by
 constructor
 . intro h;by_cases a:n=0
   . exact a
   . rw[LA a]at h;cases h
 . rintro rfl;exact O4
def A2f (a:Int) (m:Nat) (b:eF a) (h:a≠0\/m≠0):nc (a.toNat+4294967296*m)=a::nc m:=by
 unfold eF at b;rw[LA (by omega)];congr 1
 . omega
 . congr 1;omega
def Po (a b:List Int):nv (a++b)=nv a+4294967296^a.length*nv b:=by
 induction a with
 |nil=>simp[nv]
 |cons x a c=>
  simp only[xS,nv,c,rG,rZ];rw[sX, <-uE, <-sO,sN 4294967296 (4294967296^a.length)]
def Pp (n:Nat):nv (List.replicate n 0)=0:=by
 induction n with
 |zero=>rfl
 |succ n a=>simp[List.replicate_succ,nv,a]
def TB {a:Int} {l:List Int} :A8 (a::l)↔eF a/\A8 l:=by simp[A8]
def Ff {l:List Int} (h:A8 l):nv l<4294967296^l.length:=by
 induction l with
 |nil=>simp[nv]
 |cons b l a=>
  rw[TB]at h;have:=a h.2;have a:=h.1;unfold eF at a;simp only[nv,rG,rZ];omega
def C0a {l:List Int} (h:A8 l) (c:∀x,l.getLast? =some x->x≠0):nc (nv l)=l:=by
 induction l with
 |nil=>exact O4
 |cons b l a=>
  rw[TB]at h;simp only[nv];cases l with
  |nil=>
   have:=c b rfl;rw[A2f b _ h.1 (.inl this)];simp only[nv,O4]
  |cons d l=>
   have a:=a h.2 (fun x hx=>c x (by rw[List.getLast?_cons_cons];exact hx));have g:nv (d::l)≠0:=by
    intro f;rw[f,O4]at a;cases a
   rw[A2f b _ h.1 (.inr g),a]
def A2g {l:List Int} (h:A8 l) {n:Nat} (f:n<=l.length) (k:∀i x,n<=i->l[i]? =some x->x=0) (d:n=0\/∃x,l[n-1]? =some x/\x≠0):l.take n=nc (nv l):=by
 have e:nv l=nv (l.take n):=by
  conv=>lhs;rw[<-uK n l]
  rw[Po];have:l.drop n=List.replicate (l.length-n) 0:=by
   apply xH;intro i;rw[wZ];by_cases c:n+i<l.length
   . rw[qS c,uO,qL (by omega)];rw[k (n+i) l[n+i] (by omega) (qS c)]
   . rw[rU (by omega),rU (by simp;omega)]
  rw[this,Pp];simp
 rw[e]
 symm
 apply C0a
 . intro x a;exact h x (sC a)
 . intro x a;rw[List.getLast?_eq_getElem?,qY,sZ f]at a;rcases d with b| ⟨y,g,j⟩
   . subst b;simp at a
   . rw[rX (by
      rcases vD n with b|b
      . subst b;simp at a
      . omega),g]at a
     cases a;exact j
def Ed {n k:Nat} (h:n<4294967296^k):(nc n).length<=k:=by
 induction k generalizing n with
 |zero=>have:n=0:=by simpa using h
        subst this;rw[O4];exact qR _
 |succ k b=>
  by_cases a:n=0
  . subst a;rw[O4];exact rK _
  . rw[LA a,rG];have:n/4294967296<4294967296^k:=by
     rw[tN (by decide)];rw[rZ]at h;exact h
    have:=b this;omega
def C9 {l:List Int} (h:A8 l):(nc (nv l)).length<=l.length:=Ed (Ff h)
def A9q {n k:Nat} (h:k<(nc n).length):4294967296^k<=n:=by
 rcases sD n (4294967296^k)with a|a
 . have:=Ed a;omega
 . exact a
def J1 {m n:Nat} (h:m<=n):(nc m).length<=(nc n).length:=by
 apply Ed;have:=Ff (J4 n);rw[F3]at this;omega
def Gr (n:Nat):n<4294967296^(nc n).length:=by
 have:=Ff (J4 n);rwa[F3]at this
def Nt (m n:Nat):(nc (m*n)).length<=(nc m).length+(nc n).length:=by
 apply Ed;rw[uV];have a:=Gr m;have b:=Gr n;exact Nat.mul_lt_mul'' a b
def KZ (m n:Nat):(nc (m+n)).length<=max (nc m).length (nc n).length+1:=by
 apply Ed;have a:=Gr m;have a:=Gr n;have a:4294967296^(nc m).length<=4294967296^(max (nc m).length (nc n).length):=rY (by decide) (Nat.le_max_left ..);have a:4294967296^(nc n).length<=4294967296^(max (nc m).length (nc n).length):=rY (by decide) (g4n ..);rw[rZ];omega
abbrev Ja:=Bool×List Int
abbrev C7:=Ja×List Int
def Bq (a b:Nat):Int:=if a<b then -1 else if b<a then 1 else 0
def O0 (a b:Int):Int:=if a<b then -1 else if b<a then 1 else 0
def iv (x:Ja):Int:=if x.1=true then -(nv x.2:Int)else(nv x.2:Int)
def ic (v:Int):Ja:=(decide (v<0),nc v.natAbs)
def B8b (x:C7):Int:=if nv x.2=0 then 0 else(iv x.1).sign
def rv (x:C7):Rat:=mkRat (iv x.1) (nv x.2)
def rc (q:Rat):C7:=(ic q.num,nc q.den)
def J2 (x:C7):Prop:=nv x.1.2<2147483648/\nv x.2<2147483648
instance (x:C7):Decidable (J2 x):=by unfold J2;infer_instance
def Pn (x:C7):Int:=if nv x.2=0 then 0 else iv x.1
def Lt (x:C7):Int:=if nv x.2=0 then 1 else(nv x.2:Int)
def zi:Ja:=(false,[])
def zr:C7:=((false,[]),[])
def ri (k:Int):C7:=(ic k,[1])
abbrev Gb (l:List Int):Prop:=l.length<=35184372088832
abbrev E3 (l:List Int):Prop:=l.length<=17592186044416
abbrev T3 (l:List Int):Prop:=l.length<=8796093022208
def D9 (x:C7):Prop:=x.1.2.length<=2199023255552/\x.2.length<=2199023255552
def Bn (a b:Ja):Rat:=Rat.divInt (iv a) (iv b)
def K3 (n:Nat):Nat:=if n=0 then 0 else Nat.log2 n+1
def B7k (A B u0 u1 v0 v1:Int) (ev:Bool):Prop:=v0=0\/∃A' B':Int,A'=(if ev then u0*A-v0*B else v0*B-u0*A)/\B'=(if ev then v1*B-u1*A else u1*A-v1*B)/\0<=B'/\B'<=A'/\A=v1*A'+v0*B'/\B=u1*A'+u0*B'/\1<=v0/\1<=v1/\0<=u0/\0<=u1
def Lc (l:List Int):Prop:=l.getD (l.length-1) 0≠0
end Go.Proofs.YtljgpjhcieidbaaGreat
namespace Go.Proofs.YtljgpjhcieidbaaGreat
open Go.Vc Go.Gw
open Go.IntKind (i64 u64 u32)
def M0 (a b:Bool):J5 a true b=(a||b):=by cases a<;>rfl
def H9 (a b:Bool):J5 a b false=(a&&b):=by cases a<;>rfl
def wr {a:Int} (b: -9223372036854775808<=a) (c:a<=9223372036854775807):i64.wrap a=a:=IntWalk.i64_in _ ⟨b,c⟩
def wv {a:Int} (h: -9223372036854775808<=a/\a<=9223372036854775807):i64.wrap a=a:=wr h.1 h.2
def I5 {α:Type} {d:α} {l:List α} {i:Int} (a:0<=i) (b:i<(l.length:Int)):gx d l i∈l:=sW (H3 a b)
def T1 {α:Type} {d:α} {l:List α} {i:Int} (a:0<=i) (b:i<(l.length:Int)):gx d l i=l.getD i.toNat d:=by
 have:=H3 (d:=d) a b;rw[qE,this];rfl
def Lz {α:Type} {d:α} {l:List α} {q:α->Prop} {i:Int} (b:0<=i) (c:i<(l.length:Int)) (f:∀x∈l.take i.toNat,q x) (g:q (gx d l i)):∀x∈l.take (i+1).toNat,q x:=by
 intro x a;rw[show(i+1).toNat=i.toNat+1 from by omega,rR,H3 (d:=d) b c]at a;simp at a;rcases a with a|rfl
 . exact f x a
 . exact g
def H2 {α:Type} {l:List α} {i:Int} (h:(l.length:Int)<=i):l.take i.toNat=l:=qQ (by omega)
def PZ:u32.max=4294967295:=by decide
def QA:u32.min=0:=by decide
def AN:u64.max=18446744073709551615:=by decide
def fO:u64.min=0:=by decide
def Zx:i64.max=9223372036854775807:=by decide
def Sj:i64.min= -9223372036854775808:=by decide
def A3 {l:List Int} (h:∀x∈l,u32.min<=x/\x<=u32.max):A8 l:=fun x a=>by
 have:=h x a;rw[QA,PZ]at this;exact this
def V4 {a:Int} (b:0<=a) (c:a<=18446744073709551615):u64.wrap a=a:=IntWalk.u64_in _ ⟨b,c⟩
def w32 {a:Int} (b:0<=a) (c:a<=4294967295):u32.wrap a=a:=IntWalk.u32_in _ ⟨b,c⟩
def Bi (a:Int):u32.wrap a=a%4294967296:=IntKind.wrap_u32 a
def Bj (a:Int):u64.wrap a=a%18446744073709551616:=IntKind.wrap_u64 a
def Sn {l:List Int} (h:A8 l) {i:Int} (a:0<=i) (b:i<(l.length:Int)):0<=gx 0 l i/\gx 0 l i<=4294967295:=h _ (I5 a b)
def MZ {v:Int} (a:0<=v) (b:v<18446744073709551616):(BitVec.ofInt 64 v).toNat=v.toNat:=by
 rw[xV];congr 1;omega
def UM {v b:Int} {k:Nat} (v0:0<=v) (v1:v<2^k) (b0:0<=b) (c:b*2^k<18446744073709551616) (d:v<18446744073709551616):(((BitVec.ofInt 64 v|||BitVec.ofInt 64 (b*2^k)).toNat:Nat):Int)=v+b*2^k:=by
 have a:0<=b*2^k:=tI b0 (Int.pow_nonneg (by decide));rw[BitVec.toNat_or,MZ v0 d,MZ a c];have e:(b*2^k).toNat=b.toNat<<<k:=by
  rw[g4o,g3o b0 (Int.pow_nonneg (by decide)),Int.toNat_pow_of_nonneg (by decide)];rfl
 have c:v.toNat<2^k:=by
  have:(v.toNat:Int)<((2^k:Nat):Int):=by rw[uD v0,xG];exact v1
  exact uJ.1 this
 rw[e,Nat.or_comm, <-g0e c, <-e,wA,uD v0,uD a,Int.add_comm]
def HI {l:List Int} {i:Int} (a:0<=i) (b:i<(l.length:Int)):nv (l.take (i+1).toNat)=nv (l.take i.toNat)+4294967296^i.toNat*(gx 0 l i).toNat:=by
 rw[show(i+1).toNat=i.toNat+1 from by omega,rR,H3 (d:=(0:Int)) a b,zO,Po,qY,sZ (by omega)];simp[nv]
def T8 {l:List Int} {i:Int} (a:0<=i) (b:i<(l.length:Int)):l.drop i.toNat=gx 0 l i::l.drop (i+1).toNat:=by
 have h:=H3 (d:=(0:Int)) a b;have a:i.toNat<l.length:=by omega
 rw[qS a]at h;rw[xF a,show(i+1).toNat=i.toNat+1 from by omega];congr 1;exact yB h
def eP {a b:List Int} (f:A8 a) (_:A8 b) (r:a.length=b.length) {i:Int} (c:0<=i) (d:i<(a.length:Int)) (j:a.drop (i+1).toNat=b.drop (i+1).toNat) (t:gx 0 a i<gx 0 b i):nv a<nv b:=by
 have k:nv a=nv (a.take i.toNat)+4294967296^i.toNat*nv (a.drop i.toNat):=by
  conv=>lhs;rw[<-uK i.toNat a,Po,qY,sZ (by omega)]
 have n:nv b=nv (b.take i.toNat)+4294967296^i.toNat*nv (b.drop i.toNat):=by
  conv=>lhs;rw[<-uK i.toNat b,Po,qY,sZ (by omega)]
 have s:=Sn f c d;have g:nv (a.drop i.toNat)+1<=nv (b.drop i.toNat):=by
  rw[T8 c d,T8 c (by omega),j];simp only[nv];omega
 have o:nv (a.take i.toNat)<4294967296^i.toNat:=by
  have:=Ff (l:=a.take i.toNat) fun x hx=>f x (sC hx)
  rwa[qY,sZ (by omega)]at this
 have h:=rT (4294967296^i.toNat) g;rw[sX,wR]at h;omega
def AC {m n:Nat} (h:(nc m).length<(nc n).length):m<n:=by
 rcases sD m n with a|a
 . exact a
 . have:=J1 a;omega
def Sq:nc 1= [1]:=by rw[LA (by decide)];simp[O4]
def B7r:nv [1]=1:=rfl
def eO:nv []=0:=rfl
def aO (n:Nat):Bq n n=0:=by simp[Bq]
def Md {m n:Nat} (h:m<n):Bq m n= -1:=by simp[Bq,h]
def PT {m n:Nat} (h:n<m):Bq m n=1:=by
 unfold Bq;rw[qH (by omega),qL h]
def TQ {m n:Nat} :Bq m n=0↔m=n:=by
 unfold Bq;split
 . omega
 . split<;>omega
def J7 (v:Int):iv (ic v)=v:=by
 unfold iv ic;simp only[rS,F3];split<;>omega
def A8k {neg:Bool} {m:Nat} :ic (iv (neg,nc m))=(neg&&decide (m≠0),nc m):=by
 unfold ic iv;simp only[F3];cases neg
 . simp
 . simp only[xM,vY,Prod.mk.injEq,wL];constructor
   . omega
   . congr 1;omega
def B9q {x:Ja} :ic (iv x)=(x.1&&decide (nv x.2≠0),nc (nv x.2)):=by
 have:iv x=iv (x.1,nc (nv x.2)):=by unfold iv;simp only[F3]
 rw[this,A8k]
def B7z (k:Int):nv (ri k).2=1:=rfl
def fB (k:Int):rc (k:Rat)=ri k:=by
 unfold rc ri;rw[g2n,g2m,Sq]
def bH (k:Int):rv (ri k)=(k:Rat):=by
 unfold rv;rw[B7z];show mkRat (iv (ic k)) 1= _;rw[J7];exact Rat.mkRat_one k
def H8 (q:Rat):rv (rc q)=q:=by
 unfold rv rc;simp only[J7,F3];exact g1a q
def B4h (x:C7):B8b x=(rv x).num.sign:=by
 unfold B8b rv;split
 . rename_i h;rw[h,yP];rfl
 . rename_i h;rw[Rat.num_mkRat,qH h];have b:(0:Int)<(((nv x.2).gcd (iv x.1).natAbs:Nat):Int):=by
    have:=g1s (iv x.1).natAbs (sY h);omega
   have c:(((nv x.2).gcd (iv x.1).natAbs:Nat):Int)∣iv x.1:=xW.2 (yM ..);obtain⟨d,a⟩:=c;generalize (((nv x.2).gcd (iv x.1).natAbs:Nat):Int)=g at b a;rw[a,xN _ (by omega),g4c,uS b,Int.one_mul]
def Mc {x:Int} {d:Nat} (a:d≠0):(mkRat x d).num=x/((d.gcd x.natAbs:Nat):Int)/\(mkRat x d).den=d/d.gcd x.natAbs:=by
 rw[Rat.num_mkRat,Rat.den_mkRat,qH a,qH a];exact⟨rfl,rfl⟩
def dg (l:List Int) (i:Nat):Nat:=(l.getD i 0).toNat
def I7 (l:List Int) (i:Nat):nv (l.take (i+1))=nv (l.take i)+4294967296^i*dg l i:=by
 unfold dg;by_cases h:i<l.length
 . have:=HI (l:=l) (i:=(i:Int)) (by omega) (by omega);rw[show((i:Int)+1).toNat=i+1 from by omega,qT]at this;rw[this,T1 (by omega) (by omega),qT]
 . rw[qQ (by omega),qQ (by omega),qE,rU (by omega)];simp
def M5 {l:List Int} (h:A8 l) (i:Nat):dg l i<=4294967295:=by
 unfold dg;by_cases a:i<l.length
 . rw[qE,qS a];have:=h l[i] (wI a);unfold eF at this;simp only[vO];omega
 . rw[qE,rU (by omega)];simp
def Ek {l:List Int} (h:A8 l) {i:Int} (a:0<=i) (b:i<(l.length:Int)):gx 0 l i=(dg l i.toNat:Int):=by
 have:=Sn h a b;unfold dg;rw[<-T1 (d:=(0:Int)) a b];omega
def V9 {l:List Int} (h:A8 l) {i:Nat} :l.getD i 0=(dg l i:Int):=by
 unfold dg;by_cases a:i<l.length
 . have:=h l[i] (wI a);unfold eF at this;rw[qE,qS a];simp only[vO];omega
 . rw[qE,rU (by omega)];rfl
def Nm {l:List Int} {i:Nat} (h:l.length<=i):dg l i=0:=by
 unfold dg;rw[qE,rU h];rfl
def R8 {l:List Int} {i:Nat} {v:Int} (h:i<l.length):nv ((l.set i v).take (i+1))=nv (l.take i)+4294967296^i*v.toNat:=by
 rw[I7,yW (qR _)];unfold dg;rw[qE,sF h];rfl
def Ii:∀ {l:List Int} {k:Nat} {v:Int},k<l.length->nv (l.set k v)+4294967296^k*dg l k=nv l+4294967296^k*v.toNat
 | [],_,_,h=>by simp at h
 |a::l,0,v,_=>by simp[nv,dg];omega
 |a::l,k+1,v,h=>by
  have d:=Ii (l:=l) (k:=k) (v:=v) (by simpa using h);have e:dg (a::l) (k+1)=dg l k:=by simp[dg]
  rw[e];simp only[g3u,nv,rZ];generalize nv (l.set k v)=A at*;have b:4294967296^k*4294967296*dg l k=4294967296*(4294967296^k*dg l k):=by rw[sN (4294967296^k) 4294967296,sO]
  have c:4294967296^k*4294967296*v.toNat=4294967296*(4294967296^k*v.toNat):=by rw[sN (4294967296^k) 4294967296,sO]
  rw[b,c,uE,uE, <-sX, <-sX,d]
def aD {l:List Int} {k:Nat} {v:Int} (h:A8 l) (b:eF v):A8 (l.set k v):=fun x a=>by
 rcases List.mem_or_eq_of_mem_set a with a|a
 . exact h x a
 . rw[a];exact b
def Wr {l:List Int} {k i:Nat} {v:Int} (a:k<l.length):dg (l.set k v) i=if i=k then v.toNat else dg l i:=by
 unfold dg;rw[qE,yJ];by_cases h:k=i
 . subst h;rw[qL rfl,qL a,qL rfl];rfl
 . rw[qH h,qH (fun e=>h e.symm),qE]
def GX (n i:Nat):dg (List.replicate n 0) i=0:=by
 unfold dg;rw[qE,uO];split<;>rfl
def MY {l:List Int} {i:Nat} (h:∀j,i<=j->dg l j=0):nv (l.take i)=nv l:=by
 have b:∀k,nv (l.take (i+k))=nv (l.take i):=by
  intro k
  induction k with
  |zero=>rfl
  |succ k a=>rw[<-uE,I7,a,h (i+k) (by omega),wN,sS]
 rw[<-b l.length,qQ (by omega)]
def aS {P A B o c a b s d:Nat} (h:o+P*c=A+B) (f:s+4294967296*d=c+a+b):(o+P*s)+(P*4294967296)*d=(A+P*a)+(B+P*b):=by
 have:=tC (P* ·) f;simp only[sX, <-sO]at this;omega
def TR {P A B o c a b s d:Nat} (h:A+P*c=o+B) (f:a+4294967296*d=s+b+c):(A+P*a)+(P*4294967296)*d=(o+P*s)+(B+P*b):=by
 have:=tC (P* ·) f;simp only[sX, <-sO]at this;omega
def A4r {a b:List Int} (c:A8 a) (d:A8 b):nv a+nv b<4294967296^(max a.length b.length+1):=by
 have f:=Ff c;have h:=Ff d;have g:4294967296^a.length<=4294967296^(max a.length b.length):=rY (by decide) (Nat.le_max_left ..);have i:4294967296^b.length<=4294967296^(max a.length b.length):=rY (by decide) (g4n ..);rw[rZ];generalize 4294967296^(max a.length b.length)=P at*;omega
def DT {P c x:Nat} (h:P*c<=x) (a:x<P):c=0:=by
 rcases vD c with a|a
 . exact a
 . have:=rT P a;omega
def Ig (l:List Int):iv (false,l)=(nv l:Int):=rfl
def SZ (l:List Int):iv (true,l)= -(nv l:Int):=rfl
def A8u (b:Bool) (l:List Int):iv (!b,l)= -iv (b,l):=by
 cases b
 . rfl
 . show(nv l:Int)= - -(nv l:Int);omega
def W1 (v:Int):(ic v).2.length=(nc v.natAbs).length:=rfl
def oL:ic 1=(false,[1]):=by unfold ic;rw[show(1:Int).natAbs=1 from rfl,Sq];rfl
def dS:ic 0=(false,[]):=by unfold ic;rw[show(0:Int).natAbs=0 from rfl,O4];rfl
def A2m:rc 0=((false,[]),[1]):=by
 unfold rc;rw[Rat.zero_num,Rat.zero_den,dS,Sq]
def iW {a:Ja} {b:Ja} (h:iv b=1):Bn a b=((iv a:Int):Rat):=by
 unfold Bn;rw[h];have:=g0a (iv a) 1;rw[show((1:Nat):Int)=1 from rfl]at this;rw[this];exact Rat.mkRat_one _
def A3y {a:Ja} {b:Ja} (h:iv b=0):Bn a b=0:=by
 unfold Bn;rw[h,Rat.divInt_zero]
def B4i (x:C7):Bn x.1 (false,x.2)=rv x:=by
 unfold Bn rv;rw[Ig,g0a]
end Go.Proofs.YtljgpjhcieidbaaGreat
namespace Go.Proofs.YtljgpjhcieidbaaGreat
open Go.IntKind (i64 u64 u32)
structure XD (U V v1 v2 t u2 P:Nat):Prop where
 pos:0<P
 v1p:0<v1
 v1b:v1<4294967296
 v2b:v2<4294967296
 u2b:u2<4294967296
 vlo:(v1*4294967296+v2)*P<=V
 vhi:V<(v1*4294967296+v2+1)*P
 ulo:(t*4294967296+u2)*P<=U
 uhi:U<(t*4294967296+u2+1)*P
 lt:U<V*4294967296
variable {U V v1 v2 t u2 P:Nat}
def XD.vpos (h:XD U V v1 v2 t u2 P):0<V:=by
 have a:=h.vlo;have a:0<(v1*4294967296+v2)*P:=g3e (by have:=h.v1p;omega) h.pos;omega
def XD.quo (h:XD U V v1 v2 t u2 P):U/V<4294967296:=by
 rw[tN h.vpos,sN];exact h.lt
def A1x {a b c P Q:Nat} (f:0<P) (h:a*P<=Q) (g:Q<(b+1)*P) (d:c<=a):c<=b:=by
 have f:c*P<=a*P:=rI _ d;have d:c*P<(b+1)*P:=by omega
 have:=xA d;omega
def XD.top (h:XD U V v1 v2 t u2 P):t*4294967296+u2<(v1*4294967296+v2+1)*4294967296:=by
 have a:=h.ulo;have a:=h.lt;have a:=rI 4294967296 (vN h.vhi);have a:(t*4294967296+u2)*P<((v1*4294967296+v2+1)*4294967296)*P:=by
  have b:V*4294967296<(v1*4294967296+v2+1)*P*4294967296:=wX h.vhi (by decide);rw[zN];omega
 exact xA a
def XD.t_le (h:XD U V v1 v2 t u2 P):t<=v1*4294967296+v2:=by
 have:=h.top;omega
def XD.est (h:XD U V v1 v2 t u2 P):U/V*v1<=t:=by
 have a:U/V*V<=U:=yX U V;have b:U/V*(v1*4294967296+v2)*P<=U:=by
  rw[sO];exact qX (rT _ h.vlo) a
 have a:U/V*(v1*4294967296+v2)<=t*4294967296+u2:=A1x h.pos b h.uhi (qR _);rw[sX, <-sO]at a;have:=h.u2b;omega
def XD.dec (h:XD U V v1 v2 t u2 P) {d r:Nat} (f:t=d*v1+r) (a:U/V<=d) (b:4294967296<=d\/r*4294967296+u2<d*v2):U/V+1<=d:=by
 rcases sD (U/V) d with a|a
 . omega
 . exfalso;have c:U/V=d:=by omega
   rcases b with b|b
   . have:=h.quo;omega
   . have a:d*V<=U:=by rw[<-c];exact yX U V
     have b:d*(v1*4294967296+v2)*P<=U:=by
      rw[sO];exact qX (rT _ h.vlo) a
     have a:d*(v1*4294967296+v2)<=t*4294967296+u2:=A1x h.pos b h.uhi (qR _);rw[sX, <-sO,f,uX]at a;omega
def XD.near (h:XD U V v1 v2 t u2 P) {d r:Nat} (c:t=d*v1+r) (g:d<4294967296) (a:d*v2<=r*4294967296+u2):d<=U/V+1:=by
 have a:=h.ulo;have b:d*(v1*4294967296+v2)<=t*4294967296+u2:=by
  rw[c,uX,sX, <-sO];omega
 have c:d*(v1*4294967296+v2)*P<=U:=qX (rI _ b) a;have a:d*V<=d*((v1*4294967296+v2+1)*P):=rT _ (vN h.vhi);have b:d*((v1*4294967296+v2+1)*P)=d*(v1*4294967296+v2)*P+d*P:=by
  rw[<-sO,sX d,wR,uX]
 have f:d*P<V:=by
  have i:d*P<4294967296*P:=wX g h.pos;have g:4294967296*P<=(v1*4294967296+v2)*P:=rI _ (by have:=h.v1p;omega);have:=h.vlo;omega
 have g:d*V<U+V:=xY (qX a (Nat.le_of_eq b)) (Nat.add_lt_add_of_le_of_lt c f);rcases vD d with a|a
 . rw[a];exact rK _
 . have a:(d-1)*V<U:=by
    have:d*V=(d-1)*V+V:=by
     conv=>lhs;rw[show d=d-1+1 from by omega,uX,xJ]
    omega
   have:=(vJ h.vpos).2 (vN a);omega
def XD.out (h:XD U V v1 v2 t u2 P) {d r:Nat} (c:t=d*v1+r) (b:4294967296<=r) (a:U/V<=d):d<4294967296/\d*v2<=r*4294967296+u2:=by
 have a:=h.t_le;have a:=h.v2b;have b:d<4294967296:=by
  rcases sD d 4294967296 with a|a
  . exact a
  . have:=rI v1 a;rw[sN 4294967296]at this;omega
 refine⟨b, ?_⟩;have a:d*v2<=4294967295*4294967295:=uZ (by omega) (by omega);omega
end Go.Proofs.YtljgpjhcieidbaaGreat
namespace Go.Proofs.YtljgpjhcieidbaaGreat
open Go.Vc Go.Gw
open Go.IntKind (i64 u64 u32)
def Zm:K3 0=0:=rfl
def cG (n:Nat):n<2^K3 n:=by
 unfold K3;split
 . rename_i h;subst h;decide
 . exact Nat.lt_log2_self
def Zl {n:Nat} (h:n≠0):2^(K3 n-1)<=n/\1<=K3 n:=by
 unfold K3;rw[qH h,Nat.add_sub_cancel];exact⟨Nat.log2_self_le h,by omega⟩
def B2g {n k:Nat} (a:2^k<=n) (b:n<2^(k+1)):K3 n=k+1:=by
 have c:0<2^k:=tL (by decide);unfold K3;rw[qH (by omega)];congr 1;exact(Nat.log2_eq_iff (by omega)).2 ⟨a,b⟩
def GQ {n k:Nat} (h:2^k<=n):K3 n=K3 (n/2^k)+k:=by
 have a:0<2^k:=tL (by decide);have c:n/2^k≠0:=by
  have:1<=n/2^k:=(vJ a).2 (by omega);omega
 obtain⟨b,d⟩:=Zl c;have c:=cG (n/2^k);have e:K3 (n/2^k)+k=(K3 (n/2^k)-1+k)+1:=by omega
 rw[e];apply B2g
 . rw[uV];have:=(vJ a).1 b;exact this
 . rw[show K3 (n/2^k)-1+k+1=K3 (n/2^k)+k from by omega,uV];exact(tN a).1 c
def RG (p q:Rat):Int:=if p<q then -1 else if q<p then 1 else 0
def RH {a b:Int} {c d:Nat} (f:c≠0) (g:d≠0):RG (mkRat a c) (mkRat b d)=O0 (a*d) (b*c):=by
 have h:∀ {a b:Int} {c d:Nat},c≠0->d≠0->(mkRat a c<mkRat b d↔a*d<b*c):=fun {a b c d} f g=>by
  have i:(0:Rat)<(c:Rat):=Rat.natCast_pos.2 (sY f);have j:(0:Rat)<(d:Rat):=Rat.natCast_pos.2 (sY g);rw[yR,yR,Rat.div_lt_iff i,uA,tY,xZ _ (c:Rat), <-tY, <-uA,Rat.lt_div_iff j];have:(a:Rat)*(d:Rat)=((a*(d:Int):Int):Rat):=by rw[g0h];rfl
  have i:(b:Rat)*(c:Rat)=((b*(c:Int):Int):Rat):=by rw[g0h];rfl
  rw[this,i,Rat.intCast_lt_intCast]
 unfold RG O0;simp only[h f g,h g f]
def A3o {p q:Rat} (h:p.num.sign≠q.num.sign):RG p q=O0 p.num.sign q.num.sign:=by
 have l:=g3h p;have n:=g3h q;have e:RG p q=O0 (p.num*q.den) (q.num*p.den):=by
  have:=RH (a:=p.num) (b:=q.num) p.den_nz q.den_nz;rwa[g1a,g1a]at this
 rw[e];have j:(p.num*(q.den:Int)).sign=p.num.sign:=by rw[g4c,uS (show(0:Int)<q.den by omega),Int.mul_one]
 have k:(q.num*(p.den:Int)).sign=q.num.sign:=by rw[g4c,uS (show(0:Int)<p.den by omega),Int.mul_one]
 rw[<-j, <-k]at h⊢;generalize p.num*(q.den:Int)=x at*;generalize q.num*(p.den:Int)=y at*;have i:∀z:Int,(z<0/\z.sign= -1)\/(z=0/\z.sign=0)\/(0<z/\z.sign=1):=fun z=>by
  rcases g1e z 0 with h|h|h
  . exact .inl ⟨h,wY h⟩
  . exact .inr (.inl ⟨h,by rw[h];rfl⟩)
  . exact .inr (.inr ⟨h,uS h⟩)
 unfold O0;rcases i x with⟨f,c⟩ | ⟨f,c⟩ | ⟨f,c⟩<;>rcases i y with⟨g,d⟩ | ⟨g,d⟩ | ⟨g,d⟩<;>rw[c,d]at h⊢ <;>first|exact absurd rfl h| (split<;>(try split)<;>(try split)<;>(try split)<;>omega)
end Go.Proofs.YtljgpjhcieidbaaGreat
namespace Go.Proofs.YtljgpjhcieidbaaGreat
open Go.IntKind (i64 u64 u32)
structure Leh (X Y w x y u0 u1 u2 v0 v1 v2:Int) (ev:Bool):Prop where
 yx:y<=x
 y0:0<=y
 x0:0<x
 u10:0<=u1
 u20:0<=u2
 v10:0<=v1
 v20:1<=v2
 uv2:u2<=v2
 ex:x=if ev then v1*Y-u1*X else u1*X-v1*Y
 ey:y=if ev then u2*X-v2*Y else v2*Y-u2*X
 idX:x*v2+y*v1=X
 idY:x*u2+y*u1=Y
 det:u1*v2-u2*v1=if ev then -1 else 1
 /--At the start,or with what the cofactors before need. -/
 back:(u0=0/\u1=1/\v0=0/\v1=0/\ev=false/\u2=0/\v2=1)\/(0<=u0/\0<=v0/\u1<=v1/\v1<=x/\u0<=w/\v0<=w/\w-x>=v0+v1/\(v0=0\/u0<=v0)/\1<=v1/\
  w=(if ev then u0*X-v0*Y else v0*Y-u0*X)/\(u0*v1-u1*v0=if ev then 1 else -1))
def Leh.start {X Y:Int} (b:0<=Y) (h:Y<=X) (a:0<X):Leh X Y 0 X Y 0 1 0 0 0 1 false where
 yx:=h
 y0:=b
 x0:=a
 u10:=by decide
 u20:=by decide
 v10:=by decide
 v20:=by decide
 uv2:=by decide
 ex:=by simp
 ey:=by simp
 idX:=by omega
 idY:=by omega
 det:=by simp
 back:= .inl ⟨rfl,rfl,rfl,rfl,rfl,rfl,rfl⟩
def Leh.step {X Y w x y u0 u1 a v0 v1 v2:Int} {ev:Bool} (h:Leh X Y w x y u0 u1 a v0 v1 v2 ev) (c1:v2<=y) (G:v1+v2<=x-y):Leh X Y x y (x%y) u1 a (u1+x/y*a) v1 v2 (v1+x/y*v2) (!ev):=by
 have E:=h.v20;have j:0<y:=by omega
 have z:1<=x/y:=by
  rw[g2b j];have:=h.yx;omega
 have B:=g2g x (b:=y) (by omega);have D:=zI x j;have H:x=y*(x/y)+x%y:=(yE x y).symm;have i:x%y=x-x/y*y:=by rw[g2c (x/y)];omega
 have u:=h.idX;have v:=h.idY;have k:=h.det;have d:=h.ex;have f:=h.ey;have n:=h.u20;have l:=h.u10;have F:=h.v10;have o:=h.uv2;generalize x/y=q at*;have A:0<=q*a:=tI (by omega) n;have J:1*v2<=q*v2:=sH z (by omega);have I:q*a<=q*v2:=tV o (by omega);refine⟨wV D,B,j,n,Int.add_nonneg l A,by omega,by omega, ?_, ?_, ?_, ?_, ?_, ?_, .inr ⟨l,F,o,c1, ?_,by omega,by omega, ?_,E, ?_, ?_⟩⟩
 . rcases h.back with⟨_,c,_,g,_,r,s⟩ | ⟨_,_,c,_⟩
   . subst r s;omega
   . omega
 . cases ev<;>simpa using f
 . rw[i];cases ev
   . simp only[g0t,vY,vT,yQ]at d f⊢;rw[d,f];grind
   . simp only[zA,vY,vT,yQ]at d f⊢;rw[d,f];grind
 . rw[i, <-u];grind
 . rw[i, <-v];grind
 . have t:a*(v1+q*v2)-(u1+q*a)*v2= -(u1*v2-a*v1):=by
    grind
   rw[t,k];cases ev<;>simp
 . rcases h.back with⟨_,c,_,g,_⟩ | ⟨_,_,c,_⟩<;>omega
 . rcases h.back with⟨_,c,_,g,_⟩ | ⟨_,_,c,_⟩
   . exact .inl g
   . exact .inr c
 . cases ev<;>simpa using d
 . rw[k];cases ev<;>simp
def Leh.apply {X Y w x y u0 u1 D v0 v1 v2:Int} {ev:Bool} (h:Leh X Y w x y u0 u1 D v0 v1 v2 ev) (l:v0≠0) {P α a A B:Int} (I:0<P) (j:0<=α) (J:α<P) (k:0<=a) (M:a<P) (d:A=X*P+α) (f:B=Y*P+a):
 ∃A' B':Int,A'=(if ev then u0*A-v0*B else v0*B-u0*A)/\B'=(if ev then v1*B-u1*A else u1*A-v1*B)/\0<=B'/\B'<=A'/\A=v1*A'+v0*B'/\B=u1*A'+u0*B'/\1<=v0/\1<=v1/\0<=u0/\0<=u1:=by
 rcases h.back with⟨_,_,o,_⟩ | ⟨n,G,E,R,O,Q,H,z,F,c,det⟩
 . exact absurd o l
 have N:u0<=v0:=z.resolve_left l;have i:=h.u10;refine⟨_,_,rfl,rfl, ?_, ?_, ?_, ?_,by omega,F,n,i⟩
 . --the second combination is not negative
   have b:=h.ex;have g:0<=(x-v1)*P:=tI (by omega) (by omega);have r:0<=u1*α:=tI i j;have s:v1*a<=v1*P:=tV (by omega) (by omega);have t:0<=v1*a:=tI (by omega) k;have u:u1*α<=u1*P:=tV (by omega) i;have v:u1*P<=v1*P:=sH E (by omega);rw[Int.sub_mul]at g;cases ev
   . simp only[vT,yQ]at b⊢;have:u1*A-v1*B=x*P+u1*α-v1*a:=by
      rw[d,f,b];grind
     omega
   . simp only[vY]at b⊢;have:v1*B-u1*A=x*P+v1*a-u1*α:=by
      rw[d,f,b];grind
     omega
 . have b:=h.ex;have g:0<=(w-x-(v0+v1))*P:=tI (by omega) (by omega);have r:0<=(u0+u1)*α:=tI (by omega) j;have s:(v0+v1)*a<=(v0+v1)*P:=tV (by omega) (by omega);have t:0<=(v0+v1)*a:=tI (by omega) k;have u:(u0+u1)*α<=(u0+u1)*P:=tV (by omega) (by omega);have v:(u0+u1)*P<=(v0+v1)*P:=sH (by omega) (by omega);rw[Int.sub_mul]at g;cases ev
   . simp only[vT,yQ]at b c⊢;have:v0*B-u0*A-(u1*A-v1*B)=(w-x)*P+(v0+v1)*a-(u0+u1)*α:=by
      rw[d,f,b,c];grind
     omega
   . simp only[vY]at b c⊢;have:u0*A-v0*B-(v1*B-u1*A)=(w-x)*P+(u0+u1)*α-(v0+v1)*a:=by
      rw[d,f,b,c];grind
     omega
 . cases ev
   . simp only[vT,yQ]at det⊢;have:v1*(v0*B-u0*A)+v0*(u1*A-v1*B)= -(u0*v1-u1*v0)*A:=by
      grind
     rw[this,det];omega
   . simp only[vY]at det⊢;have:v1*(u0*A-v0*B)+v0*(v1*B-u1*A)=(u0*v1-u1*v0)*A:=by
      grind
     rw[this,det];omega
 . cases ev
   . simp only[vT,yQ]at det⊢;have:u1*(v0*B-u0*A)+u0*(u1*A-v1*B)= -(u0*v1-u1*v0)*B:=by
      grind
     rw[this,det];omega
   . simp only[vY]at det⊢;have:u1*(u0*A-v0*B)+u0*(v1*B-u1*A)=(u0*v1-u1*v0)*B:=by
      grind
     rw[this,det];omega
def A8e {A B A' B' u0 u1 v0 v1 s t p q:Int} (a:A=v1*A'+v0*B') (b:B=u1*A'+u0*B') (c:A'=s*A+t*B) (d:B'=p*A+q*B):Int.gcd A B=Int.gcd A' B':=by
 apply Nat.dvd_antisymm
 . apply Int.dvd_gcd
   . rw[c];exact g2v (uW (zY ..)) (uW (zP ..))
   . rw[d];exact g2v (uW (zY ..)) (uW (zP ..))
 . apply Int.dvd_gcd
   . rw[a];exact g2v (uW (zY ..)) (uW (zP ..))
   . rw[b];exact g2v (uW (zY ..)) (uW (zP ..))
end Go.Proofs.YtljgpjhcieidbaaGreat
namespace Go.Proofs.YtljgpjhcieidbaaGreat
open Go.Vc Go.Gw
open Go.IntKind (i64 u64 u32)
def AJ {s:Nat} (a:s<=32):4294967296=2^s*2^(32-s):=by
 rw[<-uV,show s+(32-s)=32 from by omega]
def Jv (n:Nat):4294967296^n=2^(32*n):=by
 rw[show(4294967296:Nat)=2^32 from rfl, <-g1g]
def B5h {a low lo H P s:Nat} (b:0<P) (f:a=low+lo*P+H*(P*4294967296)) (g:low<P) (c:s<=31):a*2^s/(P*4294967296)=H*2^s+lo/2^(32-s):=by
 have c:0<P*4294967296:=g3e b (by decide);have d:0<2^s:=tL (by decide);have e:a*2^s=(low+lo*P)*2^s+H*2^s*(P*4294967296):=by
  rw[f,uX,zN H]
 rw[e,yG _ _ c,vS];congr 1;have c:P*4294967296=P*2^(32-s)*2^s:=by rw[sO,sN (2^(32-s)), <-AJ (by omega)]
 rw[c,zX _ _ d, <-vM,yG _ _ b,uF g,sA]
def A5h {a s m:Nat} (h:s<=m):a*2^s/2^m=a/2^(m-s):=by
 have b:0<2^s:=tL (by decide)
 conv=>lhs;rw[show m=m-s+s from by omega,uV,zX _ _ b]
def eN (l:List Int) (i:Nat) (h:i<=l.length):nv l=nv (l.take i)+4294967296^i*nv (l.drop i):=by
 conv=>lhs;rw[<-uK i l,Po,qY,sZ h]
def S5 {l:List Int} (h:A8 l) (i:Nat):nv (l.take i)<4294967296^i:=by
 have a:=Ff (l:=l.take i) fun x hx=>h x (sC hx)
 refine rC a (rY (by decide) ?_);rw[qY];exact g2j ..
def Su (l:List Int) {n:Nat} (h:l.length<=n+1):nv l=nv (l.take n)+4294967296^n*dg l n:=by
 conv=>lhs;rw[<-qQ h,I7]
def A2i (l:List Int) {n:Nat} (h:l.length<=n+2):nv l=nv (l.take n)+4294967296^n*(dg l (n+1)*4294967296+dg l n):=by
 rw[Su l (n:=n+1) h,I7,rZ,sX,sN (dg l (n+1)), <-sO];omega
def A2j (l:List Int) {n:Nat} (h:l.length<=n+3):nv l=nv (l.take n)+4294967296^n*((dg l (n+2)*4294967296+dg l (n+1))*4294967296+dg l n):=by
 rw[A2i l (n:=n+1) h,I7,rZ];generalize 4294967296^n=P;grind
def A1y {a:List Int} (b:A8 a) {n:Nat} (c:a.length=n+1) {s:Nat} (d:s+K3 (dg a n)<=32):nv a*2^s<4294967296^(n+1):=by
 have c:=Su a (n:=n) (by omega);have c:=S5 b n;have b:=cG (dg a n);have c:nv a<4294967296^n*2^K3 (dg a n):=by
  have:4294967296^n*(dg a n+1)<=4294967296^n*2^K3 (dg a n):=rT _ b;rw[sX,wR]at this;omega
 have b:nv a*2^s<4294967296^n*2^K3 (dg a n)*2^s:=wX c (tL (by decide));rw[sO, <-uV]at b;have c:2^(K3 (dg a n)+s)<=2^32:=rY (by decide) (by omega);have d:=rT (4294967296^n) c;rw[rZ];exact rC b d
def aN {n:Nat} (h:n≠0):Lc (nc n):=by
 have a:(nc n).length≠0:=fun a=>h (Xc.1 (qN a))
 unfold Lc;intro a;have b:=J4 n;have e:=Su (nc n) (n:=(nc n).length-1) (by omega);have c:dg (nc n) ((nc n).length-1)=0:=by unfold dg;rw[a];rfl
 rw[c,wN,sS,F3]at e;have a:=S5 b ((nc n).length-1);rw[<-e]at a;have:=Ed a;omega
def LU {l:List Int} (a:A8 l) (h:Lc l):dg l (l.length-1)≠0:=by
 unfold Lc at h;have:=V9 a (i:=l.length-1);rw[this]at h;omega
def VJ {l:List Int} (b:A8 l) (h:Lc l):nv l≠0:=by
 have a:=LU b h;have b:l.length≠0:=fun e=>by
  rw[qN e]at a;simp[dg]at a
 have e:=Su l (n:=l.length-1) (by omega);have b:0<4294967296^(l.length-1):=tL (by decide);have b:=rT (4294967296^(l.length-1)) (sY a);omega
def A2a {V low P x:Nat} (h:V=low+P*x) (a:low<P):x*P<=V/\V<(x+1)*P:=by
 rw[uX,xJ,sN x,h];omega
def B6t {w v:List Int} (c:A8 w) (a:A8 v) {n:Nat} (b:v.length=n+2) (d:w.length=n+3) (h:dg v (n+1)≠0) (g:nv w<nv v*4294967296):XD (nv w) (nv v) (dg v (n+1)) (dg v n) (dg w (n+2)*4294967296+dg w (n+1)) (dg w n) (4294967296^n):=by
 have ev:=A2i v (n:=n) (by omega);have b:=A2j w (n:=n) (by omega);have d:=S5 a n;have f:=S5 c n;have i:=M5 a (n+1);have i:=M5 a n;have a:=M5 c n;exact⟨tL (by decide),sY h,by omega,by omega,by omega,(A2a ev d).1,(A2a ev d).2,(A2a b f).1,(A2a b f).2,g⟩
def A7i {l:List Int} (h:A8 l) (i:Nat):dg l i=nv l/4294967296^i%4294967296:=by
 have d:0<4294967296^i:=tL (by decide);by_cases a:i<l.length
 . have e:=eN l (i+1) (by omega);rw[I7]at e;have a:=S5 h i;have c:=M5 h i;have b:nv l=nv (l.take i)+(dg l i+4294967296*nv (l.drop (i+1)))*4294967296^i:=by
    rw[e,rZ];generalize 4294967296^i=P;grind
   rw[b,yG _ _ d,uF a,sA,yU,tP (by omega)]
 . rw[Nm (by omega)];have a:=Ff h;have c:4294967296^l.length<=4294967296^i:=rY (by decide) (by omega);rw[uF (by omega)]
def B2f {l:List Int} (h:A8 l) (i:Nat):dg l (i/32)/2^(i%32)%2=nv l/2^i%2:=by
 rw[A7i h,Jv];have e:i=32*(i/32)+i%32:=by omega
 have a:(4294967296:Nat)=2^(i%32)*2^(32-i%32):=AJ (by omega)
 conv=>rhs;rw[e,uV, <-vM]
 generalize nv l/2^(32*(i/32))=x;rw[a,Nat.mod_mul_right_div_self];have a:2^(32-i%32)=2*2^(31-i%32):=by rw[<-Nat.pow_succ'];congr 1;omega
 rw[a,Nat.mod_mul_right_mod]
def A6s {a b i:Nat} (j:b≠0):a/2^i=2*(a/2^(i+1))+a/2^i%2/\
 a/2^i/b=2*(a/2^(i+1)/b)+(if b<=2*(a/2^(i+1)%b)+a/2^i%2 then 1 else 0)/\
 a/2^i%b=2*(a/2^(i+1)%b)+a/2^i%2-(if b<=2*(a/2^(i+1)%b)+a/2^i%2 then b else 0):=by
 have k:a/2^(i+1)=a/2^i/2:=by rw[rZ,vM]
 have f:a/2^i=2*(a/2^(i+1))+a/2^i%2:=by rw[k];omega
 refine⟨f, ?_⟩;have s:a/2^i%2<2:=vX _ (by decide);generalize a/2^i%2=d at*;generalize a/2^(i+1)=h at*;rw[f];have n:=wT h b;have t:=vX h (sY j);generalize h%b=r at*;generalize h/b=q at*;have l:2*h+d=b*(2*q)+(2*r+d):=by rw[<-n];grind
 rw[l,g2k (sY j),g2l];by_cases c:b<=2*r+d
 . rw[qL c,qL c];have o:2*r+d=b+(2*r+d-b):=by omega
   have g:(2*r+d)/b=1:=Nat.div_eq_of_lt_le (by omega) (by omega);refine⟨by rw[g], ?_⟩;have:=wT (2*r+d) b;rw[g]at this;omega
 . rw[qH c,qH c,uF (by omega),tP (by omega)];exact⟨rfl,by omega⟩
def B4m {q:List Int} (a:A8 q) {M i:Nat} (d:nv q=M*2^(i+1)) (f:i/32<q.length):∃b:Nat,dg q (i/32)=b*2^(i%32+1)/\nv (q.set (i/32) ((dg q (i/32)+2^(i%32):Nat):Int))=(2*M+1)*2^i:=by
 have e:i=32*(i/32)+i%32:=by omega
 have c:dg q (i/32)=(M*2^(i%32+1))%4294967296:=by
  rw[A7i a,d,Jv];congr 1;have a:i+1=32*(i/32)+(i%32+1):=by omega
  rw[a,uV,zW,xU _ (tL (by decide))]
 refine⟨M%2^(31-i%32), ?_, ?_⟩
 . rw[c];have a:(4294967296:Nat)=2^(31-i%32)*2^(i%32+1):=by
    rw[<-uV,show 31-i%32+(i%32+1)=32 from by omega]
   conv=>lhs;rw[a]
   rw[Nat.mul_mod_mul_right]
 . have c:=Ii (l:=q) (k:=i/32) (v:=((dg q (i/32)+2^(i%32):Nat):Int)) f;rw[qT,d,Jv,sX]at c;have a:2^(32*(i/32))*2^(i%32)=2^i:=by rw[<-uV, <-e]
   rw[a]at c;have a:(2*M+1)*2^i=M*2^(i+1)+2^i:=by rw[rZ];grind
   rw[a];omega
def KG {l:List Int} (h:A8 l) (i:Nat):dg l i=nv l/4294967296^i%4294967296:=by
 have d:0<4294967296^i:=tL (by decide);have a:=M5 h i;have f:=S5 h i;rcases sD i l.length with a|a
 . have b:=eN l (i+1) a;rw[I7,rZ]at b;have c:nv l=nv (l.take i)+(dg l i+nv (l.drop (i+1))*4294967296)*4294967296^i:=by rw[b];grind
   rw[c,yG _ _ d,uF f,sA,Nat.add_mul_mod_self_right,tP (by omega)]
 . rw[Nm a];have b:=Ff h;have b:4294967296^l.length<=4294967296^i:=rY (by decide) a;rw[uF (by omega)]
def A5i {l:List Int} (h:A8 l) (i:Nat) {s:Nat} (a:s<=31):nv l/2^s/4294967296^i%4294967296=(dg l i+dg l (i+1)*4294967296)/2^s%4294967296:=by
 have d:0<2^s:=tL (by decide);have a:nv l/2^s/4294967296^i=nv l/4294967296^i/2^s:=by rw[vM,vM,sN]
 have b:dg l i+dg l (i+1)*4294967296=nv l/4294967296^i%(4294967296*4294967296):=by
  rw[Nat.mod_mul, <-KG h i,vM, <-rZ, <-KG h (i+1),sN]
 rw[a,b];generalize nv l/4294967296^i=W;have c:W=W%(4294967296*4294967296)+2^s*(4294967296*(2^(32-s)*(W/(4294967296*4294967296)))):=by
  have a:=Nat.mod_add_div W (4294967296*4294967296);have b:=AJ (s:=s) (by omega)
  conv=>lhs;rw[<-a]
  congr 1
  calc 4294967296*4294967296*(W/(4294967296*4294967296))=4294967296*(4294967296*(W/(4294967296*4294967296))):=sO ..
   _=(2^s*2^(32-s))*(4294967296*(W/(4294967296*4294967296))):=by rw[<-b]
   _= _:=by rw[sO,zW (2^(32-s))]
 conv=>lhs;rw[c,g3b _ _ d,yU]
def bL {l:List Int} (h:A8 l) {k s:Nat} :nv l/2^(32*k+s)=nv (l.drop k)/2^s:=by
 rw[uV, <-Jv, <-vM];congr 1;have b:0<4294967296^k:=tL (by decide);rcases sD l.length k with a|a
 . rw[sE (by omega)];have c:=Ff h;have c:4294967296^l.length<=4294967296^k:=rY (by decide) (by omega);rw[uF (by omega)];rfl
 . have e:=eN l k a;have a:=S5 h k;rw[e,g3b _ _ b,uF a,sA]
def I9 (x:Ja):(iv x).natAbs=nv x.2:=by
 unfold iv;split<;>omega
def ED {a b:List Int} (c:A8 a) (d:A8 b):(nc (nv a*nv b)).length<=a.length+b.length:=by
 have f:=Nt (nv a) (nv b);have f:=C9 c;have c:=C9 d;omega
def DW {x y:Ja} (a:A8 x.2) (b:A8 y.2):(ic (iv x*iv y)).2.length<=x.2.length+y.2.length:=by
 rw[W1,vF,I9,I9];exact ED a b
def SS {x y:Ja} {k:Nat} (a:A8 x.2) (b:A8 y.2) (c:x.2.length<=k) (d:y.2.length<=k):(ic (iv x+iv y)).2.length<=k+1:=by
 rw[W1];have e:(iv x+iv y).natAbs<=nv x.2+nv y.2:=by
  have:=zQ (iv x) (iv y);rwa[I9,I9]at this
 have h:=KZ (nv x.2) (nv y.2);have c:=C9 a;have a:=C9 b;have c:=J1 e;omega
def jY (v:Int):A8 (ic v).2:=J4 _
def fC {V:Int} {D:Nat} (f:D≠0):rc (mkRat V D)=((decide (V<0),nc (V.natAbs/Nat.gcd V.natAbs D)),nc (D/Nat.gcd V.natAbs D)):=by
 obtain⟨j,i⟩:=Mc (x:=V) (d:=D) f;unfold rc;rw[j,i,wW V.natAbs D];unfold ic;have g:((D.gcd V.natAbs:Nat):Int)∣V:=xW.2 (yM ..);have b:0<D.gcd V.natAbs:=g1s _ (sY f);generalize D.gcd V.natAbs=G at g b;obtain⟨c,rfl⟩:=g;rw[xN _ (by omega)];have k:(G:Int)*c<0↔c<0:=by
  constructor
  . intro h;rcases g4b c 0 with a|a
    . exact a
    . have:=tI (wV (uJ.2 b)) a;omega
  . intro h;exact yT (by omega) h
 rw[vF,uH,xU _ b];simp only[k]
def B4d {V:Int} {D:Nat} (a:D≠0) (h:Nat.gcd V.natAbs D=1):rc (mkRat V D)=(ic V,nc D):=by
 rw[fC a,h,g3c,g3c];rfl
def KV {a b:Int} {c d:Nat} (f:c≠0) (g:d≠0):mkRat a c+mkRat b d=mkRat (a*d+b*c) (c*d):=Rat.mkRat_add_mkRat a b f g
def oX {a b:Int} {c:Nat} (d:c≠0):mkRat a c+mkRat b c=mkRat (a+b) c:=by
 rw[KV d d, <-Int.add_mul,Rat.mkRat_mul_right d]
def Kj {x:C7} {n:Ja} {d:List Int} (h:(nv x.2=0->n=zi/\d= [1])/\(nv x.2≠0->n=x.1/\d=x.2)):nv d≠0/\rv x=mkRat (iv n) (nv d):=by
 rcases g3z (nv x.2=0)with a|a
 . obtain⟨rfl,rfl⟩:=h.1 a;refine⟨by decide, ?_⟩;unfold rv;rw[a,yP];exact(Rat.zero_mkRat _).symm
 . obtain⟨rfl,rfl⟩:=h.2 a;exact⟨a,rfl⟩
def Gu {x:C7} {n:Ja} {d:List Int} {k:Nat} (h:(nv x.2=0->n=zi/\d= [1])/\(nv x.2≠0->n=x.1/\d=x.2)) (b:x.1.2.length<=k) (c:x.2.length<=k) (f:1<=k):n.2.length<=k/\d.length<=k:=by
 rcases g3z (nv x.2=0)with a|a
 . obtain⟨rfl,rfl⟩:=h.1 a;exact⟨by simp[zi],by simpa using f⟩
 . obtain⟨rfl,rfl⟩:=h.2 a;exact⟨b,c⟩
end Go.Proofs.YtljgpjhcieidbaaGreat
