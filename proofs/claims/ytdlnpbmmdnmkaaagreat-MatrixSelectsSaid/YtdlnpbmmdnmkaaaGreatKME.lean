/- Part. -/
import Derived.WalkKit
import Derived.ProofKit
import Derived.OpenShut
import Derived.Carry
import Derived.ChangeSlices
import Derived.ChangeSame
import Derived.Test.YtdlnpbmmdnmkaaaGreatKMD
set_option linter.all false
namespace Go.Proofs.YtdlnpbmmdnmkaaaGreat
open Go.Vc Go.Gw
def qs (k:Nat) (q:Rat):Prop:=(nc q.num.natAbs).length<=k/\(nc q.den).length<=k
def sz (k:Nat) (x:G3):Prop:=x.1.2.length<=k/\x.2.length<=k
def bL (x:G3):Prop:=A7 x.1.2/\A7 x.2
theorem A5l {k:Nat} {q:Rat} (h:qs k q):sz k (rc q):=h
theorem pP (q:Rat):bL (rc q):=⟨H9 _,H9 _⟩
theorem Vw {k:Nat} {x:G3} (hl:bL x) (h:sz k x) (hk:1<=k):qs k (rv x):=Nq hl.1 hl.2 h.1 h.2 hk
theorem Gk {j k:Nat} {q:Rat} (h:qs j q) (hk:j<=k):qs k q:=⟨Nat.le_trans h.1 hk,Nat.le_trans h.2 hk⟩
theorem Nw {j k:Nat} {x:G3} (h:sz j x) (hk:j<=k):sz k x:=⟨Nat.le_trans h.1 hk,Nat.le_trans h.2 hk⟩
theorem LD {V:Int} {D k:Nat} (hD:D≠0) (h1:(nc V.natAbs).length<=k) (h2:(nc D).length<=k):qs k (mkRat V D):=by
 obtain⟨e1,e2⟩:=Ja (x:=V) hD;unfold qs;rw[e1,e2];refine⟨Nat.le_trans (I2 ?_) h1,Nat.le_trans (I2 (Nat.div_le_self _ _)) h2⟩;exact Int.natAbs_ediv_le_natAbs _ _
theorem Es {k:Nat} (hk:1<=k):qs k 0:=by
 refine⟨?_, ?_⟩
 . show(nc 0).length<=k;rw[L9];exact Nat.zero_le _
 . show(nc 1).length<=k;rw[Ra];exact hk
theorem A3k {k:Nat} {q:Rat} (h:qs k q):1<=k:=by
 have h1:=h.2;have h2:nc q.den≠ []:=fun e=>q.den_nz (Qz.1 e)
 have:=List.length_pos_iff.2 h2;omega
theorem A3j {k:Nat} {q:Rat} (h:qs k q):qs k (-q):=by
 unfold qs at h⊢;rw[Rat.neg_num,Rat.neg_den,Int.natAbs_neg];exact h
theorem EA {j k:Nat} {p q:Rat} (h1:qs j p) (h2:qs k q):qs (j+k) (p*q):=by
 rw[Rat.mul_def'];refine LD (Nat.mul_ne_zero p.den_nz q.den_nz) ?_ ?_
 . rw[Int.natAbs_mul];exact Nat.le_trans (Kd _ _) (Nat.add_le_add h1.1 h2.1)
 . exact Nat.le_trans (Kd _ _) (Nat.add_le_add h1.2 h2.2)
theorem UR {j k:Nat} {p q:Rat} (h1:qs j p) (h2:qs k q):qs (j+k+1) (p+q):=by
 rw[Rat.add_def'];refine LD (Nat.mul_ne_zero p.den_nz q.den_nz) ?_ ?_
 . have e:(p.num*(q.den:Int)+q.num*(p.den:Int)).natAbs<=p.num.natAbs*q.den+q.num.natAbs*p.den:=by
    refine Nat.le_trans (Int.natAbs_add_le _ _) ?_;rw[Int.natAbs_mul,Int.natAbs_mul,Int.natAbs_natCast,Int.natAbs_natCast];exact Nat.le_refl _
   have a1:=Kd p.num.natAbs q.den;have a2:=Kd q.num.natAbs p.den;have a3:=DN (p.num.natAbs*q.den) (q.num.natAbs*p.den);have a4:=I2 e;have:=h1.1;have:=h1.2;have:=h2.1;have:=h2.2;omega
 . have:=Kd p.den q.den;have:=h1.2;have:=h2.2;omega
theorem cF {k:Nat} {q:Rat} (h:qs k q):qs k q⁻¹:=by
 have hk:=A3k h;by_cases h0:q=0
 . subst h0;rw[Rat.inv_zero];exact Es hk
 have hn:q.num≠0:=fun e=>h0 (Rat.num_eq_zero.1 e)
 refine⟨?_, ?_⟩
 . rw[Rat.num_inv,Int.natAbs_mul,Int.natAbs_natCast,Int.natAbs_sign_of_ne_zero hn,Nat.one_mul];exact h.2
 . rw[Rat.den_inv,if_neg hn];exact h.1
theorem nF {a:Int} (h:a.natAbs<4294967296):qs 1 (a:Rat):=by
 refine⟨?_, ?_⟩
 . rw[Rat.num_intCast];exact Ct (by simpa using h)
 . rw[Rat.den_intCast,Ra];exact Nat.le_refl _
abbrev K0:Nat:=1073741824
abbrev K1:Nat:=549755813888
theorem Er {k:Nat} {x:G3} (h:sz k x) (hk:k<=2199023255552):I9 x:=⟨Nat.le_trans h.1 hk,Nat.le_trans h.2 hk⟩
theorem Nt {k:Nat} {q:Rat} (h:qs k q) (hk:k<=2199023255552):I9 (rc q):=⟨Nat.le_trans h.1 hk,Nat.le_trans h.2 hk⟩
abbrev F8:=Int×G3
def C5:List F8->Int->Rat
 | [],_=>0
 |e::v,i=>(if e.1=i then rv e.2 else 0)+C5 v i
def Ex (v:List F8):Prop:=v.Pairwise fun a b=>a.1<b.1
instance (v:List F8):Decidable (Ex v):=by unfold Ex;infer_instance
def Ey (v:List F8):Prop:=Ex v/\∀e∈v,rv e.2≠0/\e.2=rc (rv e.2)
def G7 (v:List F8) (n:Int):Prop:=Ex v/\∀e∈v,0<=e.1/\e.1<n/\rv e.2≠0
instance (v:List F8) (n:Int):Decidable (G7 v n):=by unfold G7;infer_instance
def EJ (k:Nat) (v:List F8):Prop:=∀e∈v,sz k e.2
def szL (k:Nat) (l:List G3):Prop:=∀x∈l,sz k x
def DT (k:Nat) (v:List F8):Prop:=Ex v/\EJ k v/\v.length<=100000
def Xe (v:List F8):Prop:=∀e∈v,bL e.2
def Re (ok:F8×F8×Unit->Prop) (φ:F8×F8×Unit->Int):Prop:=(∀a b,ok (a,b,()))/\(∀a b c,¬φ (a,b,())<0->¬φ (b,c,())<0->¬φ (a,c,())<0)/\(∀a b,φ (a,b,())<0->¬φ (b,a,())<0)
def Pu (φ:F8×F8×Unit->Int) (l:List F8):Prop:=l.Pairwise fun a b=>¬φ (b,a,())<0
def dF (v:List F8):Prop:=Ex v\/(v.length<=20/\EJ 65536 v)
def Rc (v:List F8):Prop:=DT K1 v\/(v.length<=20/\EJ 65536 v)
theorem IN (i:Int):C5 [] i=0:=rfl
theorem H5 {v:List F8} {i:Int} (h:∀e∈v,e.1≠i):C5 v i=0:=by
 induction v with
 |nil=>rfl
 |cons e v ih=>
  rw[C5,if_neg (h e (List.mem_cons_self ..)),ih fun x hx=>h x (List.mem_cons_of_mem _ hx),Rat.zero_add]
theorem M5 (a b:List F8) (i:Int):C5 (a++b) i=C5 a i+C5 b i:=by
 induction a with
 |nil=>rw[List.nil_append,IN,Rat.zero_add]
 |cons e a ih=>rw[List.cons_append,C5,C5,ih,Rat.add_assoc]
theorem H7 {e:F8} {v:List F8} :Ex (e::v)↔(∀x∈v,e.1<x.1)/\Ex v:=List.pairwise_cons
theorem Co {e:F8} {v:List F8} (h:Ex (e::v)):Ex v:=(H7.1 h).2
theorem O3 {e:F8} {v:List F8} (h:Ex (e::v)):C5 (e::v) e.1=rv e.2:=by
 rw[C5,if_pos rfl,H5 fun x hx he=>by have:=(H7.1 h).1 x hx;omega,Rat.add_zero]
theorem HE {e:F8} {v:List F8} (h:Ex (e::v)) {i:Int} (hi:i<e.1):C5 (e::v) i=0:=
 H5 fun x hx=>by
  rcases List.mem_cons.1 hx with rfl|hx
  . omega
  . have:=(H7.1 h).1 x hx;omega
theorem Ao {e:F8} {v:List F8} {i:Int} (hi:e.1≠i):C5 (e::v) i=C5 v i:=by
 rw[C5,if_neg hi,Rat.zero_add]
theorem Kv {v:List F8} (h:Ex v) {e:F8} (he:e∈v):C5 v e.1=rv e.2:=by
 induction v with
 |nil=>cases he
 |cons x v ih=>
  rcases List.mem_cons.1 he with rfl|he
  . exact O3 h
  . have:=(H7.1 h).1 e he;rw[Ao (by omega),ih (Co h) he]
theorem oN {v:List F8} {i:Int} (h:C5 v i≠0):∃e∈v,e.1=i:=
 Decidable.byContradiction fun hn=>h (H5 fun e he hi=>hn ⟨e,he,hi⟩)
theorem IK:Ey []:=⟨List.Pairwise.nil,fun _ h=>by cases h⟩
theorem PE {e:F8} {v:List F8} (h:Ey (e::v)):Ey v:=⟨Co h.1,fun x hx=>h.2 x (List.mem_cons_of_mem _ hx)⟩
theorem WF:∀ {a b:List F8},Ey a->Ey b->(∀i,C5 a i=C5 b i)->a=b
 | [],[],_,_,_=>rfl
 | [],e::b,_,hb,h=>absurd ((O3 hb.1).symm.trans (h e.1).symm) (hb.2 e (List.mem_cons_self ..)).1
 |e::a,[],ha,_,h=>absurd ((O3 ha.1).symm.trans (h e.1)) (ha.2 e (List.mem_cons_self ..)).1
 |e::a,f::b,ha,hb,h=>by
  have h1:=ha.2 e (List.mem_cons_self ..);have h2:=hb.2 f (List.mem_cons_self ..);have he:e.1=f.1:=by
   rcases Int.lt_trichotomy e.1 f.1 with hl|hl|hl
   . have:=h e.1;rw[O3 ha.1,HE hb.1 hl]at this;exact absurd this h1.1
   . exact hl
   . have:=h f.1;rw[O3 hb.1,HE ha.1 hl]at this;exact absurd this.symm h2.1
  have hv:rv e.2=rv f.2:=by
   have:=h e.1;rw[O3 ha.1,he,O3 hb.1]at this;exact this
  have hef:e=f:=by
   obtain⟨i,x⟩:=e;obtain⟨j,y⟩:=f;simp only at he hv h1 h2;rw[he,h1.2,h2.2,hv]
  subst hef;rw[WF (PE ha) (PE hb) fun i=>by
   by_cases hi:e.1=i
   . subst hi;rw[H5 fun x hx hxe=>by have:=(H7.1 ha.1).1 x hx;omega,H5 fun x hx hxe=>by have:=(H7.1 hb.1).1 x hx;omega]
   . have:=h i;rwa[Ao hi,Ao hi]at this]
theorem WA {v:List F8} {e:F8} (h:Ex v) (he:∀x∈v,x.1<e.1):Ex (v++ [e]):=by
 unfold Ex;rw[List.pairwise_append];refine⟨h,List.pairwise_singleton ..,fun a ha b hb=> ?_⟩;rw[List.mem_singleton]at hb;subst hb;exact he a ha
theorem PD {v:List F8} {i:Int} {q:Rat} (h:Ey v) (hq:q≠0) (he:∀x∈v,x.1<i):Ey (v++ [(i,rc q)]):=by
 refine⟨WA h.1 he,fun x hx=> ?_⟩;rcases List.mem_append.1 hx with hx|hx
 . exact h.2 x hx
 . rw[List.mem_singleton]at hx;subst hx;simp only[W5];exact⟨hq,trivial⟩
theorem PI (v:List F8) (i:Int) (q:Rat) (j:Int):C5 (v++ [(i,rc q)]) j=C5 v j+(if i=j then q else 0):=by
 rw[M5];simp only[C5,W5,Rat.add_zero]
theorem dI {v:List F8} (h:Ey v) {k:Nat} (hq:∀i,qs k (C5 v i)):EJ k v:=fun e he=>by
 rw[(h.2 e he).2, <-Kv h.1 he];exact hq _
theorem Tn {v:List F8} (h:Ex v) (hl:Xe v) {k:Nat} (hs:EJ k v) (hk:1<=k) (i:Int):qs k (C5 v i):=by
 by_cases hi:∃e∈v,e.1=i
 . obtain⟨e,he,rfl⟩:=hi;rw[Kv h he];exact Vw (hl e he) (hs e he) hk
 . rw[H5 fun e he hei=>hi ⟨e,he,hei⟩];exact Es hk
theorem cY {v:List F8} {n:Int} (h:G7 v n) {i:Int} (hi:C5 v i≠0):0<=i/\i<n:=by
 obtain⟨e,he,rfl⟩:=oN hi;exact⟨(h.2 e he).1,(h.2 e he).2.1⟩
theorem SO {v:List F8} {n:Int} (h:G7 v n):(v.length:Int)<=max n 0:=by
 have key:∀(v:List F8) (k n:Int),Ex v->(∀e∈v,k<=e.1/\e.1<n)->(v.length:Int)<=max (n-k) 0:=by
  intro v
  induction v with
  |nil=>intro k n _ _;simp only[List.length_nil];omega
  |cons e v ih=>
   intro k n ha hb;have h1:=hb e (List.mem_cons_self ..);have:=ih (e.1+1) n (Co ha) fun x hx=>⟨by have:=(H7.1 ha).1 x hx;omega,(hb x (List.mem_cons_of_mem _ hx)).2⟩
   simp only[List.length_cons];omega
 have:=key v 0 n h.1 fun e he=>⟨(h.2 e he).1,(h.2 e he).2.1⟩
 omega
abbrev Bc:=Int×Int×List (List F8)
def el (m:Bc) (i j:Nat):Rat:=C5 (m.2.2.getD i []) (j:Int)
def C3 (m:Bc):Prop:=0<=m.1/\m.1<=16384/\0<=m.2.1/\m.2.1<=16384/\(m.2.2.length:Int)=m.1/\∀v∈m.2.2,G7 v m.2.1
instance (m:Bc):Decidable (C3 m):=by unfold C3;infer_instance
def zm:Bc:=(0,0,[])
def Em (R C:Nat) (f:Nat->Nat->Rat) (m:Bc):Prop:=
 m.1=(R:Int)/\m.2.1=(C:Int)/\m.2.2.length=R/\∀i,i<R->Ey (m.2.2.getD i [])/\(∀e∈m.2.2.getD i [],0<=e.1/\e.1<(C:Int))/\∀j,j<C->C5 (m.2.2.getD i []) (j:Int)=f i j
def TT (n:Nat) (f:Nat->Rat) (v:List F8):Prop:=Ey v/\(∀e∈v,0<=e.1/\e.1<(n:Int))/\∀j,j<n->C5 v (j:Int)=f j
theorem JM {n:Nat} {f:Nat->Rat} {v:List F8} (h:TT n f v) (i:Int):C5 v i=if 0<=i/\i<(n:Int)then f i.toNat else 0:=by
 by_cases hi:0<=i/\i<(n:Int)
 . rw[if_pos hi, <-h.2.2 i.toNat (by omega)];congr 1;omega
 . rw[if_neg hi,H5 fun e he hei=>hi (by rw[<-hei];exact h.2.1 e he)]
theorem pK {n:Nat} {f g:Nat->Rat} {a b:List F8} (ha:TT n f a) (hb:TT n g b) (h:∀j,j<n->f j=g j):a=b:=
 WF ha.1 hb.1 fun i=>by
  rw[JM ha,JM hb];split
  . exact h _ (by omega)
  . rfl
theorem gI {n:Nat} {f g:Nat->Rat} {v:List F8} (h:TT n f v) (e:∀j,j<n->f j=g j):TT n g v:=⟨h.1,h.2.1,fun j hj=>by rw[h.2.2 j hj,e j hj]⟩
theorem Tu {α:Type} (l:List α) (d:α) {i:Nat} (h:i<l.length):l.getD i d=l[i]:=by rw[List.getD_eq_getElem?_getD,List.getElem?_eq_getElem h];rfl
theorem HH {R C:Nat} {f g:Nat->Nat->Rat} {a b:Bc} (ha:Em R C f a) (hb:Em R C g b) (h:∀i j,i<R->j<C->f i j=g i j):a=b:=by
 obtain⟨r,c,d⟩:=a;obtain⟨r',c',d'⟩:=b;obtain⟨a1,a2,a3,a4⟩:=ha;obtain⟨b1,b2,b3,b4⟩:=hb;simp only at a1 a2 a3 a4 b1 b2 b3 b4;subst a1;subst a2;subst b1;subst b2;have:d=d':=by
  refine List.ext_getElem (by omega) fun i h1 h2=> ?_
  have x1:=a4 i (by omega);have x2:=b4 i (by omega);have:=pK x1 x2 fun j hj=>h i j (by omega) hj
  rwa[Tu _ _ h1,Tu _ _ h2]at this
 rw[this]
theorem Kz {R C:Nat} {f g:Nat->Nat->Rat} {m:Bc} (h:Em R C f m) (e:∀i j,i<R->j<C->f i j=g i j):Em R C g m:=
 ⟨h.1,h.2.1,h.2.2.1,fun i hi=>gI (h.2.2.2 i hi) fun j hj=>e i j hi hj⟩
theorem Ka {R C:Nat} {f:Nat->Nat->Rat} {m:Bc} (h:Em R C f m) {i j:Nat} (hi:i<R) (hj:j<C):el m i j=f i j:=(h.2.2.2 i hi).2.2 j hj
theorem K4 {α:Type} {l:List α} {i:Nat} {d:α} (h:i<l.length):l.getD i d∈l:=by rw[Tu _ _ h];exact List.getElem_mem h
theorem Qy {α:Type} {l:List α} {x:α} (d:α) (h:x∈l):∃i,i<l.length/\l.getD i d=x:=by
 obtain⟨i,hi,e⟩:=List.mem_iff_getElem.1 h;exact⟨i,hi,by rw[Tu _ _ hi];exact e⟩
theorem gJ {n:Nat} {f:Nat->Rat} {v:List F8} (h:TT n f v):G7 v (n:Int):=⟨h.1.1,fun e he=>⟨(h.2.1 e he).1,(h.2.1 e he).2,(h.1.2 e he).1⟩⟩
theorem La {R C:Nat} {f:Nat->Nat->Rat} {m:Bc} (h:Em R C f m) (hR:R<=16384) (hC:C<=16384):C3 m:=by
 obtain⟨h1,h2,h3,h4⟩:=h;refine⟨by omega,by omega,by omega,by omega,by omega,fun v hv=> ?_⟩;obtain⟨i,hi,rfl⟩:=Qy [] hv;rw[h2];exact gJ (h4 i (by omega))
def Gu (k:Nat) (m:Bc):Prop:=∀v∈m.2.2,EJ k v
def bK (m:Bc):Prop:=∀v∈m.2.2,Xe v
theorem bG {R C k:Nat} {f:Nat->Nat->Rat} {m:Bc} (h:Em R C f m) (hk:1<=k) (hf:∀i j,i<R->j<C->qs k (f i j)):Gu k m:=fun v hv=>by
 obtain⟨i,hi,rfl⟩:=Qy [] hv;rw[h.2.2.1]at hi;refine dI (h.2.2.2 i hi).1 fun j=> ?_
 rw[JM (h.2.2.2 i hi)];split
 . exact hf i _ hi (by omega)
 . exact Es hk
theorem A4k {m:Bc} {k:Nat} (hv:C3 m) (hl:bK m) (hs:Gu k m) (hk:1<=k) (i j:Nat):qs k (el m i j):=by
 unfold el;by_cases hi:i<m.2.2.length
 . exact Tn (hv.2.2.2.2.2 _ (K4 hi)).1 (hl _ (K4 hi)) (hs _ (K4 hi)) hk _
 . rw[List.getD_eq_getElem?_getD,List.getElem?_eq_none (by omega)];exact Es hk
def lO (f:Int->Rat) (v:List F8):Prop:=Ey v/\∀i,C5 v i=f i
def dl (n:Int) (f:Int->Rat):List G3:=(List.range n.toNat).map fun j:Nat=>rc (f (j:Int))
def oB (m:Bc):List (List G3):=(List.range m.1.toNat).map fun i:Nat=>dl m.2.1 (C5 (m.2.2.getD i []))
def UO (m:Bc) (i j r c:Nat):Rat:=el m (if r<i then r else r+1) (if c<j then c else c+1)-el m (if r<i then r else r+1) j*el m i (if c<j then c else c+1)/el m i j
def TK (x:G3):Prop:=∃q,qs 1 q/\x=rc q
def A2n (R C:Nat) (m:Bc):Prop:=∃f,(∀i j,qs 1 (f i j))/\Em R C f m
def Cl:Nat->(Nat->Rat)->Rat
 |0,_=>0
 |n+1,f=>Cl n f+f n
theorem LG {n:Nat} {f g:Nat->Rat} (h:∀i,i<n->f i=g i):Cl n f=Cl n g:=by
 induction n with
 |zero=>rfl
 |succ n ih=>rw[Cl,Cl,ih fun i hi=>h i (by omega),h n (by omega)]
theorem EF {n:Nat} {f:Nat->Rat} (h:∀i,i<n->f i=0):Cl n f=0:=by
 induction n with
 |zero=>rfl
 |succ n ih=>rw[Cl,ih fun i hi=>h i (by omega),h n (by omega),Rat.add_zero]
theorem nL (n:Nat) (f g:Nat->Rat):Cl n (fun i=>f i+g i)=Cl n f+Cl n g:=by
 induction n with
 |zero=>rw[Cl,Cl,Cl,Rat.add_zero]
 |succ n ih=>rw[Cl,Cl,Cl,ih];grind
theorem YX {n k:Nat} {f:Nat->Rat} (hk:k<n) (h:∀i,i<n->i≠k->f i=0):Cl n f=f k:=by
 induction n with
 |zero=>omega
 |succ n ih=>
  rw[Cl];by_cases he:k=n
  . subst he;rw[EF fun i hi=>h i (by omega) (by omega),Rat.zero_add]
  . rw[ih (by omega) fun i hi=>h i (by omega),h n (by omega) (by omega),Rat.add_zero]
def V5:List F8->(Int->Rat)->Rat
 | [],_=>0
 |e::v,h=>rv e.2*h e.1+V5 v h
theorem WP (a b:List F8) (h:Int->Rat):V5 (a++b) h=V5 a h+V5 b h:=by
 induction a with
 |nil=>rw[List.nil_append,V5,Rat.zero_add]
 |cons e a ih=>rw[List.cons_append,V5,V5,ih,Rat.add_assoc]
theorem fY {d:F8} {v:List F8} {i:Int} (h0:0<=i) (h1:i<(v.length:Int)) (h:Int->Rat):V5 (v.take (i+1).toNat) h=V5 (v.take i.toNat) h+rv (gx d v i).2*h (gx d v i).1:=by
 rw[show(i+1).toNat=i.toNat+1 from by omega,List.take_add_one,H2 (d:=d) h0 h1,WP];simp only[Option.toList_some,V5,Rat.add_zero]
theorem oW {v:List F8} {n:Nat} (hv:∀e∈v,0<=e.1/\e.1<(n:Int)) (h:Int->Rat):V5 v h=Cl n fun j=>C5 v (j:Int)*h (j:Int):=by
 induction v with
 |nil=>rw[V5];exact(EF fun j _=>Rat.zero_mul _).symm
 |cons e v ih=>
  obtain⟨h0,h1⟩:=hv e (List.mem_cons_self ..);rw[V5,ih fun x hx=>hv x (List.mem_cons_of_mem _ hx)];have e1:(Cl n fun j=>C5 (e::v) (j:Int)*h (j:Int))=(Cl n fun j=>(if e.1=(j:Int)then rv e.2 else 0)*h (j:Int))+Cl n fun j=>C5 v (j:Int)*h (j:Int):=by
   rw[<-nL];exact LG fun j _=>by rw[C5,Rat.add_mul]
  have e2:(Cl n fun j=>(if e.1=(j:Int)then rv e.2 else 0)*h (j:Int))=rv e.2*h e.1:=by
   rw[YX (k:=e.1.toNat) (by omega) fun i _ hi=>by rw[if_neg (by omega),Rat.zero_mul],if_pos (by omega),show((e.1.toNat:Nat):Int)=e.1 from by omega]
  rw[e1,e2]
theorem oX {v:List F8} {h:Int->Rat} {j k:Nat} (hl:Xe v) (hs:EJ j v) (hj:1<=j) (hh:∀e∈v,qs k (h e.1)):qs (v.length*(j+k+1)+1) (V5 v h):=by
 induction v with
 |nil=>rw[V5];exact Es (by omega)
 |cons e v ih=>
  rw[V5];refine Gk (UR (EA (Vw (hl e (List.mem_cons_self ..)) (hs e (List.mem_cons_self ..)) hj) (hh e (List.mem_cons_self ..))) (ih (fun x hx=>hl x (List.mem_cons_of_mem _ hx)) (fun x hx=>hs x (List.mem_cons_of_mem _ hx)) fun x hx=>hh x (List.mem_cons_of_mem _ hx))) ?_;rw[List.length_cons,Nat.add_mul,Nat.one_mul];omega
theorem LI:rv zr=0:=Rat.mkRat_zero _
def put (i:Int) (x:G3) (l:List F8):List F8:=if rv x=0 then l else(i,x)::l
def H6 (φ:G3×G3×Unit->G3):List F8->List F8->List F8
 | [],[]=> []
 |e::a,[]=>put e.1 (φ (e.2,zr,())) (H6 φ a [])
 | [],f::b=>put f.1 (φ (zr,f.2,())) (H6 φ [] b)
 |e::a,f::b=>if e.1<f.1 then put e.1 (φ (e.2,zr,())) (H6 φ a (f::b))else if e.1=f.1 then put e.1 (φ (e.2,f.2,())) (H6 φ a b)else put f.1 (φ (zr,f.2,())) (H6 φ (e::a) b)
termination_by a b=>a.length+b.length
theorem Qn (i:Int) (q:Rat) (l:List F8) (j:Int):C5 (put i (rc q) l) j=(if i=j then q else 0)+C5 l j:=by
 unfold put;rw[W5];split
 . rename_i h;subst h;simp only[ite_self,Rat.zero_add]
 . rw[C5,W5]
theorem AG {i:Int} {x:G3} {l:List F8} {e:F8} (h:e∈put i x l):e.1=i\/e∈l:=by
 unfold put at h;split at h
 . exact .inr h
 . rcases List.mem_cons.1 h with rfl|h
   . exact .inl rfl
   . exact .inr h
theorem Ql {i:Int} {q:Rat} {l:List F8} (h:Ey l) (hl:∀e∈l,i<e.1):Ey (put i (rc q) l):=by
 unfold put;rw[W5];split
 . exact h
 . rename_i h0;refine⟨H7.2 ⟨hl,h.1⟩,fun e he=> ?_⟩;rcases List.mem_cons.1 he with rfl|he
   . simp only[W5];exact⟨h0,trivial⟩
   . exact h.2 e he
theorem YB (φ:G3×G3×Unit->G3) (g:Rat->Rat->Rat) (g0:g 0 0=0) (a b:List F8):
 (∀x y,(x=zr\/∃e∈a,e.2=x)->(y=zr\/∃e∈b,e.2=y)->φ (x,y,())=rc (g (rv x) (rv y)))->Ex a->Ex b->
 Ey (H6 φ a b)/\(∀e∈H6 φ a b,(∃x∈a,x.1=e.1)\/∃y∈b,y.1=e.1)/\∀i,C5 (H6 φ a b) i=g (C5 a i) (C5 b i):=by
 induction a,b using H6.induct with
 |case1=>
  intro _ _ _;rw[H6];exact⟨IK,fun e he=>(by cases he),fun i=>g0.symm⟩
 |case2 e a ih=>
  intro hφ ha hb;obtain⟨h1,h2,h3⟩:=ih (fun x y hx hy=>hφ x y (hx.imp id fun⟨z,hz,hzx⟩=>⟨z,List.mem_cons_of_mem _ hz,hzx⟩) hy) (Co ha) hb;rw[H6,hφ e.2 zr (.inr ⟨e,List.mem_cons_self ..,rfl⟩) (.inl rfl),LI];refine⟨Ql h1 fun x hx=> ?_,fun x hx=> ?_,fun i=> ?_⟩
  . rcases h2 x hx with⟨z,hz,hzx⟩ | ⟨z,hz,_⟩
    . rw[<-hzx];exact(H7.1 ha).1 z hz
    . cases hz
  . rcases AG hx with hx|hx
    . exact .inl ⟨e,List.mem_cons_self ..,hx.symm⟩
    . exact(h2 x hx).imp (fun⟨z,hz,hzx⟩=>⟨z,List.mem_cons_of_mem _ hz,hzx⟩) id
  . rw[Qn,h3,IN];by_cases hi:e.1=i
    . subst hi;rw[if_pos rfl,O3 ha,H5 fun x hx hxe=>by have:=(H7.1 ha).1 x hx;omega,g0,Rat.add_zero]
    . rw[if_neg hi,Ao hi,Rat.zero_add]
 |case3 f b ih=>
  intro hφ ha hb;obtain⟨h1,h2,h3⟩:=ih (fun x y hx hy=>hφ x y hx (hy.imp id fun⟨z,hz,hzx⟩=>⟨z,List.mem_cons_of_mem _ hz,hzx⟩)) ha (Co hb);rw[H6,hφ zr f.2 (.inl rfl) (.inr ⟨f,List.mem_cons_self ..,rfl⟩),LI];refine⟨Ql h1 fun x hx=> ?_,fun x hx=> ?_,fun i=> ?_⟩
  . rcases h2 x hx with⟨z,hz,_⟩ | ⟨z,hz,hzx⟩
    . cases hz
    . rw[<-hzx];exact(H7.1 hb).1 z hz
  . rcases AG hx with hx|hx
    . exact .inr ⟨f,List.mem_cons_self ..,hx.symm⟩
    . exact(h2 x hx).imp id fun⟨z,hz,hzx⟩=>⟨z,List.mem_cons_of_mem _ hz,hzx⟩
  . rw[Qn,h3,IN];by_cases hi:f.1=i
    . subst hi;rw[if_pos rfl,O3 hb,H5 fun x hx hxe=>by have:=(H7.1 hb).1 x hx;omega,g0,Rat.add_zero]
    . rw[if_neg hi,Ao hi,Rat.zero_add]
 |case4 e a f b hlt ih=>
  intro hφ ha hb;obtain⟨h1,h2,h3⟩:=ih (fun x y hx hy=>hφ x y (hx.imp id fun⟨z,hz,hzx⟩=>⟨z,List.mem_cons_of_mem _ hz,hzx⟩) hy) (Co ha) hb;rw[H6,if_pos hlt,hφ e.2 zr (.inr ⟨e,List.mem_cons_self ..,rfl⟩) (.inl rfl),LI];refine⟨Ql h1 fun x hx=> ?_,fun x hx=> ?_,fun i=> ?_⟩
  . rcases h2 x hx with⟨z,hz,hzx⟩ | ⟨z,hz,hzx⟩
    . rw[<-hzx];exact(H7.1 ha).1 z hz
    . rw[<-hzx];rcases List.mem_cons.1 hz with rfl|hz
      . exact hlt
      . have:=(H7.1 hb).1 z hz;omega
  . rcases AG hx with hx|hx
    . exact .inl ⟨e,List.mem_cons_self ..,hx.symm⟩
    . exact(h2 x hx).imp (fun⟨z,hz,hzx⟩=>⟨z,List.mem_cons_of_mem _ hz,hzx⟩) id
  . rw[Qn,h3];by_cases hi:e.1=i
    . subst hi;rw[if_pos rfl,O3 ha,H5 (v:=a) fun x hx hxe=>by have:=(H7.1 ha).1 x hx;omega,HE hb hlt,g0,Rat.add_zero]
    . rw[if_neg hi,Ao hi,Rat.zero_add]
 |case5 e a f b hlt heq ih=>
  intro hφ ha hb;obtain⟨h1,h2,h3⟩:=ih (fun x y hx hy=>hφ x y (hx.imp id fun⟨z,hz,hzx⟩=>⟨z,List.mem_cons_of_mem _ hz,hzx⟩) (hy.imp id fun⟨z,hz,hzx⟩=>⟨z,List.mem_cons_of_mem _ hz,hzx⟩)) (Co ha) (Co hb);rw[H6,if_neg hlt,if_pos heq,hφ e.2 f.2 (.inr ⟨e,List.mem_cons_self ..,rfl⟩) (.inr ⟨f,List.mem_cons_self ..,rfl⟩)];refine⟨Ql h1 fun x hx=> ?_,fun x hx=> ?_,fun i=> ?_⟩
  . rcases h2 x hx with⟨z,hz,hzx⟩ | ⟨z,hz,hzx⟩
    . rw[<-hzx];exact(H7.1 ha).1 z hz
    . rw[<-hzx,heq];exact(H7.1 hb).1 z hz
  . rcases AG hx with hx|hx
    . exact .inl ⟨e,List.mem_cons_self ..,hx.symm⟩
    . exact(h2 x hx).imp (fun⟨z,hz,hzx⟩=>⟨z,List.mem_cons_of_mem _ hz,hzx⟩) fun⟨z,hz,hzx⟩=>⟨z,List.mem_cons_of_mem _ hz,hzx⟩
  . rw[Qn,h3];by_cases hi:e.1=i
    . subst hi;have hb':=O3 hb;rw[<-heq]at hb';rw[if_pos rfl,O3 ha,hb',H5 (v:=a) fun x hx hxe=>by have:=(H7.1 ha).1 x hx;omega,H5 (v:=b) fun x hx hxe=>by have:=(H7.1 hb).1 x hx;omega,g0,Rat.add_zero]
    . rw[if_neg hi,Ao hi,Ao (e:=f) (by omega),Rat.zero_add]
 |case6 e a f b hlt heq ih=>
  intro hφ ha hb;obtain⟨h1,h2,h3⟩:=ih (fun x y hx hy=>hφ x y hx (hy.imp id fun⟨z,hz,hzx⟩=>⟨z,List.mem_cons_of_mem _ hz,hzx⟩)) ha (Co hb);rw[H6,if_neg hlt,if_neg heq,hφ zr f.2 (.inl rfl) (.inr ⟨f,List.mem_cons_self ..,rfl⟩),LI];refine⟨Ql h1 fun x hx=> ?_,fun x hx=> ?_,fun i=> ?_⟩
  . rcases h2 x hx with⟨z,hz,hzx⟩ | ⟨z,hz,hzx⟩
    . rw[<-hzx];rcases List.mem_cons.1 hz with rfl|hz
      . omega
      . have:=(H7.1 ha).1 z hz;omega
    . rw[<-hzx];exact(H7.1 hb).1 z hz
  . rcases AG hx with hx|hx
    . exact .inr ⟨f,List.mem_cons_self ..,hx.symm⟩
    . exact(h2 x hx).imp id fun⟨z,hz,hzx⟩=>⟨z,List.mem_cons_of_mem _ hz,hzx⟩
  . rw[Qn,h3];by_cases hi:f.1=i
    . subst hi;rw[if_pos rfl,O3 hb,H5 (v:=b) fun x hx hxe=>by have:=(H7.1 hb).1 x hx;omega,HE ha (by omega),g0,Rat.add_zero]
    . rw[if_neg hi,Ao (e:=f) hi,Rat.zero_add]
def XK (p:Int->Bool) (l:List Int):Int:=match l.findIdx? p with
 |some i=>(i:Int)
 |none=> -1
end Go.Proofs.YtdlnpbmmdnmkaaaGreat
namespace Go.Gw
open Go Go.RowKit Go.ChangeShapes Go.WideShapes Go.ChangeAt
section
variable {H:Type} {enc:TypeId×Value->H} {P:Program}
theorem Wa (hl:laidOutB P=true) {W W':World} {sp:Nat->Bool} (hb:N0 W W'):∀(ts:List TypeId) (vs:List Value) (ds:List (DataW H)) (ps:List MemPlace),
 (∀t∈ts,P.readableRec t=true/\t<P.types.size)->DataW.TrodAll enc P W 0 (fun _=>true) true ts vs ds ps->(∀x∈ps,x.block<W.heap.size)->(∀x∈ps,sp x.block=true)->DataW.TrodAll enc P W' 0 sp true ts vs ds ps
 | [],vs,ds,ps,_,h,_,_=>by
  cases vs<;>cases ds<;>simp[DataW.TrodAll]at h⊢;exact h
 |t::ts,vs,ds,ps,ht,h,hlt,hsp=>by
  obtain⟨v,vs',d,ds',p,q,rfl,rfl,rfl,h1,h2⟩:=trodAll_cons h;refine trodAll_cons_mk ?_ (Wa hl hb ts vs' ds' q (fun x hx=>ht x (by simp[hx])) h2 (fun x hx=>hlt x (by simp[hx])) (fun x hx=>hsp x (by simp[hx])));exact WideElems.Trod_stays hl (ht t (by simp)).1 (ht t (by simp)).2 h1 (fun x hx=>hb.same (hlt x (by simp[hx]))) (fun x hx=>hsp x (by simp[hx]))
theorem nD (hl:laidOutB P=true) {f:Func} {s:ChangeSpec} {W W':World} {args:Array Value} {ds gs:List (DataW H)} {before:List MemPlace} {tb:TypeId}
 (hW:DataW.Whole enc P f.params.toList s.vars false W args.toList ds gs before) (hv:s.vars= []) (hres:f.resultTypes= #[tb]) (htb:P.underlying tb=some .bool)
 (hfn:s.fn H ds= {results:= [.lit (.bool true)],args:=ds}) (hr:∀t∈f.params.toList,P.readableRec t=true/\t<P.types.size) (hb:N0 W W'):
 s.post enc P f false true false false W args (.bool true) W':=by
 have hlt:∀p∈before,p.block<W.heap.size:=fun p hp=>hW.lt p hp
 have hW0:=hW;obtain⟨p,q,hA,hV,hpq,_,_⟩:=hW;rw[hv]at hV;obtain⟨rfl,rfl⟩:=trodVars_none hV;rw[List.append_nil]at hpq;subst hpq;refine⟨ds,[],before,[],before,[],hW0, ?_, ?_, ?_, ?_,fun h=>by cases h⟩
 . rw[List.append_nil,hfn,hres];exact trodAll_mk1 (shut_bool htb _)
 . rw[List.append_nil,hfn];exact Wa hl hb _ _ _ _ hr hA hlt (fun x hx=>by simpa using hlt x hx)
 . rw[List.append_nil,hfn,hv];rfl
 . refine World.keptBut_mono ?_ (hb.frame (· ∈before));intro x hx;exact⟨hx, .inr (.inl hx)⟩
end
end Go.Gw
namespace Go.Vc
open Go Go.RowKit Go.Gw Go.ChangeShapes Go.WideShapes Go.ChangeAt
def XQ (P:Program):Nat->TypeId->Ty->Bool
 |0,_,_=>false
 |n+1,T,ty=>match P.underlying T with
  |some (.int k)=>(match ty with| .int k'=>decide (k=k') | _=>false)
  |some .bool=>(match ty with| .bool=>true| _=>false)
  |some .string=>(match ty with| .str=>true| _=>false)
  |some (.slice e)=>(match ty with| .sl t=>XQ P n e t&&Nat.beq (P.cellsOf e) t.size&&Nat.ble 1 t.size| _=>false)
  |some (.struct fs)=>TS P (XQ P n) fs.toList 0 ty&&Nat.beq (P.cellsOf T) ty.size
  |some (.array k e)=>TQ (XQ P n e) (P.cellsOf e) k ty&&Nat.beq (P.cellsOf T) ty.size
  | _=>false
section
variable {H:Type} {α:Type} {enc:TypeId×Value->H} {P:Program} {W:World}
theorem cells?_at {base:Nat} {a:Addr} {n:Nat} {cs:List Value} (h:W.cells? base a n=some cs):cs.length=n/\H1 W a cs:=by
 obtain⟨_,hl,hc⟩:=World.cells?_some h;exact⟨hl,fun j v hj=>by have:=hc j (by have:=Vp hj;omega);rw[this];exact hj⟩
theorem iN {a:Addr} {v:Value} (h:W.cell? a=some v):a.spot=none:=by
 unfold World.cell? at h;split at h
 . cases hs:a.spot with
   |none=>rfl
   |some _=>simp[hs]at h
 . cases h
theorem IX {R:List Value->α->Prop} {b o sz:Nat} :∀(len:Nat),(∀i,i<len->∃ec y,ec.length=sz/\H1 W ⟨b,o+i*sz,none⟩ ec/\R ec y)->∃ec l,l.length=len/\ec.length=len*sz/\H1 W ⟨b,o,none⟩ ec/\F2 R ec l
 |0,_=>⟨[],[],rfl,by simp,fun j v hj=>by simp at hj,rfl⟩
 |len+1,h=>by
  obtain⟨ec,l,h1,h2,h3,h4⟩:=IX (R:=R) (b:=b) (o:=o) (sz:=sz) len (fun i hi=>h i (by omega));obtain⟨ec',y,g1,g2,g3⟩:=h len (by omega);refine⟨ec++ec',l++ [y],by simp[h1],by rw[List.length_append,h2,g1,Nat.succ_mul],fun j v hj=> ?_,h4.append ⟨ec',[],by simp,g3,rfl⟩⟩;rw[List.getElem?_append]at hj;split at hj
  . exact h3 j v hj
  . rename_i hlt;have:=g2 _ v hj;rw[G8]at this⊢;rw[h2]at this hlt;rw[show o+len*sz+(j-len*sz)=o+j from by omega]at this;exact this
theorem dY {n:Nat} {r:TypeId->Ty->Bool} {Z:Nat->Prop} {cs:List Value} (hr:∀ {T:TypeId} {ty:Ty} {cs:List Value} {x:DataW H×List MemPlace},r T ty=true->DataW.trod enc P W 0 (fun _=>true) true n T cs=some x->∃y,C7 ty W Z cs y):
 ∀ {fs:List Field} {off:Nat} {ty:Ty},TS P r fs off ty=true->(∀f∈fs,∃x,DataW.trod enc P W 0 (fun _=>true) true n f.type ((cs.drop f.offset).take (P.cellsOf f.type))=some x)->cs.length=off+ty.size->∃y,C7 ty W Z (cs.drop off) y
 | [],off,ty,h,hx,hl=>by
  cases ty<;>simp[TS]at h;exact⟨(),by rw[List.drop_of_length_le (by simp[Ty.size]at hl;omega)];rfl⟩
 | [f],off,ty,h,hx,hl=>by
  have h':(Nat.beq f.offset off&&r f.type ty&&Nat.beq (P.cellsOf f.type) ty.size)=true:=by cases ty<;>exact h
  simp only[Bool.and_eq_true]at h';obtain⟨x,hx⟩:=hx f (by simp);obtain⟨y,hy⟩:=hr h'.1.2 hx;rw[Nat.eq_of_beq_eq_true h'.1.1,Nat.eq_of_beq_eq_true h'.2,List.take_of_length_le (by rw[List.length_drop];omega)]at hy;exact⟨y,hy⟩
 |f::g::fs,off,ty,h,hx,hl=>by
  cases ty<;>simp only[TS]at h<;>try cases h
  rename_i a b;simp only[Bool.and_eq_true]at h;obtain⟨⟨⟨h1,h2⟩,h3⟩,h4⟩:=h;obtain⟨x,hx1⟩:=hx f (by simp);obtain⟨y,hy⟩:=hr h2 hx1;rw[Nat.eq_of_beq_eq_true h1,Nat.eq_of_beq_eq_true h3]at hy;obtain⟨z,hz⟩:=dY hr h4 (fun q hq=>hx q (List.mem_cons_of_mem _ hq)) (by rw[hl];simp only[Ty.size];omega);exact⟨(y,z),(cs.drop off).take a.size,cs.drop (off+a.size),by rw[<-List.drop_drop,List.take_append_drop],hy,hz⟩
theorem dW {n:Nat} {r:TypeId->Ty->Bool} {Z:Nat->Prop} {cs:List Value} {e:TypeId} {sz:Nat} (hr:∀ {T:TypeId} {ty:Ty} {cs:List Value} {x:DataW H×List MemPlace},r T ty=true->DataW.trod enc P W 0 (fun _=>true) true n T cs=some x->∃y,C7 ty W Z cs y):
 ∀ {k i:Nat} {ty:Ty},TQ (r e) sz k ty=true->(∀j,j<k->∃x,DataW.trod enc P W 0 (fun _=>true) true n e ((cs.drop ((i+j)*sz)).take sz)=some x)->cs.length=i*sz+ty.size->∃y,C7 ty W Z (cs.drop (i*sz)) y
 |0,i,ty,h,hx,hl=>by
  cases ty<;>simp[TQ]at h;exact⟨(),by rw[List.drop_of_length_le (by simp[Ty.size]at hl;omega)];rfl⟩
 |1,i,ty,h,hx,hl=>by
  have h':(r e ty&&Nat.beq ty.size sz)=true:=by cases ty<;>exact h
  simp only[Bool.and_eq_true]at h';obtain⟨x,hx⟩:=hx 0 (by omega);rw[Nat.add_zero]at hx;obtain⟨y,hy⟩:=hr h'.1 hx;have:=Nat.eq_of_beq_eq_true h'.2;rw[List.take_of_length_le (by rw[List.length_drop];omega)]at hy;exact⟨y,hy⟩
 |k+2,i,ty,h,hx,hl=>by
  cases ty<;>simp only[TQ]at h<;>try cases h
  rename_i a b;simp only[Bool.and_eq_true]at h;obtain⟨⟨h1,h2⟩,h3⟩:=h;obtain⟨x,hx1⟩:=hx 0 (by omega);rw[Nat.add_zero]at hx1;obtain⟨y,hy⟩:=hr h1 hx1;have h2:=Nat.eq_of_beq_eq_true h2;have hy:C7 a W Z ((cs.drop (i*sz)).take a.size) y:=by rw[h2];exact hy
  have hi:(i+1)*sz=i*sz+a.size:=by rw[Nat.succ_mul,h2]
  obtain⟨z,hz⟩:=dW hr (i:=i+1) h3 (fun j hj=>by
   have:=hx (j+1) (by omega);rw[show i+(j+1)=i+1+j from by omega]at this;exact this) (by rw[hl,hi];simp only[Ty.size];omega)
  rw[hi]at hz;exact⟨(y,z),(cs.drop (i*sz)).take a.size,cs.drop (i*sz+a.size),by rw[<-List.drop_drop,List.take_append_drop],hy,hz⟩
theorem HM:∀ {m n:Nat} {T:TypeId} {ty:Ty} {cs:List Value} {x:DataW H×List MemPlace},XQ P m T ty=true->DataW.trod enc P W 0 (fun _=>true) true n T cs=some x->∃y,C7 ty W (fun b=>b<W.heap.size) cs y
 |0,_,_,_,_,_,h,_=>by cases h
 |m+1,n,T,ty,cs,x,h,hx=>by
  simp only[XQ]at h;split at h
  . rename_i k hu;cases ty<;>simp only at h<;>try cases h
    rename_i k';have:=of_decide_eq_true h;subst this;obtain⟨z,e,_,hw⟩:=DataW.trod_int hu hx;exact⟨z,e,by simp only[Lit.wf,Bool.and_eq_true,decide_eq_true_eq]at hw;exact hw⟩
  . rename_i hu;cases ty<;>simp only at h<;>try cases h
    obtain⟨b,e,_⟩:=DataW.trod_bool hu hx;exact⟨b,e⟩
  . rename_i hu;cases ty<;>simp only at h<;>try cases h
    obtain⟨s,e,_⟩:=DataW.trod_string hu hx;exact⟨s,e⟩
  . rename_i e hu;cases ty<;>simp only at h<;>try cases h
    rename_i t;simp only[Bool.and_eq_true]at h;have hsz:=Nat.eq_of_beq_eq_true h.1.2;rcases DataW.trod_slice hu hx with⟨hc,_⟩ | ⟨a,len,cap,IW,rest,q,hq,hc,_,_,hlc,hcm,hel,hget,_⟩
    . exact⟨[],none,0,hc,Nat.le_refl _,Nat.zero_le _,fun _=>rfl, .inl rfl⟩
    . by_cases h0:len=0
      . subst h0;exact⟨[],some a,cap,hc,Nat.zero_le _,hcm,fun hh=>(by cases hh), .inl rfl⟩
      . have hone:∀i,i<len->∃ec y,ec.length=t.size/\H1 W (a.add (i*t.size)) ec/\C7 t W (fun b=>b<W.heap.size) ec y:=fun i hi=>by
         have h1:=hget i hi;rw[List.getElem?_eq_getElem (by omega),hsz]at h1;obtain⟨ec,hec,hx2⟩:=Option.bind_eq_some_iff.1 h1;obtain⟨g1,g2⟩:=cells?_at hec;obtain⟨y,hy⟩:=HM (m:=m) h.1.1 hx2;exact⟨ec,y,g1,g2,hy⟩
        obtain⟨e0,y0,g1,g2,_⟩:=hone 0 (by omega);have hs1:=Nat.le_of_ble_eq_true h.2;obtain⟨v0,hv0⟩:=oT (l:=e0) (i:=0) (by omega);have hcell:=g2 0 v0 hv0;have ha0:(a.add (0*t.size)).add 0=a:=by simp[Addr.add]
        rw[ha0]at hcell;have hsp:=iN hcell;obtain⟨b,o,sp⟩:=a;simp only at hsp;subst hsp;have hb:b<W.heap.size:=block_lt_of_cell hcell;obtain⟨ec,l,k1,_,k3,k4⟩:=IX (R:=C7 t W (fun b=>b<W.heap.size)) (b:=b) (o:=o) (sz:=t.size) len (fun i hi=>by
         obtain⟨ec,y,q1,q2,q3⟩:=hone i hi;rw[G8]at q2;exact⟨ec,y,q1,q2,q3⟩)
        exact⟨l,some ⟨b,o,none⟩,cap,by rw[hc,k1],by omega,hcm,fun hh=>(by cases hh), .inr ⟨b,o,ec,rfl,hb,k3,k4⟩⟩
  . rename_i fs hu;simp only[Bool.and_eq_true]at h;obtain⟨xs,q,hq,_,hl,hxl,hf⟩:=DataW.trod_struct hu hx;have:=dY (enc:=enc) (P:=P) (W:=W) (n:=q) (Z:=fun b=>b<W.heap.size) (cs:=cs) (fun hh hx=>HM (m:=m) hh hx) h.1 (fun f hf'=>by
     obtain⟨i,hi,he⟩:=List.getElem_of_mem hf';have hi':i<fs.size:=by simpa using hi
     have h1:=hf i f (by rw[Array.getElem?_eq_getElem hi'];simpa using he);rw[List.getElem?_eq_getElem (by omega)]at h1;exact⟨_,h1⟩) (by rw[hl,Nat.eq_of_beq_eq_true h.2];omega)
    simpa using this
  . rename_i k e hu;simp only[Bool.and_eq_true]at h;obtain⟨xs,q,hq,_,hl,hxl,hf⟩:=DataW.trod_array hu hx;have:=dW (enc:=enc) (P:=P) (W:=W) (n:=q) (Z:=fun b=>b<W.heap.size) (cs:=cs) (e:=e) (i:=0) (fun hh hx=>HM (m:=m) hh hx) h.1 (fun j hj=>by
     have h1:=hf j hj;rw[List.getElem?_eq_getElem (by omega)]at h1;rw[Nat.zero_add];exact⟨_,h1⟩) (by rw[hl,Nat.eq_of_beq_eq_true h.2];omega)
    simpa using this
  . cases h
end
def A1s (P:Program) (T:TypeId) (a:Bool):Bool:=match P.underlying T with
 |some (.struct _)=>a
 |some (.array _ _)=>false
 | _=> !a
def SN (P:Program):List TypeId->List AM->Bool
 | [],[]=>true
 |T::ts, .val a ty::as=>XQ P 40 T ty&&A1s P T a&&SN P ts as
 | _,_=>false
section
variable {H:Type} {enc:TypeId×Value->H} {P:Program} {W:World}
theorem mR {m:Nat} {T:TypeId} {ty:Ty} {a:Bool} {r:Reach} {b0:Nat} {v:Value} {d:DataW H} {p:List MemPlace} (h:XQ P m T ty=true) (ha:A1s P T a=true) (hv:Value.okWide P W r b0 T v) (hd:DataW.Trod enc P W 0 (fun _=>true) true T v d p):
 ∃y,Q3 a ty W (fun b=>b<W.heap.size) v y:=by
 obtain⟨n,hd⟩:=hd;obtain⟨y,hy⟩:=HM h hd;refine⟨y, ?_⟩;cases m with
 |zero=>cases h
 |succ m=>
  simp only[XQ]at h;unfold A1s at ha;split at h
  . rename_i k hu;simp only[hu,Bool.not_eq_true']at ha;obtain⟨n,rfl⟩:=okWide_int hu hv;subst ha;exact hy
  . rename_i hu;simp only[hu,Bool.not_eq_true']at ha;obtain⟨n,rfl⟩:=okWide_bool hu hv;subst ha;exact hy
  . rename_i hu;simp only[hu,Bool.not_eq_true']at ha;obtain⟨n,rfl⟩:=okWide_string hu hv;subst ha;exact hy
  . rename_i e hu;simp only[hu,Bool.not_eq_true']at ha;obtain⟨x1,x2,x3,rfl⟩:=okWide_slice hu hv;subst ha;exact hy
  . rename_i fs hu;simp only[hu]at ha;obtain⟨cs,rfl,_⟩:=okWide_struct hu hv;subst ha;exact⟨cs.toList,by simp,hy⟩
  . rename_i hu;simp only[hu]at ha;cases ha
  . cases h
theorem QW {r:Reach} {b0:Nat} :∀ {ts:List TypeId} {as:List AM} {vs:List Value} {ds:List (DataW H)} {ps:List MemPlace},SN P ts as=true->DataW.TrodAll enc P W 0 (fun _=>true) true ts vs ds ps->(∀(j:Nat) (t:TypeId) (v:Value),ts[j]? =some t->vs[j]? =some v->Value.okWide P W r b0 t v)->∃x,S8 P W (fun b=>b<W.heap.size) as vs x
 | [],[],vs,ds,ps,_,h,_=>by
  cases vs with
  |nil=>exact⟨(),rfl⟩
  |cons _ _=>cases ds<;>exact h.elim
 | [],_:: _,_,_,_,h,_,_=>by cases h
 | _:: _,[],_,_,_,h,_,_=>by cases h
 |T::ts, .row _ _:: _,_,_,_,h,_,_=>by cases h
 |T::ts, .box _ _:: _,_,_,_,h,_,_=>by cases h
 |T::ts, .fn _ _ _:: _,_,_,_,h,_,_=>by cases h
 |T::ts, .rows _ _ _:: _,_,_,_,h,_,_=>by cases h
 |T::ts, .val a ty::as,vs,ds,ps,h,hA,hv=>by
  simp only[SN,Bool.and_eq_true]at h;obtain⟨v,vs',d,ds',p,q,rfl,rfl,rfl,h1,h2⟩:=trodAll_cons hA;obtain⟨y,hy⟩:=mR h.1.1 h.1.2 (hv 0 T v rfl rfl) h1;obtain⟨z,hz⟩:=QW h.2 h2 (fun j t u ht hu=>hv (j+1) t u (by simpa using ht) (by simpa using hu));exact⟨(y,z),v,vs',rfl,hy,hz⟩
def TX (as:List AM):A9:= {args:=as,res:= [.val false .bool],pre:=fun _=>True,post:=fun _ r=>r.1=true}
theorem gL {f:FuncId} {as:List AM} {vs:List Value} {x:A5 as} (ha:V4 as=true) (hm:B8 P f (TX as)) (h:S8 P W (fun b=>b<W.heap.size) as vs x):Gw.NF P f vs W fun v W'=>v= .bool true/\N0 W W':=by
 refine(hm W _ vs x (fun _ h=>h) h (by show Dis W (M6 as vs);rw[Tf ha];trivial) trivial).mono fun v w' ⟨hx,r,o,us,Zn,hpost,_,hv,_,hrep,_⟩=>⟨?_,hx.ext (fun b ⟨u,hu,_⟩=>by rw[show M6 (TX as).args vs= []from Tf ha vs]at hu;cases hu)⟩
 obtain⟨u,us',e,h1,_,h2⟩:=hrep;rw[show us'= []from h2]at e;subst e;have h1: [u]= [Value.bool r.1]:=h1;have hr:r.1=true:=hpost;rw[hr]at h1;rw[hv];simpa[Oi]using h1
theorem YA {f:FuncId} {s:A9} (h:∀x,¬s.pre x):B8 P f s:=fun _ _ _ x _ _ _ hp=>absurd hp (h x)
theorem A3:Kr P []:=fun _ _ h=>by cases h
theorem A0 {f:FuncId} {s:A9} {l:I7} (h1:B8 P f s) (h2:Kr P l) (hi:s.inl=none:=by rfl):Kr P ((f,s)::l):=fun g t h=>by
 unfold Ay at h;cases hb:Nat.beq f g with
 |true=>
  rw[hb]at h;obtain rfl:=Nat.eq_of_beq_eq_true hb;obtain rfl:s=t:=by simpa using h
  exact⟨h1,fun run hr=>by rw[hi]at hr;cases hr⟩
 |false=>rw[hb]at h;exact h2 g t h
theorem Ic {f:FuncId} {run:Inl} {l:I7} (h1:Yr P f run) (h2:Kr P l):Kr P ((f,Gi run)::l):=fun g t h=>by
 unfold Ay at h;cases hb:Nat.beq f g with
 |true=>
  rw[hb]at h;obtain rfl:=Nat.eq_of_beq_eq_true hb;obtain rfl:Gi run=t:=by simpa using h
  exact⟨fun _ _ _ _ _ _ _ hp=>hp.elim,fun r hr=>by cases hr;exact h1⟩
 |false=>rw[hb]at h;exact h2 g t h
theorem Tg:dB P []:=fun _ h=>by cases h
theorem Mq {d:Nat} {sp:I7} {an:An} {l:List (Nat×I7×An)} (h1:Kr P sp) (h2:dB P l):dB P ((d,sp,an)::l):=fun x hx=>by
 rcases List.mem_cons.1 hx with rfl|hx
 . exact h1
 . exact h2 x hx
end
end Go.Vc
namespace Go.Vc
open Go Go.RowKit Go.Gw
def Uh (g:FuncId) (t:Ty) (e:TypeId) (φ:t.den->t.den->Int) (_:Nat) (st:St) (ss:List SV) (k:St->List SV->Prop):Prop:=
 match ss with
 | [⟨false,[.row q]⟩,⟨false,[.fn g' []]⟩]=>bif Nat.beq g' g then(match Oh st t e q with
  |some l=>l.length<=100000/\∀l':List t.den,(Ty.sl t).wf l'->l'.Perm l->l'.Pairwise (fun a b=>¬φ b a<0)->k (addM [.row t e] (l',()) [q] (dropM st [q])) []
  |none=>False)else False
 | _=>False
theorem iM (g:FuncId) (t:Ty) (e:TypeId) (φ:t.den->t.den->Int) {st:St} {d:Nat} {ss:List SV} {k k':St->List SV->Prop} (h:Uh g t e φ d st ss k) (hk:∀st' ss',C4 st st'->k st' ss'->k' st' ss'):Uh g t e φ d st ss k':=by
 unfold Uh at h⊢;split at h
 . obtain⟨hb,h⟩:=B7 h;rw[hb,cond_true];split at h
   . exact⟨h.1,fun l' hw hp hs=>hk _ _ ((C4.dropM _ _).trans (C4.addM _ _ _ _)) (h.2 l' hw hp hs)⟩
   . exact h.elim
 . exact h.elim
def UY (g:FuncId) (t:Ty) (e:TypeId) (φ:t.den->t.den->Int):Inl:= {run:=Uh g t e φ,step:=iM g t e φ}
def X2 (t:Ty) (e:TypeId) (φ:t.den->t.den->Int):A9:=
 { args:= [.row t e],res:= [],shared:=true,pre:=fun _=>True,post:=fun _ _=>True,mpost:=fun(x:List t.den×Unit) _ (o:List t.den×Unit)=>o.1.Perm x.1/\o.1.Pairwise fun a b=>¬φ b a<0}
def dD (P:Program) (f g:FuncId) (t:Ty) (e:TypeId) (φ:t.den->t.den->Int):Prop:=
 ∀(w:World) (Z:Nat->Prop) (v:Value) (l:List t.den),(∀b,Z b->b<w.heap.size)->OW P w Z (.row t e) v l->l.length<=100000->jE P f (X2 t e φ) [v, .func (.func g) #[] #[]] w Z (l,())
theorem cN {P:Program} {tys:List (Nat×TI)} {f g:FuncId} {t:Ty} {e:TypeId} {φ:t.den->t.den->Int} (hs:dD P f g t e φ):Yr P f (UY g t e φ):=by
 refine {go:= ?_};intro za w0 st E w Z B d ss vs k hb0 h hrs href hr;replace hr:Uh g t e φ d st ss k:=hr;unfold Uh at hr;split at hr
 . rename_i q g';obtain⟨hg,hr2⟩:=B7 hr;clear hr;obtain rfl:=Nat.eq_of_beq_eq_true hg;split at hr2
   . rename_i l hl;obtain⟨hlen,hr3⟩:=hr2;obtain⟨v1,vs1,rfl,h1,v2,vs2,rfl,h2,rfl⟩:=hrs;have e1:v1=B q:=by
      obtain⟨u,us,e1,e2,e3⟩:=h1;cases e1;exact e2
     have e2:v2= .func (.func g') #[] #[]:=by
      obtain⟨u,us,e1,e2,e3⟩:=h2;cases e1;exact e2
     subst e1 e2;have hL:=h.locs q;have hq:∃t',∃e',∃l':List t'.den,st.L q= .row t' e' l':=by
      unfold Oh at hl;split at hl
      . exact⟨_,_,_,by assumption⟩
      . cases hl
     obtain⟨t',e',l0,hq⟩:=hq;unfold Oh at hl;rw[hq]at hl hL;simp only at hl;split at hl
     . rename_i ht;subst ht;cases hbe:Nat.beq e' e with
       |false=>simp[hbe]at hl
       |true=>
        simp only[hbe,cond_true,Option.some.injEq]at hl;obtain rfl:=Nat.eq_of_beq_eq_true hbe;subst hl;obtain⟨xs,hown,hea,hZ⟩:=hL;have hrep:OW P w Z (.row t' e') (B q) l0:=⟨xs,hown,hea,fun b hb=>(hZ b hb).2⟩;have hret:=hs w Z (B q) l0 h.zlt hrep hlen;have hlv:live (st.L q):=by rw[hq];trivial
        have hz:lz w st [q] B Z true=Z:=by funext b;simp[lz]
        have:=CF (cx:=⟨P,tys⟩) (s:=X2 t' e' φ) (x:=(l0,())) (vs:= [B q, .func (.func g') #[] #[]]) (mu:= [q]) h (by rw[show(X2 t' e' φ).shared=true from rfl,hz];exact hret) rfl
         ⟨⟨rfl,fun b hb=>by rw[hq];exact hb⟩,trivial⟩ (by simp) (fun q2 hq2=>by simp at hq2;subst hq2;exact hlv)
        refine Gw.NF.mono this fun v w' ⟨_,r,o,us,_,how,_,hmp,hv,Z',B',h3,h4,_⟩=> ?_
        obtain⟨hp,hsrt⟩:=hmp rfl;have hus:us= []:=h4;subst hus;exact⟨_,Z',B',[],[],h3,hv,rfl,fun s hs=>(by cases hs),hr3 o.1 how.1 hp hsrt⟩
     . cases hl
   . exact hr2.elim
 . exact hr.elim
def Tw (g:FuncId) (e:TypeId) (_:Nat) (st:St) (ss:List SV) (k:St->List SV->Prop):Prop:=
 match ss with
 | [⟨false,[.fn g' [kb]]⟩]=>bif Nat.beq g' g then(match st.L kb with
  | .box _ [.mp j]=>(match st.L j with
   | .map false (.int .i64) _ _ es=>(es.length<=100000/\List.Nodup (α:=Int) (es.map (·.1)))/\∀l:List Int,l.Perm (es.map (·.1))->l.Pairwise (· <= ·)->k (st.newL (.row (.int .i64) e l)) [⟨false,[.row st.nx]⟩]
   | _=>False)
  | _=>False)else False
 | _=>False
theorem gK (g:FuncId) (e:TypeId) {st:St} {d:Nat} {ss:List SV} {k k':St->List SV->Prop} (h:Tw g e d st ss k) (hk:∀st' ss',C4 st st'->k st' ss'->k' st' ss'):Tw g e d st ss k':=by
 unfold Tw at h⊢;split at h
 . obtain⟨hb,h⟩:=B7 h;rw[hb,cond_true];split at h
   . split at h
     . exact⟨h.1,fun l hp hs=>hk _ _ (C4.place [.own (.int .i64) e] (l,()) st) (h.2 l hp hs)⟩
     . exact h.elim
   . exact h.elim
 . exact h.elim
def TW (g:FuncId) (e:TypeId):Inl:= {run:=Tw g e,step:=gK g e}
def XU (e:TypeId) (ks:List Int):A9:=
 { args:= [],res:= [.own (.int .i64) e],shared:=false,pre:=fun _=>True,post:=fun _ (r:List Int×Unit)=>r.1.Perm ks/\r.1.Pairwise (· <= ·)}
def A1p (P:Program) (f g:FuncId) (e:TypeId):Prop:=
 ∀(w:World) (Z:Nat->Prop) (va:Bool) (vt:Ty) (bm b clock:Nat) (T:TypeId) (ents:Array MapEntry) (es:List (Int×vt.den)),Yq w bm #[.map (some b)] T->w.heap[b]? =some (.map ents clock)->ZQ ents clock->Cn w Z false (.int .i64) va vt ents.toList es->es.length<=100000->List.Nodup (α:=Int) (es.map (·.1))->
  jE P f (XU e (es.map (·.1))) [.func (.func g) #[] #[.pointer (some ⟨bm,0,none⟩)]] w (fun _=>False) ()
theorem bI {P:Program} {tys:List (Nat×TI)} {f g:FuncId} {e:TypeId} (hs:A1p P f g e):Yr P f (TW g e):=by
 refine {go:= ?_};intro za w0 st E w Z B d ss vs k hb0 h hrs href hr;replace hr:Tw g e d st ss k:=hr;unfold Tw at hr;split at hr
 . rename_i g' kb;obtain⟨hg,hr2⟩:=B7 hr;clear hr;obtain rfl:=Nat.eq_of_beq_eq_true hg;split at hr2
   . rename_i T j hkb;split at hr2
     . rename_i va vt es hj;obtain⟨hlen,hr3⟩:=hr2;obtain⟨v1,vs1,rfl,h1,rfl⟩:=hrs;have e1:v1= .func (.func g') #[] #[B kb]:=by
        obtain⟨u,us,e1,e2,e3⟩:=h1;cases e1;exact e2
       subst e1;have h2:=h.locs kb;have h3:=h.locs j;rw[hkb]at h2;rw[hj]at h3;obtain⟨bm,cs,hB,_,_,hblk,u,us,hcs,hu,hus⟩:=h2;obtain⟨b,ents,clock,hBj,_,_,hheap,hmok,hents⟩:=h3;have hcs':cs= #[.map (some b)]:=by
        rw[show us= []from hus,show u=B j from hu,hBj]at hcs;cases cs;simpa using hcs
       subst hcs';have hret:=hs w Z va vt bm b clock T ents es hblk hheap hmok hents hlen.1 hlen.2;rw[hB];have:=CF (cx:=⟨P,tys⟩) (s:=XU e (es.map (·.1))) (x:=()) (vs:= [.func (.func g') #[] #[.pointer (some ⟨bm,0,none⟩)]]) (mu:= []) h (hret.mono fun v w' ⟨hx,r,o,us,Zn,a1,a2,a3,a4,a5⟩=>⟨hx,r,o,us,Zn,a1,a2,a3,fun b hb=>(a4 b hb).imp id fun hh=>hh.2.elim,a5⟩) rfl trivial (by simp) (fun q2 hq2=>by cases hq2);refine Gw.NF.mono this fun v w' ⟨_,r,o,us,_,_,hpost,_,hv,Z',B',h4,h5,h6⟩=> ?_
       exact⟨_,Z',B',_,us,h4,hv,h5,h6,hr3 r.1 hpost.1 hpost.2⟩
     . exact hr2.elim
   . exact hr2.elim
 . exact hr.elim
def EY (P:Program) (as:List (Bool×Ty)) (ra:Bool) (r a:Ty) (φ:a.den->R9 as->r.den):List SV->Option SV
 | [⟨false,[.val a' n]⟩]=>if h:a'=a then some ⟨false,[.fv P as ra r (fun _=>True) (φ (h▸n))]⟩else none
 | _=>none
def kT (P:Program) (as:List (Bool×Ty)) (ra:Bool) (r a:Ty) (φ:a.den->R9 as->r.den):Inl:=
 { run:=fun _ st ss k=>match EY P as ra r a φ ss with
    |some sv=>k st [sv]
    |none=>False
   res:=EY P as ra r a φ
   step:=fun {st d ss k k'} h hk=>by
    cases hr:EY P as ra r a φ ss with
    |none=>rw[hr]at h;exact h.elim
    |some sv=>rw[hr]at h;exact hk _ _ (C4.refl _) h}
def A6a (P:Program) (f:FuncId) (as:List (Bool×Ty)) (ra:Bool) (r a:Ty) (φ:a.den->R9 as->r.den):Prop:=
 ∀(w:World) (Z:Nat->Prop) (v:Value) (n:a.den),C7 a w Z [v] n->Gw.NF P f [v] w fun u w'=>N0 w w'/\∃Zn:Nat->Prop,(∀b,Zn b->Z b\/(w.heap.size<=b/\b<w'.heap.size))/\ZU P w' Zn u as ra r (fun _=>True) (φ n)
theorem ZU.mono {P:Program} {w:World} {Z Z':Nat->Prop} {v:Value} {as:List (Bool×Ty)} {ra:Bool} {r:Ty} {ok:R9 as->Prop} {φ:R9 as->r.den} (h:ZU P w Z v as ra r ok φ) (hz:∀b,Z b->Z' b):ZU P w Z' v as ra r ok φ:=
 RC.mono (B:=fun _=>v) (B':=fun _=>v) (n:=0) (c:= .fv P as ra r ok φ) hz (fun _ _=>rfl) (fun _ _=>rfl) trivial h
theorem kU {P:Program} {f:FuncId} {as:List (Bool×Ty)} {ra:Bool} {r a:Ty} {φ:a.den->R9 as->r.den} (hs:A6a P f as ra r a φ):Yr P f (kT P as ra r a φ):=by
 have res:∀ {za:Zn} {w0:World} {st:St} {E:F5} {w:World} {Z:Nat->Prop} {B:Nat->Value} {ss:List SV} {vs:List Value} {sv:SV},B9 za w0 st E w Z B->Kq w Z B ss vs->EY P as ra r a φ ss=some sv->
  Gw.NF P f vs w fun v w'=>N0 w w'/\∃Z':Nat->Prop,(∀b,Z b->Z' b)/\(∀b,Z' b->Z b\/(w.heap.size<=b/\b<w'.heap.size))/\RS w' Z' B sv v:=by
  intro za w0 st E w Z B ss vs sv h hrs hsv;unfold EY at hsv;split at hsv
  . rename_i a' n;split at hsv
    . rename_i ha;subst ha;cases hsv;obtain⟨v1,vs1,rfl,h1,rfl⟩:=hrs;obtain⟨u,us,e1,e2,e3⟩:=h1;cases e1;refine Gw.NF.mono (hs w Z v1 n e2) fun u w' ⟨hx,Zn,hz,hf⟩=>⟨hx,fun b=>Z b\/Zn b,fun _=> .inl,fun b hb=>hb.elim .inl (hz b), ?_⟩
      exact⟨u,[],rfl,hf.mono fun _=> .inr,rfl⟩
    . cases hsv
  . cases hsv
 refine {go:= ?_,res:=res};intro za w0 st E w Z B d ss vs k hb0 h hrs href hr;replace hr:(match EY P as ra r a φ ss with|some sv=>k st [sv] |none=>False):=hr;cases hv:EY P as ra r a φ ss with
 |none=>rw[hv]at hr;exact hr.elim
 |some sv=>
  rw[hv]at hr;refine Gw.NF.mono (res h hrs hv) fun v w' ⟨hx,Z',hz,hz',hrep⟩=>⟨st,Z',B,[sv],[v],h.more hx hz hz',rfl,⟨v,[],rfl,hrep,rfl⟩,fun s hs=> ?_,hr⟩
  rw[List.mem_singleton]at hs;subst hs;unfold EY at hv;split at hv
  . split at hv
    . cases hv;intro c hc;rw[List.mem_singleton]at hc;subst hc;trivial
    . cases hv
  . cases hv
end Go.Vc
namespace Go.Proofs.YtdlnpbmmdnmkaaaGreat
open Go.Vc Go.Gw
def fill {α:Type} (n i:Nat) (F:Nat->α) (out:List α):Prop:=out.length=n/\∀j,j<i->out[j]? =some (F j)
theorem A1c {α:Type} {n:Nat} {F:Nat->α} {out:List α} (h:out.length=n):fill n 0 F out:=⟨h,fun _ hj=>by omega⟩
theorem WS {α:Type} {n:Nat} {i:Int} {F:Nat->α} {out:List α} {x:α} (h:fill n i.toNat F out) (h0:0<=i) (hi:i<(n:Int)) (hx:x=F i.toNat):fill n (i+1).toNat F (out.set i.toNat x):=by
 refine⟨by rw[List.length_set];exact h.1,fun j hj=> ?_⟩;rw[List.getElem?_set];by_cases he:i.toNat=j
 . rw[if_pos he,if_pos (by rw[h.1];omega), <-he,hx]
 . rw[if_neg he];exact h.2 j (by omega)
theorem WR {α:Type} {n i:Nat} {F:Nat->α} {out:List α} (h:fill n i F out) (hi:n<=i):out=(List.range n).map F:=by
 refine List.ext_getElem? fun j=> ?_
 by_cases hj:j<n
 . rw[h.2 j (by omega),List.getElem?_map,List.getElem?_range hj];rfl
 . rw[List.getElem?_eq_none (by rw[h.1];omega),List.getElem?_eq_none (by simp;omega)]
theorem XZ {α:Type} {i:Int} (F:Nat->α) (h0:0<=i):(List.range (i+1).toNat).map F=(List.range i.toNat).map F++ [F i.toNat]:=by
 rw[show(i+1).toNat=i.toNat+1 from by omega,List.range_succ,List.map_append];rfl
def PR (n i:Nat) (P:Nat->List F8->Prop) (out:List (List F8)):Prop:=out.length=n/\∀j,j<i->P j (out.getD j [])
theorem kK {n:Nat} {P:Nat->List F8->Prop} {out:List (List F8)} (h:out.length=n):PR n 0 P out:=⟨h,fun _ hj=>by omega⟩
theorem PS {n:Nat} {i:Int} {P:Nat->List F8->Prop} {out:List (List F8)} {x:List F8} (h:PR n i.toNat P out) (h0:0<=i) (hi:i<(n:Int)) (hx:P i.toNat x):PR n (i+1).toNat P (out.set i.toNat x):=by
 refine⟨by rw[List.length_set];exact h.1,fun j hj=> ?_⟩;rw[List.getD_eq_getElem?_getD,List.getElem?_set];by_cases he:i.toNat=j
 . rw[if_pos he,if_pos (by rw[h.1];omega), <-he];exact hx
 . rw[if_neg he, <-List.getD_eq_getElem?_getD];exact h.2 j (by omega)
theorem jY (n:Int) (f:Int->Rat):(dl n f).length=n.toNat:=by simp[dl]
theorem A2g {n:Int} {f:Int->Rat} {j:Nat} (h:(j:Int)<n):(dl n f)[j]? =some (rc (f (j:Int))):=by
 unfold dl;rw[List.getElem?_map,List.getElem?_range (by omega)];rfl
theorem oR {n:Int} {f:Int->Rat} {j:Nat} (d:G3) (h:(j:Int)<n):(dl n f).getD j d=rc (f (j:Int)):=by
 rw[List.getD_eq_getElem?_getD,A2g h];rfl
theorem dL (m:Bc):(oB m).length=m.1.toNat:=by simp[oB]
theorem kF {m:Bc} {i:Nat} (h:(i:Int)<m.1):(oB m).getD i []=dl m.2.1 (C5 (m.2.2.getD i [])):=by
 unfold oB;rw[List.getD_eq_getElem?_getD,List.getElem?_map,List.getElem?_range (by omega)];rfl
theorem Xx {k:Nat} {m:Bc} (hv:C3 m) (hs:Gu k m) {v:List F8} (h:v∈m.2.2):DT k v:=by
 refine⟨(hv.2.2.2.2.2 v h).1,hs v h, ?_⟩;have:=SO (hv.2.2.2.2.2 v h);have:=hv.2.2.2.1;have:=hv.2.2.1;omega
theorem dZ {n:Nat} {f:Nat->Rat} {v:List F8} {g:Int->Rat} (h:lO g v) (h1:∀i,¬(0<=i/\i<(n:Int))->g i=0) (h2:∀j:Nat,j<n->g (j:Int)=f j):TT n f v:=by
 refine⟨h.1,fun e he=> ?_,fun j hj=>by rw[h.2,h2 j hj]⟩;refine Decidable.byContradiction fun hn=> ?_
 have e1:=Kv h.1.1 he;rw[h.2,h1 _ hn]at e1;exact(h.1.2 e he).1 e1.symm
theorem EL {v:List F8} {n i:Int} (h:G7 v n) (hi:¬(0<=i/\i<n)):C5 v i=0:=H5 fun e he hei=>hi (by rw[<-hei];exact⟨(h.2 e he).1,(h.2 e he).2.1⟩)
end Go.Proofs.YtdlnpbmmdnmkaaaGreat
namespace Go.Proofs.YtdlnpbmmdnmkaaaGreat
structure oE (X Y w x y u0 u1 u2 v0 v1 v2:Int) (ev:Bool):Prop where
 yx:y<=x
 y0:0<=y
 x0:0<x
 u10:0<=u1
 u20:0<=u2
 v10:0<=v1
 v20:1<=v2
 uv2:u2<=v2
 ex:x=if ev then v1*Y-u1*X else u1*X-v1*Y
 ey:y=if ev then u2*X-v2*Y else v2*Y-u2*X
 idX:x*v2+y*v1=X
 idY:x*u2+y*u1=Y
 det:u1*v2-u2*v1=if ev then -1 else 1
 /--At the start,or with what the cofactors before need. -/
 back:(u0=0/\u1=1/\v0=0/\v1=0/\ev=false/\u2=0/\v2=1)\/(0<=u0/\0<=v0/\u1<=v1/\v1<=x/\u0<=w/\v0<=w/\w-x>=v0+v1/\(v0=0\/u0<=v0)/\1<=v1/\
  w=(if ev then u0*X-v0*Y else v0*Y-u0*X)/\(u0*v1-u1*v0=if ev then 1 else -1))
theorem oE.start {X Y:Int} (hY:0<=Y) (h:Y<=X) (hX:0<X):oE X Y 0 X Y 0 1 0 0 0 1 false where
 yx:=h
 y0:=hY
 x0:=hX
 u10:=by decide
 u20:=by decide
 v10:=by decide
 v20:=by decide
 uv2:=by decide
 ex:=by simp
 ey:=by simp
 idX:=by omega
 idY:=by omega
 det:=by simp
 back:= .inl ⟨rfl,rfl,rfl,rfl,rfl,rfl,rfl⟩
theorem oE.step {X Y w x y u0 u1 u2 v0 v1 v2:Int} {ev:Bool} (h:oE X Y w x y u0 u1 u2 v0 v1 v2 ev) (c1:v2<=y) (c2:v1+v2<=x-y):oE X Y x y (x%y) u1 u2 (u1+x/y*u2) v1 v2 (v1+x/y*v2) (!ev):=by
 have hv:=h.v20;have hy:0<y:=by omega
 have hq1:1<=x/y:=by
  rw[Int.le_ediv_iff_mul_le hy];have:=h.yx;omega
 have hr0:=Int.emod_nonneg x (b:=y) (by omega);have hr1:=Int.emod_lt_of_pos x hy;have hdm:x=y*(x/y)+x%y:=(Int.mul_ediv_add_emod x y).symm;have he:x%y=x-x/y*y:=by rw[Int.mul_comm (x/y)];omega
 have hidX:=h.idX;have hidY:=h.idY;have hdet:=h.det;have hex:=h.ex;have hey:=h.ey;have hu20:=h.u20;have hu10:=h.u10;have hv10:=h.v10;have huv2:=h.uv2;generalize x/y=q at*;have hqu:0<=q*u2:=Int.mul_nonneg (by omega) hu20;have hqv:1*v2<=q*v2:=Int.mul_le_mul_of_nonneg_right hq1 (by omega);have hquv:q*u2<=q*v2:=Int.mul_le_mul_of_nonneg_left huv2 (by omega);refine⟨Int.le_of_lt hr1,hr0,hy,hu20,Int.add_nonneg hu10 hqu,by omega,by omega, ?_, ?_, ?_, ?_, ?_, ?_, .inr ⟨hu10,hv10,huv2,c1, ?_,by omega,by omega, ?_,hv, ?_, ?_⟩⟩
 . rcases h.back with⟨_,b1,_,b2,_,b3,b4⟩ | ⟨_,_,b1,_⟩
   . subst b3 b4;omega
   . omega
 . cases ev<;>simpa using hey
 . rw[he];cases ev
   . simp only[Bool.not_false,if_true,Bool.false_eq_true,if_false]at hex hey⊢;rw[hex,hey];grind
   . simp only[Bool.not_true,if_true,Bool.false_eq_true,if_false]at hex hey⊢;rw[hex,hey];grind
 . rw[he, <-hidX];grind
 . rw[he, <-hidY];grind
 . have e1:u2*(v1+q*v2)-(u1+q*u2)*v2= -(u1*v2-u2*v1):=by
    grind
   rw[e1,hdet];cases ev<;>simp
 . rcases h.back with⟨_,b1,_,b2,_⟩ | ⟨_,_,b1,_⟩<;>omega
 . rcases h.back with⟨_,b1,_,b2,_⟩ | ⟨_,_,b1,_⟩
   . exact .inl b2
   . exact .inr b1
 . cases ev<;>simpa using hex
 . rw[hdet];cases ev<;>simp
theorem oE.apply {X Y w x y u0 u1 u2 v0 v1 v2:Int} {ev:Bool} (h:oE X Y w x y u0 u1 u2 v0 v1 v2 ev) (hv0:v0≠0) {P α β A B:Int} (hP:0<P) (ha0:0<=α) (ha1:α<P) (hb0:0<=β) (hb1:β<P) (hA:A=X*P+α) (hB:B=Y*P+β):
 ∃A' B':Int,A'=(if ev then u0*A-v0*B else v0*B-u0*A)/\B'=(if ev then v1*B-u1*A else u1*A-v1*B)/\0<=B'/\B'<=A'/\A=v1*A'+v0*B'/\B=u1*A'+u0*B'/\1<=v0/\1<=v1/\0<=u0/\0<=u1:=by
 rcases h.back with⟨_,_,b2,_⟩ | ⟨a0,b0,uv1,vx,uw,vw,gap,ouv,v1p,ew,det⟩
 . exact absurd b2 hv0
 have huv0:u0<=v0:=ouv.resolve_left hv0;have hu1:=h.u10;refine⟨_,_,rfl,rfl, ?_, ?_, ?_, ?_,by omega,v1p,a0,hu1⟩
 . --the second combination is not negative
   have hex:=h.ex;have h1:0<=(x-v1)*P:=Int.mul_nonneg (by omega) (by omega);have h2:0<=u1*α:=Int.mul_nonneg hu1 ha0;have h3:v1*β<=v1*P:=Int.mul_le_mul_of_nonneg_left (by omega) (by omega);have h4:0<=v1*β:=Int.mul_nonneg (by omega) hb0;have h5:u1*α<=u1*P:=Int.mul_le_mul_of_nonneg_left (by omega) hu1;have h6:u1*P<=v1*P:=Int.mul_le_mul_of_nonneg_right uv1 (by omega);rw[Int.sub_mul]at h1;cases ev
   . simp only[Bool.false_eq_true,if_false]at hex⊢;have:u1*A-v1*B=x*P+u1*α-v1*β:=by
      rw[hA,hB,hex];grind
     omega
   . simp only[if_true]at hex⊢;have:v1*B-u1*A=x*P+v1*β-u1*α:=by
      rw[hA,hB,hex];grind
     omega
 . have hex:=h.ex;have h1:0<=(w-x-(v0+v1))*P:=Int.mul_nonneg (by omega) (by omega);have h2:0<=(u0+u1)*α:=Int.mul_nonneg (by omega) ha0;have h3:(v0+v1)*β<=(v0+v1)*P:=Int.mul_le_mul_of_nonneg_left (by omega) (by omega);have h4:0<=(v0+v1)*β:=Int.mul_nonneg (by omega) hb0;have h5:(u0+u1)*α<=(u0+u1)*P:=Int.mul_le_mul_of_nonneg_left (by omega) (by omega);have h6:(u0+u1)*P<=(v0+v1)*P:=Int.mul_le_mul_of_nonneg_right (by omega) (by omega);rw[Int.sub_mul]at h1;cases ev
   . simp only[Bool.false_eq_true,if_false]at hex ew⊢;have:v0*B-u0*A-(u1*A-v1*B)=(w-x)*P+(v0+v1)*β-(u0+u1)*α:=by
      rw[hA,hB,hex,ew];grind
     omega
   . simp only[if_true]at hex ew⊢;have:u0*A-v0*B-(v1*B-u1*A)=(w-x)*P+(u0+u1)*α-(v0+v1)*β:=by
      rw[hA,hB,hex,ew];grind
     omega
 . cases ev
   . simp only[Bool.false_eq_true,if_false]at det⊢;have:v1*(v0*B-u0*A)+v0*(u1*A-v1*B)= -(u0*v1-u1*v0)*A:=by
      grind
     rw[this,det];omega
   . simp only[if_true]at det⊢;have:v1*(u0*A-v0*B)+v0*(v1*B-u1*A)=(u0*v1-u1*v0)*A:=by
      grind
     rw[this,det];omega
 . cases ev
   . simp only[Bool.false_eq_true,if_false]at det⊢;have:u1*(v0*B-u0*A)+u0*(u1*A-v1*B)= -(u0*v1-u1*v0)*B:=by
      grind
     rw[this,det];omega
   . simp only[if_true]at det⊢;have:u1*(u0*A-v0*B)+u0*(v1*B-u1*A)=(u0*v1-u1*v0)*B:=by
      grind
     rw[this,det];omega
theorem kW {A B A' B' u0 u1 v0 v1 s t p q:Int} (h1:A=v1*A'+v0*B') (h2:B=u1*A'+u0*B') (h3:A'=s*A+t*B) (h4:B'=p*A+q*B):Int.gcd A B=Int.gcd A' B':=by
 apply Nat.dvd_antisymm
 . apply Int.dvd_gcd
   . rw[h3];exact Int.dvd_add (Int.dvd_mul_of_dvd_right (Int.gcd_dvd_left ..)) (Int.dvd_mul_of_dvd_right (Int.gcd_dvd_right ..))
   . rw[h4];exact Int.dvd_add (Int.dvd_mul_of_dvd_right (Int.gcd_dvd_left ..)) (Int.dvd_mul_of_dvd_right (Int.gcd_dvd_right ..))
 . apply Int.dvd_gcd
   . rw[h1];exact Int.dvd_add (Int.dvd_mul_of_dvd_right (Int.gcd_dvd_left ..)) (Int.dvd_mul_of_dvd_right (Int.gcd_dvd_right ..))
   . rw[h2];exact Int.dvd_add (Int.dvd_mul_of_dvd_right (Int.gcd_dvd_left ..)) (Int.dvd_mul_of_dvd_right (Int.gcd_dvd_right ..))
end Go.Proofs.YtdlnpbmmdnmkaaaGreat
namespace Go.Proofs.YtdlnpbmmdnmkaaaGreat
open Go.Vc Go.Gw
theorem Uj {s:Nat} (hs:s<=32):4294967296=2^s*2^(32-s):=by
 rw[<-Nat.pow_add,show s+(32-s)=32 from by omega]
theorem Gx (n:Nat):4294967296^n=2^(32*n):=by
 rw[show(4294967296:Nat)=2^32 from rfl, <-Nat.pow_mul]
theorem A0s {a low lo H P s:Nat} (hP:0<P) (ha:a=low+lo*P+H*(P*4294967296)) (hlow:low<P) (hs:s<=31):a*2^s/(P*4294967296)=H*2^s+lo/2^(32-s):=by
 have hQ:0<P*4294967296:=Nat.mul_pos hP (by decide);have h2:0<2^s:=Nat.pow_pos (by decide);have e:a*2^s=(low+lo*P)*2^s+H*2^s*(P*4294967296):=by
  rw[ha,Nat.add_mul,Nat.mul_right_comm H]
 rw[e,Nat.add_mul_div_right _ _ hQ,Nat.add_comm];congr 1;have e2:P*4294967296=P*2^(32-s)*2^s:=by rw[Nat.mul_assoc,Nat.mul_comm (2^(32-s)), <-Uj (by omega)]
 rw[e2,Nat.mul_div_mul_right _ _ h2, <-Nat.div_div_eq_div_mul,Nat.add_mul_div_right _ _ hP,Nat.div_eq_of_lt hlow,Nat.zero_add]
theorem iI {a s m:Nat} (h:s<=m):a*2^s/2^m=a/2^(m-s):=by
 have h2:0<2^s:=Nat.pow_pos (by decide)
 conv=>lhs;rw[show m=m-s+s from by omega,Nat.pow_add,Nat.mul_div_mul_right _ _ h2]
theorem UE (l:List Int) (i:Nat) (h:i<=l.length):nv l=nv (l.take i)+4294967296^i*nv (l.drop i):=by
 conv=>lhs;rw[<-List.take_append_drop i l,Lc,List.length_take,Nat.min_eq_left h]
theorem O8 {l:List Int} (h:A7 l) (i:Nat):nv (l.take i)<4294967296^i:=by
 have h1:=Cu (l:=l.take i) fun x hx=>h x (List.mem_of_mem_take hx)
 refine Nat.lt_of_lt_of_le h1 (Nat.pow_le_pow_right (by decide) ?_);rw[List.length_take];exact Nat.min_le_left ..
theorem Nj (l:List Int) {n:Nat} (h:l.length<=n+1):nv l=nv (l.take n)+4294967296^n*dg l n:=by
 conv=>lhs;rw[<-List.take_of_length_le h,H3]
theorem eN (l:List Int) {n:Nat} (h:l.length<=n+2):nv l=nv (l.take n)+4294967296^n*(dg l (n+1)*4294967296+dg l n):=by
 rw[Nj l (n:=n+1) h,H3,Nat.pow_succ,Nat.mul_add,Nat.mul_comm (dg l (n+1)), <-Nat.mul_assoc];omega
theorem eO (l:List Int) {n:Nat} (h:l.length<=n+3):nv l=nv (l.take n)+4294967296^n*((dg l (n+2)*4294967296+dg l (n+1))*4294967296+dg l n):=by
 rw[eN l (n:=n+1) h,H3,Nat.pow_succ];generalize 4294967296^n=P;grind
theorem eD {a:List Int} (ha:A7 a) {n:Nat} (hn:a.length=n+1) {s:Nat} (hs:s+I3 (dg a n)<=32):nv a*2^s<4294967296^(n+1):=by
 have h1:=Nj a (n:=n) (by omega);have h2:=O8 ha n;have h3:=SP (dg a n);have h4:nv a<4294967296^n*2^I3 (dg a n):=by
  have:4294967296^n*(dg a n+1)<=4294967296^n*2^I3 (dg a n):=Nat.mul_le_mul_left _ h3;rw[Nat.mul_add,Nat.mul_one]at this;omega
 have h5:nv a*2^s<4294967296^n*2^I3 (dg a n)*2^s:=Nat.mul_lt_mul_of_pos_right h4 (Nat.pow_pos (by decide));rw[Nat.mul_assoc, <-Nat.pow_add]at h5;have h6:2^(I3 (dg a n)+s)<=2^32:=Nat.pow_le_pow_right (by decide) (by omega);have h7:=Nat.mul_le_mul_left (4294967296^n) h6;rw[Nat.pow_succ];exact Nat.lt_of_lt_of_le h5 h7
theorem QO {n:Nat} (h:n≠0):Ig (nc n):=by
 have hlen:(nc n).length≠0:=fun h0=>h (Qz.1 (List.eq_nil_of_length_eq_zero h0))
 unfold Ig;intro h0;have hb:=H9 n;have e:=Nj (nc n) (n:=(nc n).length-1) (by omega);have hd:dg (nc n) ((nc n).length-1)=0:=by unfold dg;rw[h0];rfl
 rw[hd,Nat.mul_zero,Nat.add_zero,E8]at e;have hlt:=O8 hb ((nc n).length-1);rw[<-e]at hlt;have:=Ct hlt;omega
theorem EK {l:List Int} (hl:A7 l) (h:Ig l):dg l (l.length-1)≠0:=by
 unfold Ig at h;have:=S7 hl (i:=l.length-1);rw[this]at h;omega
theorem LS {l:List Int} (hl:A7 l) (h:Ig l):nv l≠0:=by
 have h1:=EK hl h;have h0:l.length≠0:=fun e=>by
  rw[List.eq_nil_of_length_eq_zero e]at h1;simp[dg]at h1
 have e:=Nj l (n:=l.length-1) (by omega);have h2:0<4294967296^(l.length-1):=Nat.pow_pos (by decide);have h3:=Nat.mul_le_mul_left (4294967296^(l.length-1)) (Nat.pos_of_ne_zero h1);omega
theorem eF {V low P x:Nat} (h:V=low+P*x) (hl:low<P):x*P<=V/\V<(x+1)*P:=by
 rw[Nat.add_mul,Nat.one_mul,Nat.mul_comm x,h];omega
theorem A2e {w v:List Int} (hw:A7 w) (hv:A7 v) {n:Nat} (hn:v.length=n+2) (hwl:w.length=n+3) (hv1:dg v (n+1)≠0) (hlt:nv w<nv v*4294967296):NC (nv w) (nv v) (dg v (n+1)) (dg v n) (dg w (n+2)*4294967296+dg w (n+1)) (dg w n) (4294967296^n):=by
 have ev:=eN v (n:=n) (by omega);have ew:=eO w (n:=n) (by omega);have lv:=O8 hv n;have lw:=O8 hw n;have b1:=K3 hv (n+1);have b2:=K3 hv n;have b3:=K3 hw n;exact⟨Nat.pow_pos (by decide),Nat.pos_of_ne_zero hv1,by omega,by omega,by omega,(eF ev lv).1,(eF ev lv).2,(eF ew lw).1,(eF ew lw).2,hlt⟩
theorem jW {l:List Int} (h:A7 l) (i:Nat):dg l i=nv l/4294967296^i%4294967296:=by
 have hp:0<4294967296^i:=Nat.pow_pos (by decide);by_cases hi:i<l.length
 . have e:=UE l (i+1) (by omega);rw[H3]at e;have h1:=O8 h i;have h2:=K3 h i;have e2:nv l=nv (l.take i)+(dg l i+4294967296*nv (l.drop (i+1)))*4294967296^i:=by
    rw[e,Nat.pow_succ];generalize 4294967296^i=P;grind
   rw[e2,Nat.add_mul_div_right _ _ hp,Nat.div_eq_of_lt h1,Nat.zero_add,Nat.add_mul_mod_self_left,Nat.mod_eq_of_lt (by omega)]
 . rw[Jz (by omega)];have h1:=Cu h;have h2:4294967296^l.length<=4294967296^i:=Nat.pow_le_pow_right (by decide) (by omega);rw[Nat.div_eq_of_lt (by omega)]
theorem oK {l:List Int} (h:A7 l) (i:Nat):dg l (i/32)/2^(i%32)%2=nv l/2^i%2:=by
 rw[jW h,Gx];have e:i=32*(i/32)+i%32:=by omega
 have h2:(4294967296:Nat)=2^(i%32)*2^(32-i%32):=Uj (by omega)
 conv=>rhs;rw[e,Nat.pow_add, <-Nat.div_div_eq_div_mul]
 generalize nv l/2^(32*(i/32))=x;rw[h2,Nat.mod_mul_right_div_self];have h3:2^(32-i%32)=2*2^(31-i%32):=by rw[<-Nat.pow_succ'];congr 1;omega
 rw[h3,Nat.mod_mul_right_mod]
theorem jL {a b i:Nat} (hb:b≠0):a/2^i=2*(a/2^(i+1))+a/2^i%2/\
 a/2^i/b=2*(a/2^(i+1)/b)+(if b<=2*(a/2^(i+1)%b)+a/2^i%2 then 1 else 0)/\
 a/2^i%b=2*(a/2^(i+1)%b)+a/2^i%2-(if b<=2*(a/2^(i+1)%b)+a/2^i%2 then b else 0):=by
 have e1:a/2^(i+1)=a/2^i/2:=by rw[Nat.pow_succ,Nat.div_div_eq_div_mul]
 have e0:a/2^i=2*(a/2^(i+1))+a/2^i%2:=by rw[e1];omega
 refine⟨e0, ?_⟩;have hbit:a/2^i%2<2:=Nat.mod_lt _ (by decide);generalize a/2^i%2=d at*;generalize a/2^(i+1)=h at*;rw[e0];have hd:=Nat.div_add_mod h b;have hm:=Nat.mod_lt h (Nat.pos_of_ne_zero hb);generalize h%b=r at*;generalize h/b=q at*;have e2:2*h+d=b*(2*q)+(2*r+d):=by rw[<-hd];grind
 rw[e2,Nat.mul_add_div (Nat.pos_of_ne_zero hb),Nat.mul_add_mod];by_cases hc:b<=2*r+d
 . rw[if_pos hc,if_pos hc];have e3:2*r+d=b+(2*r+d-b):=by omega
   have h1:(2*r+d)/b=1:=Nat.div_eq_of_lt_le (by omega) (by omega);refine⟨by rw[h1], ?_⟩;have:=Nat.div_add_mod (2*r+d) b;rw[h1]at this;omega
 . rw[if_neg hc,if_neg hc,Nat.div_eq_of_lt (by omega),Nat.mod_eq_of_lt (by omega)];exact⟨rfl,by omega⟩
theorem A0j {q:List Int} (hq:A7 q) {M i:Nat} (he:nv q=M*2^(i+1)) (hi:i/32<q.length):∃b:Nat,dg q (i/32)=b*2^(i%32+1)/\nv (q.set (i/32) ((dg q (i/32)+2^(i%32):Nat):Int))=(2*M+1)*2^i:=by
 have e:i=32*(i/32)+i%32:=by omega
 have hb:dg q (i/32)=(M*2^(i%32+1))%4294967296:=by
  rw[jW hq,he,Gx];congr 1;have e5:i+1=32*(i/32)+(i%32+1):=by omega
  rw[e5,Nat.pow_add,Nat.mul_left_comm,Nat.mul_div_cancel_left _ (Nat.pow_pos (by decide))]
 refine⟨M%2^(31-i%32), ?_, ?_⟩
 . rw[hb];have h2:(4294967296:Nat)=2^(31-i%32)*2^(i%32+1):=by
    rw[<-Nat.pow_add,show 31-i%32+(i%32+1)=32 from by omega]
   conv=>lhs;rw[h2]
   rw[Nat.mul_mod_mul_right]
 . have h1:=Fv (l:=q) (k:=i/32) (v:=((dg q (i/32)+2^(i%32):Nat):Int)) hi;rw[Int.toNat_natCast,he,Gx,Nat.mul_add]at h1;have h2:2^(32*(i/32))*2^(i%32)=2^i:=by rw[<-Nat.pow_add, <-e]
   rw[h2]at h1;have h3:(2*M+1)*2^i=M*2^(i+1)+2^i:=by rw[Nat.pow_succ];grind
   rw[h3];omega
theorem CK {l:List Int} (h:A7 l) (i:Nat):dg l i=nv l/4294967296^i%4294967296:=by
 have hP:0<4294967296^i:=Nat.pow_pos (by decide);have hd:=K3 h i;have ht:=O8 h i;rcases Nat.lt_or_ge i l.length with h1|h1
 . have e1:=UE l (i+1) h1;rw[H3,Nat.pow_succ]at e1;have e2:nv l=nv (l.take i)+(dg l i+nv (l.drop (i+1))*4294967296)*4294967296^i:=by rw[e1];grind
   rw[e2,Nat.add_mul_div_right _ _ hP,Nat.div_eq_of_lt ht,Nat.zero_add,Nat.add_mul_mod_self_right,Nat.mod_eq_of_lt (by omega)]
 . rw[Jz h1];have hl:=Cu h;have hle:4294967296^l.length<=4294967296^i:=Nat.pow_le_pow_right (by decide) h1;rw[Nat.div_eq_of_lt (by omega)]
theorem iJ {l:List Int} (h:A7 l) (i:Nat) {s:Nat} (hs:s<=31):nv l/2^s/4294967296^i%4294967296=(dg l i+dg l (i+1)*4294967296)/2^s%4294967296:=by
 have h2:0<2^s:=Nat.pow_pos (by decide);have e0:nv l/2^s/4294967296^i=nv l/4294967296^i/2^s:=by rw[Nat.div_div_eq_div_mul,Nat.div_div_eq_div_mul,Nat.mul_comm]
 have e1:dg l i+dg l (i+1)*4294967296=nv l/4294967296^i%(4294967296*4294967296):=by
  rw[Nat.mod_mul, <-CK h i,Nat.div_div_eq_div_mul, <-Nat.pow_succ, <-CK h (i+1),Nat.mul_comm]
 rw[e0,e1];generalize nv l/4294967296^i=W;have e2:W=W%(4294967296*4294967296)+2^s*(4294967296*(2^(32-s)*(W/(4294967296*4294967296)))):=by
  have a:=Nat.mod_add_div W (4294967296*4294967296);have b:=Uj (s:=s) (by omega)
  conv=>lhs;rw[<-a]
  congr 1
  calc 4294967296*4294967296*(W/(4294967296*4294967296))=4294967296*(4294967296*(W/(4294967296*4294967296))):=Nat.mul_assoc ..
   _=(2^s*2^(32-s))*(4294967296*(W/(4294967296*4294967296))):=by rw[<-b]
   _= _:=by rw[Nat.mul_assoc,Nat.mul_left_comm (2^(32-s))]
 conv=>lhs;rw[e2,Nat.add_mul_div_left _ _ h2,Nat.add_mul_mod_self_left]
theorem RU {l:List Int} (h:A7 l) {k s:Nat} :nv l/2^(32*k+s)=nv (l.drop k)/2^s:=by
 rw[Nat.pow_add, <-Gx, <-Nat.div_div_eq_div_mul];congr 1;have hP:0<4294967296^k:=Nat.pow_pos (by decide);rcases Nat.lt_or_ge l.length k with h1|h1
 . rw[List.drop_of_length_le (by omega)];have hl:=Cu h;have hle:4294967296^l.length<=4294967296^k:=Nat.pow_le_pow_right (by decide) (by omega);rw[Nat.div_eq_of_lt (by omega)];rfl
 . have e:=UE l k h1;have ht:=O8 h k;rw[e,Nat.add_mul_div_left _ _ hP,Nat.div_eq_of_lt ht,Nat.zero_add]
theorem aM {n k:Nat} (h:n<2^k):I3 n<=k:=by
 rcases Nat.eq_zero_or_pos n with h0|h0
 . rw[h0,Tk];omega
 . have h1:=(Tj (n:=n) (by omega)).1;rcases Nat.lt_or_ge k (I3 n)with h2|h2
   . have:2^k<=2^(I3 n-1):=Nat.pow_le_pow_right (by decide) (by omega);omega
   . exact h2
theorem fP {n:Nat} (h:n≠0):I3 n=I3 (n/2)+1:=by
 rcases Nat.lt_or_ge n 2 with h1|h1
 . have:n=1:=by omega
   subst this;decide+kernel
 . have:=Zf (n:=n) (k:=1) h1;rwa[Nat.pow_one]at this
theorem dH {l:List Int} (h:A7 l):I3 (nv l)<=32*l.length:=by
 refine aM ?_;rw[<-Gx];exact Cu h
theorem jM {n:Nat} (h:n≠0):I3 n=I3 (dg (nc n) ((nc n).length-1))+32*((nc n).length-1):=by
 have hlen:(nc n).length≠0:=fun h0=>h (Qz.1 (List.eq_nil_of_length_eq_zero h0))
 have h1:4294967296^((nc n).length-1)<=n:=mI (by omega);have h2:=Gt n;have hP:0<4294967296^((nc n).length-1):=Nat.pow_pos (by decide);rw[CK (H9 n),E8,Gx,Nat.mod_eq_of_lt]
 . exact Zf (by rw[<-Gx];exact h1)
 . rw[<-Gx,Nat.div_lt_iff_lt_mul hP,Nat.mul_comm, <-Nat.pow_succ,show((nc n).length-1).succ=(nc n).length from by omega];exact h2
theorem fM {z:Int} (h0:0<=z) (h1:z<4294967296):(BitVec.ofInt 32 z&&&BitVec.ofInt 32 1).toNat=z.toNat%2:=by
 rw[BitVec.toNat_and,BitVec.toNat_ofInt,BitVec.toNat_ofInt,show((1:Int)%((2^32:Nat):Int)).toNat=1 from by decide,Nat.and_one_is_mod];rw[show z%((2^32:Nat):Int)=z from by omega]
theorem mS {d b s:Nat} (hd:d=b*2^(s+1)) (h1:d<4294967296) (hs:s<=31):(BitVec.ofInt 32 (d:Int) |||BitVec.ofInt 32 ((2^s:Nat):Int)).toNat=d+2^s/\d+2^s<4294967296:=by
 have hs2:2^s<=2^31:=Nat.pow_le_pow_right (by decide) hs;have e:(BitVec.ofInt 32 (d:Int) |||BitVec.ofInt 32 ((2^s:Nat):Int)).toNat=d+2^s:=by
  rw[BitVec.toNat_or,BitVec.toNat_ofInt,BitVec.toNat_ofInt];rw[show((d:Int)%((2^32:Nat):Int)).toNat=d from by omega];generalize hz:2^s=z at*;rw[show((z:Int)%((2^32:Nat):Int)).toNat=z from by omega,hd, <-Nat.shiftLeft_eq];exact(Nat.shiftLeft_add_eq_or_of_lt (by rw[<-hz];exact Nat.pow_lt_pow_right (by decide) (by omega)) b).symm
 exact⟨e,by have:=(BitVec.ofInt 32 (d:Int) |||BitVec.ofInt 32 ((2^s:Nat):Int)).isLt;omega⟩
theorem TD (l:List Int) (j i:Nat):dg (l.drop j) i=dg l (j+i):=by
 unfold dg;simp[List.getD,List.getElem?_drop]
theorem Tq {l:List Int} {k i:Nat} (h:i<k):dg (l.take k) i=dg l i:=by
 unfold dg;simp[List.getD,List.getElem?_take,h]
theorem Fa {l:List Int} (h:A7 l) (k:Nat):nv (l.take k)=nv l%4294967296^k:=by
 rcases Nat.lt_or_ge k l.length with h1|h1
 . have e:=UE l k (by omega);rw[e,Nat.add_mul_mod_self_left,Nat.mod_eq_of_lt (O8 h k)]
 . rw[List.take_of_length_le h1,Nat.mod_eq_of_lt];exact Nat.lt_of_lt_of_le (Cu h) (Nat.pow_le_pow_right (by decide) h1)
theorem YI {l:List Int} (h:A7 l) (j:Nat):nv (l.drop j)=nv l/4294967296^j:=by
 have:=RU h (k:=j) (s:=0);rw[Nat.add_zero,Nat.pow_zero,Nat.div_one, <-Gx]at this;exact this.symm
theorem A4j {u v:List Int} (hu:A7 u) (hv:A7 v) {j n:Nat} (hvl:n+2<=v.length) (hV:nv v<4294967296^(n+2)) (hv1:dg v (n+1)≠0) (hul:j+n+3<=u.length) (hlt:nv u<nv v*4294967296^(j+1)):NC (nv u/4294967296^j) (nv v) (dg v (n+1)) (dg v n) (dg u (j+n+2)*4294967296+dg u (j+n+1)) (dg u (j+n)) (4294967296^n):=by
 have hP:0<4294967296^j:=Nat.pow_pos (by decide);have hW:nv u/4294967296^j<nv v*4294967296:=by
  rw[Nat.div_lt_iff_lt_mul hP,Nat.mul_assoc,Nat.mul_comm 4294967296, <-Nat.pow_succ];exact hlt
 have hW2:nv u/4294967296^j<4294967296^(n+3):=by
  rw[Nat.pow_succ _ (n+2)];exact Nat.lt_of_lt_of_le hW (Nat.mul_le_mul_right _ (Nat.le_of_lt hV))
 have hv':A7 (v.take (n+2)):=fun x hx=>hv x (List.mem_of_mem_take hx)
 have hd':A7 (u.drop j):=fun x hx=>hu x (List.mem_of_mem_drop hx)
 have hw':A7 ((u.drop j).take (n+3)):=fun x hx=>hd' x (List.mem_of_mem_take hx)
 have ev:nv (v.take (n+2))=nv v:=by rw[Fa hv,Nat.mod_eq_of_lt hV]
 have ew:nv ((u.drop j).take (n+3))=nv u/4294967296^j:=by rw[Fa hd',YI hu,Nat.mod_eq_of_lt hW2]
 have h:=A2e (w:=(u.drop j).take (n+3)) (v:=v.take (n+2)) hw' hv' (n:=n) (by rw[List.length_take];omega) (by rw[List.length_take,List.length_drop];omega) (by rw[Tq (by omega)];exact hv1) (by rw[ev,ew];exact hW);rw[ev,ew,Tq (by omega),Tq (by omega),Tq (by omega),Tq (by omega),Tq (by omega),TD,TD,TD]at h;exact h
theorem iO {o o' U Pk P c c' D x s t v:Nat} (h:o+P*(D*x)=U+Pk*c) (hs:o'+Pk*t=o+Pk*s) (he:t+4294967296*c'=s+(D*v+c)) {Pi:Nat} (hPk:Pk=P*Pi):o'+P*(D*(x+Pi*v))=U+Pk*4294967296*c':=by
 subst hPk;have h1:=congrArg ((P*Pi)* ·) he;simp only[Nat.mul_add]at h1⊢;have e1:P*(D*(Pi*v))=P*Pi*(D*v):=by grind
 have e2:P*Pi*(4294967296*c')=P*Pi*4294967296*c':=by grind
 omega
theorem fH {o o' U Pk P c c' x s t v:Nat} (h:o+Pk*c=U+P*x) (hs:o'+Pk*t=o+Pk*s) (he:s+4294967296*c'=c+(t+v)) {Pi:Nat} (hPk:Pk=P*Pi):o'+Pk*4294967296*c'=U+P*(x+Pi*v):=by
 subst hPk;have h1:=congrArg ((P*Pi)* ·) he;simp only[Nat.mul_add]at h1⊢;have e1:P*(Pi*v)=P*Pi*v:=by grind
 have e2:P*Pi*(4294967296*c')=P*Pi*4294967296*c':=by grind
 omega
theorem jP {D v c t:Nat} (hD:D<4294967296) (hv:v<4294967296) (hc:c<=D):D*v+c<=18446744069414584320/\(D*v+c)/4294967296+(if t<(D*v+c)%4294967296 then 1 else 0)<=D:=by
 have h1:D*v<=D*4294967295:=Nat.mul_le_mul_left _ (by omega);generalize D*v=p at*;split<;>omega
end Go.Proofs.YtdlnpbmmdnmkaaaGreat
namespace Go.Proofs.YtdlnpbmmdnmkaaaGreat
theorem jK {B U P V e M w1 y z g t r o:Nat} (hP:0<P) (hV:0<V) (hW1:w1+P*((e+1)*V)=U+M*B) (hlt:w1<M*B) (hd:e+1<=U/P/V+1) (hy:y+M*g=w1+P*V) (hz:z+M*t=y+M*r) (ho:t+g=r+B*o) (ho1:o<=1) (hzlt:z<M*B):U/P/V=e/\z+P*(e*V)=U:=by
 have h1:U/P/V<e+1:=by
  rw[Nat.div_lt_iff_lt_mul hV,Nat.div_lt_iff_lt_mul hP,Nat.mul_comm];omega
 have he:U/P/V=e:=by omega
 have hU:P*(e*V)<=U:=by
  rw[<-he,Nat.mul_comm];exact Nat.le_trans (Nat.mul_le_mul_right _ (Nat.div_mul_le_self _ _)) (Nat.div_mul_le_self _ _)
 have hfe:P*((e+1)*V)=P*(e*V)+P*V:=by rw[Nat.add_mul,Nat.one_mul,Nat.mul_add]
 rw[hfe]at hW1;have ho2:M*t+M*g=M*r+M*B*o:=by rw[<-Nat.mul_add,ho,Nat.mul_add,Nat.mul_assoc]
 have ho3:o=1:=by
  rcases Nat.lt_or_ge o 1 with h|h
  . have h0:o=0:=by omega
    subst h0;simp only[Nat.mul_zero,Nat.add_zero]at ho2;omega
  . omega
 subst ho3;rw[Nat.mul_one]at ho2;exact⟨he,by omega⟩
theorem A5g (m:Nat):4294967296^(m+2)*4294967296=4294967296^(m+3):=(Nat.pow_succ (n:=4294967296) (m:=m+2)).symm
end Go.Proofs.YtdlnpbmmdnmkaaaGreat
namespace Go.Vc
open Go Go.RowKit Go.Gw
theorem fD {α:Type} [DecidableEq α]:∀ {a b:List α},a.Nodup->(∀x∈a,x∈b)->a.length<=b.length
 | [],_,_,_=>Nat.zero_le _
 |x::a,b,hn,h=>by
  obtain⟨h1,h2⟩:=List.nodup_cons.1 hn;have hx:=h x (List.mem_cons_self);have:=fD (a:=a) (b:=b.erase x) h2 fun y hy=>(List.mem_erase_of_ne (fun e=>h1 (by rw[<-e];exact hy))).2 (h y (List.mem_cons_of_mem _ hy))
  rw[List.length_erase_of_mem hx]at this;have:=List.length_pos_of_mem hx;rw[List.length_cons];omega
section
variable {za:Zn} {w0:World} {cx:Cx} {sp:I7} {an:An} {n:Nat}
end
def hd1 (st:St) (d:Nat) (v:DV):St:=⟨(d,0,v)::st.sl,st.lc,st.nx,st.ct,st.nm,st.fr⟩
theorem A4i (st:St) (d s:Nat) (v:DV):(hd1 st d v).S s=if s=d then v else st.S s:=by
 show(find (0, .dead) s ((d,0,v)::st.sl)).2= _;simp only[find];by_cases h:s=d
 . subst h;simp
 . rw[D8 (Ne.symm h),if_neg h];rfl
section
variable {za:Zn} {w0:World} {st:St} {E:F5} {w:World} {Z:Nat->Prop} {B:Nat->Value}
theorem B9.hd1 (h:B9 za w0 st E w Z B) {d:Nat} {v:DV} (hs:st.S d=v):B9 za w0 (hd1 st d v) E w Z B:=by
 have e:∀s,(Vc.hd1 st d v).S s=st.S s:=fun s=>by
  rw[A4i];split
  . rename_i h;subst h;exact hs.symm
  . rfl
 exact⟨h.ext,h.zlt,fun s=>by rw[e];exact h.slots s,h.locs,h.disj,fun s=>by rw[e];exact h.refs s,h.refl,h.fresh,h.bone,h.zin,h.nms,h.bfix,h.mrk,h.frs,h.frf⟩
end
section
variable {za:Zn} {w0:World} {cx:Cx} {sp:I7} {an:An} {n:Nat}
theorem gQ {f:FuncId} {fn:Func} {c:Code} {s:A9} (hf:cx.P.funcs[f]? =some fn) (hb:fn.body=some c) (hn:s.args.length<=fn.ntmps) (hok:N8 fn.ntmps c=true) (hty:F9 cx.P cx.tys=true)
 (hgo:∀x,awf s.args x->s.pre x->∀(za:Zn) (w0:World) (E:F5) (w:World) (Z:Nat->Prop) (B:Nat->Value),za.b0=0->B9 za w0 (JL cx.P s.args x) E w Z B->Gw.Wp cx.P fn.ntmps c (post za w0 ⟨fin cx s fn.results.toList x,fun _ _=>False,fin cx s fn.results.toList x⟩) E w):B8 cx.P f s:=by
 intro w Z vs x hz hre hdis hpre;have hlen:vs.length=s.args.length:=hre.len;generalize hza:zn0 w Z s.args vs=za;have hinit:=dV hz hre hdis;rw[hza]at hinit;refine Qk hf hb (by rw[hlen];exact hn) hok (fun E w'=>Nx za w (fin cx s fn.results.toList x) E w') ?_ ⟨fun hok' a hr=> ?_⟩
 . rintro E w' tmps ht ⟨st,Z',B',h,hfin⟩;unfold fin at hfin;split at hfin
   . rename_i ss hss;split at hfin
     . rename_i ss1 hss1;split at hfin
       . rename_i r o hr ho;obtain⟨hnd,hpost⟩:=B7 hfin;simp only[Bool.and_eq_true]at hnd;obtain⟨Z0,h0⟩:=B9.settleR (rs:=s.res) (ss:=ss) h;obtain⟨Z1,h1⟩:=B9.settleM (as:=s.args) (j:=0) h0;obtain⟨us,g1,g2⟩:=Rr hty h1 ht hss1;have hres:(results fn tmps).run cx.P w'= .ok (Oi us) w':=by
          have hm:(fn.results.mapM (NT tmps)).run cx.P w'= .ok us.toArray w':=by
           rw[Array.mapM_eq_mapM_toList];simp[g1]
          have e:results fn tmps=(do let vs<-fn.results.mapM (NT tmps);pure (if h:vs.size=1 then vs[0]else .tuple vs)):=by
           unfold results;congr 1
          rw[e];simp only[Sem.run_bind,hm,Result.andThen_ok,Sem.run_pure]
          match us with
          | []=>rfl
          | [u]=>rfl
          |u::u'::r=>rfl
         have hpost':s.post x r/\(L2 s.args=true->s.mpost x r o):=by
          unfold A2k at hpost;cases hm:L2 s.args with
          |true=>simp only[hm,cond_true]at hpost;exact⟨hpost.1,fun _=>hpost.2⟩
          |false=>simp only[hm,cond_false]at hpost;exact⟨hpost,fun hh=>by cases hh⟩
         refine⟨_,hres, ?_,r,o,us,(fun b=>s.shared=true/\Z1 b),hpost'.1,hpost'.2,rfl,fun b hb=> ?_, ?_, ?_⟩
         . have:=h.ext;rw[<-hza]at this;exact this
         . rcases h1.zin b hb.2 with hh|hh
           . rw[<-hza]at hh;exact .inr ⟨hb.1,hh⟩
           . exact .inl ⟨hh,h1.zlt b hb.2⟩
         . refine(Hl h1 (Zn:=fun b=>s.shared=true/\Z1 b) (fun b hb=>hb.2) ?_ g2 hr (Ci hnd.1.1) hnd.1.2).1;cases hsh:s.shared with
           |true=>exact .inl fun b hb=>⟨rfl,hb⟩
           |false=>rw[hsh]at hnd;simp only[Bool.false_or,Bool.and_eq_true]at hnd;exact .inr hnd.2.1
         . refine Mw (Zn:=fun b=>s.shared=true/\Z1 b) h1 (j:=0) ?_ (fun m u hm=> ?_) (fun m p hm b hu=> ?_) hlen ho
           . cases hsh:s.shared with
             |true=>exact .inl fun b hb=>⟨rfl,hb⟩
             |false=>rw[hsh]at hnd;simp only[Bool.false_or,Bool.and_eq_true]at hnd;exact .inr hnd.2.2
           . have hlt:=Vp hm;rw[N9 hlen]at hlt;have:=h1.bfix m (by rw[<-hza];exact hlt);rw[Nat.zero_add,this, <-hza];show KC s.args vs m=u;simp only[KC,hm,Option.getD_some]
           . rw[<-hza,Nat.zero_add]at hu;rcases hu with⟨hu,_⟩ | ⟨_,p',hp',hb⟩
             . have hlt:=Vp (show(D6 s.args vs)[m]? =some p.2 by rw[He,List.getElem?_map,hm];rfl);rw[N9 hlen]at hlt;have hu:Fu s.args<=m:=hu;omega
             . rw[hm]at hp';cases hp';exact hb
       . exact hfin.elim
     . exact hfin.elim
   . exact hfin.elim
 . refine wp_mono (hgo x hre.awf hpre za w _ _ _ _ (by rw[<-hza];rfl) hinit hok' a hr) ?_;rintro e a' w' ⟨E',hr',st',Z',B',h',hq⟩;refine⟨E',hr', ?_⟩;cases e with
   |normal=>exact⟨st',Z',B',h',hq⟩
   |ret=>exact⟨st',Z',B',h',hq⟩
   | _=>exact hq.elim
end
end Go.Vc
namespace Go.Proofs.YtdlnpbmmdnmkaaaGreat
abbrev Ln:=Int×Int
def lat (s:List Int) (i:Int):Int:=s.getD i.toNat 0
def inB (n:Int) (l:Ln):Prop:=0<=l.1/\l.1<n/\0<=l.2/\l.2<n
instance (n:Int) (l:Ln):Decidable (inB n l):=by unfold inB;infer_instance
def UF (s:List Int):Prop:=∀i:Nat,i<s.length->0<=lat s i/\lat s i<=i
def A1k (s:List Int):Nat->Int->Int
 |0,b=>b
 |k+1,b=>if lat s b=b then b else A1k s k (lat s b)
def root (s:List Int) (b:Int):Int:=A1k s b.toNat b
theorem UF.le {s:List Int} (h:UF s) {b:Int} (h0:0<=b) (h1:b<(s.length:Int)):0<=lat s b/\lat s b<=b:=by
 have:=h b.toNat (by omega);rw[show((b.toNat:Nat):Int)=b from by omega]at this;exact this
end Go.Proofs.YtdlnpbmmdnmkaaaGreat
namespace Go.Proofs.YtdlnpbmmdnmkaaaGreat
open Go.Vc Go.Gw
variable {α:Type}
def lK (q:α->α->Prop) (d:α) (l:List α) (a i j:Nat):Prop:=∀s t,a<=s->s<t->t<=i->t≠j->q (l.getD s d) (l.getD t d)
def AL (d:α) (l:List α) (j:Nat):List α:=(l.set j (l.getD (j-1) d)).set (j-1) (l.getD j d)
theorem LQ {d:α} {l:List α} {j:Nat} (h0:0<j) (h1:j<l.length) (k:Nat):(AL d l j).getD k d=if k=j then l.getD (j-1) d else if k=j-1 then l.getD j d else l.getD k d:=by
 unfold AL;simp only[List.getD_eq_getElem?_getD,List.getElem?_set,List.length_set];by_cases h:k=j
 . subst h;rw[if_neg (by omega),if_pos rfl,if_pos rfl,if_pos h1];rfl
 . rw[if_neg h];by_cases h2:k=j-1
   . subst h2;rw[if_pos rfl,if_pos (by omega),if_pos rfl];rfl
   . rw[if_neg (by omega),if_neg (by omega),if_neg h2]
theorem cS {d:α} {l:List α} {j:Nat} (h1:j<l.length):(AL d l j).Perm l:=by
 have h2:j-1<l.length:=by omega
 have:=List.set_set_perm (as:=l) h1 h2;unfold AL;simp only[List.getD_eq_getElem?_getD,List.getElem?_eq_getElem h1,List.getElem?_eq_getElem h2];exact this
theorem cT {d:α} {l:List α} {j a:Nat} (h:a<=j-1):(AL d l j).take a=l.take a:=by
 unfold AL;rw[List.take_set_of_le h,List.take_set_of_le (by omega)]
theorem cR {d:α} {l:List α} {j b:Nat} (h:j<b):(AL d l j).drop b=l.drop b:=by
 unfold AL;rw[List.drop_set_of_lt (by omega),List.drop_set_of_lt (by omega)]
theorem bE {q:α->α->Prop} {d:α} {l:List α} {a i:Nat} (h:∀s t,a<=s->s<t->t<i->q (l.getD s d) (l.getD t d)):lK q d l a i i:=fun s t h1 h2 h3 h4=>h s t h1 h2 (by omega)
theorem gG {q:α->α->Prop} {d:α} {l:List α} {a i j:Nat} (h:lK q d l a i j) (ha:a<j) (hj:j<l.length) (hi:j<=i) (hq:q (l.getD j d) (l.getD (j-1) d)):lK q d (AL d l j) a i (j-1):=by
 intro s t h1 h2 h3 h4;rw[LQ (by omega) hj,LQ (by omega) hj,if_neg h4];by_cases ht:t=j
 . rw[if_pos ht,if_neg (by omega)];by_cases hs:s=j-1
   . rw[if_pos hs];exact hq
   . rw[if_neg hs];exact h s (j-1) h1 (by omega) (by omega) (by omega)
 . rw[if_neg ht];by_cases hs:s=j
   . rw[if_pos hs];exact h (j-1) t (by omega) (by omega) h3 ht
   . rw[if_neg hs];by_cases hs2:s=j-1
     . rw[if_pos hs2];exact h j t (by omega) (by omega) h3 ht
     . rw[if_neg hs2];exact h s t h1 h2 h3 ht
theorem lL {q:α->α->Prop} {d:α} {l:List α} {a i j:Nat} (h:lK q d l a i j) (htr:∀x y z,q x y->q y z->q x z) (hi:j<=i) (hq:a<j->q (l.getD (j-1) d) (l.getD j d)):∀s t,a<=s->s<t->t<i+1->q (l.getD s d) (l.getD t d):=by
 intro s t h1 h2 h3;by_cases ht:t=j
 . subst ht;by_cases hs:s=t-1
   . rw[hs];exact hq (by omega)
   . exact htr _ _ _ (h s (t-1) h1 (by omega) (by omega) (by omega)) (hq (by omega))
 . exact h s t h1 h2 (by omega) ht
theorem KY {q:α->α->Prop} {d:α} {l:List α} {a b:Nat} (hb:b<=l.length) (h:∀s t,a<=s->s<t->t<b->q (l.getD s d) (l.getD t d)):((l.drop a).take (b-a)).Pairwise q:=by
 rw[List.pairwise_iff_getElem];intro i j hi hj hij;rw[List.length_take,List.length_drop]at hi hj;have e:∀k (hk:k<((l.drop a).take (b-a)).length),((l.drop a).take (b-a))[k]=l.getD (a+k) d:=fun k hk=>by
  rw[List.length_take,List.length_drop]at hk;rw[List.getElem_take,List.getElem_drop,List.getD_eq_getElem?_getD,List.getElem?_eq_getElem (by omega)];rfl
 rw[e i (by rw[List.length_take,List.length_drop];omega),e j (by rw[List.length_take,List.length_drop];omega)];exact h _ _ (by omega) (by omega) (by omega)
end Go.Proofs.YtdlnpbmmdnmkaaaGreat
