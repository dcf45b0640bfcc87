/- Part. -/
import Derived.WalkKit
import Derived.ProofKit
import Derived.OpenShut
import Derived.Carry
import Derived.ChangeSlices
import Derived.ChangeSame
import Derived.Test.YtknoakmaeleclaaGreatKWD
set_option linter.all false
namespace Go.Proofs.YtknoakmaeleclaaGreat
open Go.Vc Go.Gw
def qs (k:Nat) (q:Rat):Prop:=(nc q.num.natAbs).length<=k/\(nc q.den).length<=k
def sz (k:Nat) (x:B7):Prop:=x.1.2.length<=k/\x.2.length<=k
def Dm (x:B7):Prop:=A7 x.1.2/\A7 x.2
def Gf {k:Nat} {q:Rat} (h:qs k q):sz k (rc q):=h
def nE (q:Rat):Dm (rc q):=⟨K5 _,K5 _⟩
def Bo {k:Nat} {x:B7} (a:Dm x) (h:sz k x) (b:1<=k):qs k (rv x):=Nl a.1 a.2 h.1 h.2 b
def G8 {j k:Nat} {q:Rat} (h:qs j q) (a:j<=k):qs k q:=⟨qY h.1 a,qY h.2 a⟩
def F3 {j k:Nat} {x:B7} (h:sz j x) (a:j<=k):sz k x:=⟨qY h.1 a,qY h.2 a⟩
def NA {V:Int} {D k:Nat} (f:D≠0) (c:(nc V.natAbs).length<=k) (d:(nc D).length<=k):qs k (mkRat V D):=by
 obtain⟨a,b⟩:=Pq (x:=V) f;unfold qs;rw[a,b];refine⟨qY (J7 ?_) c,qY (J7 (xB _ _)) d⟩;exact xP _ _
def J8 {k:Nat} (a:1<=k):qs k 0:=by
 refine⟨?_,?_⟩
 . show(nc 0).length<=k;rw[Q3];exact rP _
 . show(nc 1).length<=k;rw[Vp];exact a
def Nk {k:Nat} (a:1<=k):qs k 1:=by
 refine⟨?_,?_⟩<;>(show(nc 1).length<=k;rw[Vp];exact a)
def A7z {k:Nat} {q:Rat} (h:qs k q):1<=k:=by
 have a:=h.2;have a:nc q.den≠ []:=λe=>q.den_nz (AF.1 e)
 have:=wO.2 a;omega
def bT {k:Nat} {q:Rat} (h:qs k q):qs k (-q):=by
 unfold qs at h|-;rw[g1y,g3z,xK];exact h
def Lg {j k:Nat} {p q:Rat} (a:qs j p) (b:qs k q):qs (j+k) (p*q):=by
 rw[Rat.mul_def'];refine NA (zV p.den_nz q.den_nz) ?_ ?_
 . rw[vE];exact qY (Qy _ _) (g3r a.1 b.1)
 . exact qY (Qy _ _) (g3r a.2 b.2)
def Rf {j k:Nat} {p q:Rat} (a:qs j p) (b:qs k q):qs (j+k+1) (p+q):=by
 rw[Rat.add_def'];refine NA (zV p.den_nz q.den_nz) ?_ ?_
 . have e:(p.num*(q.den:Int)+q.num*(p.den:Int)).natAbs<=p.num.natAbs*q.den+q.num.natAbs*p.den:=by
    refine qY (g0g _ _) ?_;rw[vE,vE,uA,uA];exact qV _
   have c:=Qy p.num.natAbs q.den;have c:=Qy q.num.natAbs p.den;have c:=QR (p.num.natAbs*q.den) (q.num.natAbs*p.den);have c:=J7 e;have:=a.1;have:=a.2;have:=b.1;have:=b.2;omega
 . have:=Qy p.den q.den;have:=a.2;have:=b.2;omega
def We {j k:Nat} {p q:Rat} (a:qs j p) (b:qs k q):qs (j+k+1) (p-q):=by
 rw[tC];exact Rf a (bT b)
def C0v {k:Nat} {q:Rat} (h:qs k q):qs k q⁻¹:=by
 have c:=A7z h;by_cases a:q=0
 . subst a;rw[Rat.inv_zero];exact J8 c
 have b:q.num≠0:=λe=>a (zX.1 e)
 refine⟨?_,?_⟩
 . rw[Rat.num_inv,vE,uA,g1o b,xH];exact h.2
 . rw[Rat.den_inv,qG b];exact h.1
def AW {j k:Nat} {p q:Rat} (a:qs j p) (b:qs k q):qs (j+k) (p/q):=by
 rw[tZ];exact Lg a (C0v b)
def oF {a:Int} (h:a.natAbs<4294967296):qs 1 (a:Rat):=by
 refine⟨?_,?_⟩
 . rw[g3e];exact Ds (by simpa using h)
 . rw[g3a,Vp];exact qV _
abbrev K0:Nat:=1073741824
abbrev K1:Nat:=549755813888
def G2 {k:Nat} {x:B7} (h:sz k x) (a:k<=2199023255552):F4 x:=⟨qY h.1 a,qY h.2 a⟩
def I1 {k:Nat} {q:Rat} (h:qs k q) (a:k<=2199023255552):F4 (rc q):=⟨qY h.1 a,qY h.2 a⟩
def B1k {q:Rat} :q.num.sign=0↔q=0:=⟨λh=>zX.1 (xQ.1 h),λh=>by rw[h];rfl⟩
abbrev D9:=Int×B7
def B6:List D9->Int->Rat
 | [],_=>0
 |e::v,i=>(if e.1=i then rv e.2 else 0)+B6 v i
def asc (v:List D9):Prop:=v.Pairwise λa b=>a.1<b.1
instance (v:List D9):Decidable (asc v):=by unfold asc;infer_instance
def Br (v:List D9):Prop:=asc v/\∀e∈v,rv e.2≠0/\e.2=rc (rv e.2)
def G6 (v:List D9) (n:Int):Prop:=asc v/\∀e∈v,0<=e.1/\e.1<n/\rv e.2≠0
instance (v:List D9) (n:Int):Decidable (G6 v n):=by unfold G6;infer_instance
def TY (k:Nat) (v:List D9):Prop:=∀e∈v,sz k e.2
def He (k:Nat) (l:List B7):Prop:=∀x∈l,sz k x
def PC (k:Nat) (v:List D9):Prop:=asc v/\TY k v/\v.length<=100000
def LX (v:List D9):Prop:=∀e∈v,Dm e.2
def AJ (d:D9×D9×Unit->Prop) (φ:D9×D9×Unit->Int):Prop:=(∀a b,d (a,b,()))/\(∀a b c,¬φ (a,b,())<0->¬φ (b,c,())<0->¬φ (a,c,())<0)/\(∀a b,φ (a,b,())<0->¬φ (b,a,())<0)
def Ys (φ:D9×D9×Unit->Int) (l:List D9):Prop:=l.Pairwise λa b=>¬φ (b,a,())<0
def gO (v:List D9):Prop:=asc v\/(v.length<=20/\TY 65536 v)
def Mz (v:List D9):Prop:=PC K1 v\/(v.length<=20/\TY 65536 v)
def Se (i:Int):B6 [] i=0:=rfl
def E7 {v:List D9} {i:Int} (h:∀e∈v,e.1≠i):B6 v i=0:=by
 induction v with
 |nil=>rfl
 |cons e v b=>
  rw[B6,qG (h e (rH ..)),b λx a=>h x (qO _ a),sR]
def X5 (a b:List D9) (i:Int):B6 (a++b) i=B6 a i+B6 b i:=by
 induction a with
 |nil=>rw[vJ,Se,sR]
 |cons e a c=>rw[wE,B6,B6,c,zS]
def K3 {e:D9} {v:List D9} :asc (e::v)↔(∀x∈v,e.1<x.1)/\asc v:=g0c
def Hm {e:D9} {v:List D9} (h:asc (e::v)):asc v:=(K3.1 h).2
def P7 {e:D9} {v:List D9} (h:asc (e::v)):B6 (e::v) e.1=rv e.2:=by
 rw[B6,qN rfl,E7 λx a b=>by have:=(K3.1 h).1 x a;omega,rL]
def DX {e:D9} {v:List D9} (h:asc (e::v)) {i:Int} (b:i<e.1):B6 (e::v) i=0:=
 E7 λx a=>by
  rcases qS.1 a with rfl|a
  . omega
  . have:=(K3.1 h).1 x a;omega
def Er {e:D9} {v:List D9} {i:Int} (a:e.1≠i):B6 (e::v) i=B6 v i:=by
 rw[B6,qG a,sR]
def T4 {v:List D9} (h:asc v) {e:D9} (a:e∈v):B6 v e.1=rv e.2:=by
 induction v with
 |nil=>cases a
 |cons x v b=>
  rcases qS.1 a with rfl|a
  . exact P7 h
  . have:=(K3.1 h).1 e a;rw[Er ω,b (Hm h) a]
def DY {v:List D9} {i:Int} (h:B6 v i≠0):∃e∈v,e.1=i:=
 qR λc=>h (E7 λe a b=>c ⟨e,a,b⟩)
def LK:Br []:=⟨List.Pairwise.nil,λ_ h=>by cases h⟩
def gT {e:D9} {v:List D9} (h:Br (e::v)):Br v:=⟨Hm h.1,λx a=>h.2 x (qO _ a)⟩
def A0s:∀ {a b:List D9},Br a->Br b->(∀i,B6 a i=B6 b i)->a=b
 | [],[],_,_,_=>rfl
 | [],e::b,_,c,h=>absurd ((P7 c.1).symm.trans (h e.1).symm) (c.2 e (rH ..)).1
 |e::a,[],c,_,h=>absurd ((P7 c.1).symm.trans (h e.1)) (c.2 e (rH ..)).1
 |e::a,f::b,c,d,h=>by
  have g:=c.2 e (rH ..);have j:=d.2 f (rH ..);have k:e.1=f.1:=by
   rcases g0f e.1 f.1 with hl|hl|hl
   . have:=h e.1;rw[P7 c.1,DX d.1 hl]at this;exact absurd this g.1
   . exact hl
   . have:=h f.1;rw[P7 d.1,DX c.1 hl]at this;exact absurd this.symm j.1
  have o:rv e.2=rv f.2:=by
   have:=h e.1;rw[P7 c.1,k,P7 d.1]at this;exact this
  have r:e=f:=by
   obtain⟨i,x⟩:=e;obtain⟨l,y⟩:=f;simp only at k o g j;rw[k,g.2,j.2,o]
  subst r;rw[A0s (gT c) (gT d) λi=>by
   by_cases l:e.1=i
   . subst l;rw[E7 λx n s=>by have:=(K3.1 c.1).1 x n;omega,E7 λx n s=>by have:=(K3.1 d.1).1 x n;omega]
   . have:=h i;rwa[Er l,Er l]at this]
def A0n {v:List D9} {e:D9} (h:asc v) (d:∀x∈v,x.1<e.1):asc (v++ [e]):=by
 unfold asc;rw[tW];refine⟨h,vF ..,λb c f a=>?_⟩;rw[qK]at a;subst a;exact d b c
def Sd {v:List D9} {i:Int} {q:Rat} (h:Br v) (c:q≠0) (b:∀x∈v,x.1<i):Br (v++ [(i,rc q)]):=by
 refine⟨A0n h.1 b,λx a=>?_⟩;rcases rB.1 a with a|a
 . exact h.2 x a
 . rw[qK]at a;subst a;simp only[C9];exact⟨c,trivial⟩
def Mf (v:List D9) (i:Int) (q:Rat) (j:Int):B6 (v++ [(i,rc q)]) j=B6 v j+(if i=j then q else 0):=by
 rw[X5];simp only[B6,C9,rL]
def WT {v:List D9} (h:Br v) {k:Nat} (b:∀i,qs k (B6 v i)):TY k v:=λe a=>by
 rw[(h.2 e a).2, <-T4 h.1 a];exact b _
def WU {v:List D9} (h:asc v) (f:LX v) {k:Nat} (g:TY k v) (c:1<=k) (i:Int):qs k (B6 v i):=by
 by_cases b:∃e∈v,e.1=i
 . obtain⟨e,a,rfl⟩:=b;rw[T4 h a];exact Bo (f e a) (g e a) c
 . rw[E7 λe a d=>b ⟨e,a,d⟩];exact J8 c
def A8w {v:List D9} {n:Int} (h:G6 v n) {i:Int} (b:B6 v i≠0):0<=i/\i<n:=by
 obtain⟨e,a,rfl⟩:=DY b;exact⟨(h.2 e a).1,(h.2 e a).2.1⟩
def Pj {v:List D9} {n:Int} (h:G6 v n):(v.length:Int)<=max n 0:=by
 have d:∀(v:List D9) (k n:Int),asc v->(∀e∈v,k<=e.1/\e.1<n)->(v.length:Int)<=max (n-k) 0:=by
  intro v
  induction v with
  |nil=>intro k n _ _;simp only[vT];omega
  |cons e v c=>
   intro k n a b;have f:=b e (rH ..);have:=c (e.1+1) n (Hm a) λx hx=>⟨by have:=(K3.1 a).1 x hx;omega,(b x (qO _ hx)).2⟩
   simp only[rI];omega
 have:=d v 0 n h.1 λe he=>⟨(h.2 e he).1,(h.2 e he).2.1⟩
 omega
abbrev U8:=Int×Int×List (List D9)
def el (m:U8) (i j:Nat):Rat:=B6 (m.2.2.getD i []) (j:Int)
def D4 (m:U8):Prop:=0<=m.1/\m.1<=16384/\0<=m.2.1/\m.2.1<=16384/\(m.2.2.length:Int)=m.1/\∀v∈m.2.2,G6 v m.2.1
instance (m:U8):Decidable (D4 m):=by unfold D4;infer_instance
def zm:U8:=(0,0,[])
def Vk (R C:Nat) (f:Nat->Nat->Rat) (m:U8):Prop:=
 m.1=(R:Int)/\m.2.1=(C:Int)/\m.2.2.length=R/\∀i,i<R->Br (m.2.2.getD i [])/\(∀e∈m.2.2.getD i [],0<=e.1/\e.1<(C:Int))/\∀j,j<C->B6 (m.2.2.getD i []) (j:Int)=f i j
def mX (n:Nat) (f:Nat->Rat) (v:List D9):Prop:=Br v/\(∀e∈v,0<=e.1/\e.1<(n:Int))/\∀j,j<n->B6 v (j:Int)=f j
def ZX {n:Nat} {f:Nat->Rat} {v:List D9} (h:mX n f v) (i:Int):B6 v i=if 0<=i/\i<(n:Int)then f i.toNat else 0:=by
 by_cases a:0<=i/\i<(n:Int)
 . rw[qN a, <-h.2.2 i.toNat ω];congr 1;omega
 . rw[qG a,E7 λe b c=>a (by rw[<-c];exact h.2.1 e b)]
def C4j {n:Nat} {f g:Nat->Rat} {a b:List D9} (c:mX n f a) (d:mX n g b) (h:∀j,j<n->f j=g j):a=b:=
 A0s c.1 d.1 λi=>by
  rw[ZX c,ZX d];split
  . exact h _ ω
  . rfl
def B3l {n:Nat} {f g:Nat->Rat} {v:List D9} (h:mX n f v) (e:∀j,j<n->f j=g j):mX n g v:=⟨h.1,h.2.1,λj a=>by rw[h.2.2 j a,e j a]⟩
def H8 {α:Type} (l:List α) (d:α) {i:Nat} (h:i<l.length):l.getD i d=l[i]:=by rw[qD,qL h];rfl
def Mg {R C:Nat} {f g:Nat->Nat->Rat} {m:U8} (h:Vk R C f m) (e:∀i j,i<R->j<C->f i j=g i j):Vk R C g m:=
 ⟨h.1,h.2.1,h.2.2.1,λi a=>B3l (h.2.2.2 i a) λj b=>e i j a b⟩
def A6y {R C:Nat} {f:Nat->Nat->Rat} {m:U8} (h:Vk R C f m) {i j:Nat} (a:i<R) (b:j<C):el m i j=f i j:=(h.2.2.2 i a).2.2 j b
def C1 {α:Type} {l:List α} {i:Nat} {d:α} (h:i<l.length):l.getD i d∈l:=by rw[H8 _ _ h];exact wT h
def V4 {α:Type} {l:List α} {x:α} (d:α) (h:x∈l):∃i,i<l.length/\l.getD i d=x:=by
 obtain⟨i,a,e⟩:=vG.1 h;exact⟨i,a,by rw[H8 _ _ a];exact e⟩
def B3m {n:Nat} {f:Nat->Rat} {v:List D9} (h:mX n f v):G6 v (n:Int):=⟨h.1.1,λe a=>⟨(h.2.1 e a).1,(h.2.1 e a).2,(h.1.2 e a).1⟩⟩
def Sg {R C:Nat} {f:Nat->Nat->Rat} {m:U8} (h:Vk R C f m) (k:R<=16384) (j:C<=16384):D4 m:=by
 obtain⟨d,a,g,b⟩:=h;refine⟨ω,ω,ω,ω,ω,λv c=>?_⟩;obtain⟨i,l,rfl⟩:=V4 [] c;rw[a];exact B3m (b i ω)
def Jv (k:Nat) (m:U8):Prop:=∀v∈m.2.2,TY k v
def A7d (m:U8):Prop:=∀v∈m.2.2,LX v
def QI {R C k:Nat} {f:Nat->Nat->Rat} {m:U8} (h:Vk R C f m) (c:1<=k) (b:∀i j,i<R->j<C->qs k (f i j)):Jv k m:=λv d=>by
 obtain⟨i,a,rfl⟩:=V4 [] d;rw[h.2.2.1]at a;refine WT (h.2.2.2 i a).1 λj=>?_
 rw[ZX (h.2.2.2 i a)];split
 . exact b i _ a ω
 . exact J8 c
def D1c {m:U8} {k:Nat} (f:D4 m) (c:A7d m) (d:Jv k m) (b:1<=k) (i j:Nat):qs k (el m i j):=by
 unfold el;by_cases a:i<m.2.2.length
 . exact WU (f.2.2.2.2.2 _ (C1 a)).1 (c _ (C1 a)) (d _ (C1 a)) b _
 . rw[qD,rT ω];exact J8 b
def XB (f:Int->Rat) (v:List D9):Prop:=Br v/\∀i,B6 v i=f i
def dl (n:Int) (f:Int->Rat):List B7:=(List.range n.toNat).map λj:Nat=>rc (f (j:Int))
def iF (m:U8):List (List B7):=(List.range m.1.toNat).map λi:Nat=>dl m.2.1 (B6 (m.2.2.getD i []))
def Vh (x:B7):Prop:=∃q,qs 1 q/\x=rc q
def B8:Nat->(Nat->Rat)->Rat
 |0,_=>0
 |n+1,f=>B8 n f+f n
def A4 {n:Nat} {f g:Nat->Rat} (h:∀i,i<n->f i=g i):B8 n f=B8 n g:=by
 induction n with
 |zero=>rfl
 |succ n a=>rw[B8,B8,a λi b=>h i ω,h n ω]
def N4 {n:Nat} {f:Nat->Rat} (h:∀i,i<n->f i=0):B8 n f=0:=by
 induction n with
 |zero=>rfl
 |succ n a=>rw[B8,a λi b=>h i ω,h n ω,rL]
def Q8 (n:Nat) (f g:Nat->Rat):B8 n (λi=>f i+g i)=B8 n f+B8 n g:=by
 induction n with
 |zero=>rw[B8,B8,B8,rL]
 |succ n a=>rw[B8,B8,B8,a];grind
def Y4 (n:Nat) (c:Rat) (f:Nat->Rat):B8 n (λi=>c*f i)=c*B8 n f:=by
 induction n with
 |zero=>rw[B8,B8,sH]
 |succ n a=>rw[B8,B8,a,Rat.mul_add]
def SG (n:Nat) (c:Rat) (f:Nat->Rat):B8 n (λi=>f i*c)=B8 n f*c:=by
 induction n with
 |zero=>rw[B8,B8,rZ]
 |succ n a=>rw[B8,B8,a,g3w]
def Ta (m n:Nat) (f:Nat->Nat->Rat):B8 m (λi=>B8 n (f i))=B8 n λj=>B8 m λi=>f i j:=by
 induction m with
 |zero=>rw[B8];exact(N4 λ_ _=>rfl).symm
 |succ m a=>
  rw[B8,a, <-Q8];exact A4 λj _=>rfl
def D5 {n k:Nat} {f:Nat->Rat} (d:k<n) (h:∀i,i<n->i≠k->f i=0):B8 n f=f k:=by
 induction n with
 |zero=>omega
 |succ n c=>
  rw[B8];by_cases a:k=n
  . subst a;rw[N4 λi b=>h i ω ω,sR]
  . rw[c ω λi b=>h i ω,h n ω ω,rL]
def oO {n k:Nat} {f:Nat->Rat} (a:∀i,i<n->qs k (f i)):qs (n*(k+1)+1) (B8 n f):=by
 induction n with
 |zero=>rw[B8];exact J8 ω
 |succ n b=>
  rw[B8];refine G8 (Rf (b λi c=>a i ω) (a n ω)) ?_;rw[uV,xH];omega
def Ly:List D9->(Int->Rat)->Rat
 | [],_=>0
 |e::v,h=>rv e.2*h e.1+Ly v h
def A1k (a b:List D9) (h:Int->Rat):Ly (a++b) h=Ly a h+Ly b h:=by
 induction a with
 |nil=>rw[vJ,Ly,sR]
 |cons e a c=>rw[wE,Ly,Ly,c,zS]
def QC {d:D9} {v:List D9} {i:Int} (a:0<=i) (b:i<(v.length:Int)) (h:Int->Rat):Ly (v.take (i+1).toNat) h=Ly (v.take i.toNat) h+rv (gx d v i).2*h (gx d v i).1:=by
 rw[(ω:(i+1).toNat=i.toNat+1),rU,L9 (d:=d) a b,A1k];simp only[g4s,Ly,rL]
def mJ {v:List D9} {n:Nat} (a:∀e∈v,0<=e.1/\e.1<(n:Int)) (h:Int->Rat):Ly v h=B8 n λj=>B6 v (j:Int)*h (j:Int):=by
 induction v with
 |nil=>rw[Ly];exact(N4 λj _=>rZ _).symm
 |cons e v c=>
  obtain⟨b,d⟩:=a e (rH ..);rw[Ly,c λx b=>a x (qO _ b)];have a:(B8 n λj=>B6 (e::v) (j:Int)*h (j:Int))=(B8 n λj=>(if e.1=(j:Int)then rv e.2 else 0)*h (j:Int))+B8 n λj=>B6 v (j:Int)*h (j:Int):=by
   rw[<-Q8];exact A4 λj _=>by rw[B6,g3w]
  have b:(B8 n λj=>(if e.1=(j:Int)then rv e.2 else 0)*h (j:Int))=rv e.2*h e.1:=by
   rw[D5 (k:=e.1.toNat) ω λi _ c=>by rw[qG ω,rZ],qN ω,(ω:((e.1.toNat:Nat):Int)=e.1)]
  rw[a,b]
def C3y {v:List D9} {h:Int->Rat} {j k:Nat} (c:LX v) (d:TY j v) (f:1<=j) (b:∀e∈v,qs k (h e.1)):qs (v.length*(j+k+1)+1) (Ly v h):=by
 induction v with
 |nil=>rw[Ly];exact J8 ω
 |cons e v g=>
  rw[Ly];refine G8 (Rf (Lg (Bo (c e (rH ..)) (d e (rH ..)) f) (b e (rH ..))) (g (λx a=>c x (qO _ a)) (λx a=>d x (qO _ a)) λx a=>b x (qO _ a))) ?_;rw[rI,uV,xH];omega
def A3v:rv zr=0:=zC _
def put (i:Int) (x:B7) (l:List D9):List D9:=if rv x=0 then l else(i,x)::l
def J1 (φ:B7×B7×Unit->B7):List D9->List D9->List D9
 | [],[]=> []
 |e::a,[]=>put e.1 (φ (e.2,zr,())) (J1 φ a [])
 | [],f::b=>put f.1 (φ (zr,f.2,())) (J1 φ [] b)
 |e::a,f::b=>if e.1<f.1 then put e.1 (φ (e.2,zr,())) (J1 φ a (f::b))else if e.1=f.1 then put e.1 (φ (e.2,f.2,())) (J1 φ a b)else put f.1 (φ (zr,f.2,())) (J1 φ (e::a) b)
termination_by a b=>a.length+b.length
def Zu (i:Int) (q:Rat) (l:List D9) (j:Int):B6 (put i (rc q) l) j=(if i=j then q else 0)+B6 l j:=by
 unfold put;rw[C9];split
 . rename_i h;subst h;simp only[ite_self,sR]
 . rw[B6,C9]
def MZ {i:Int} {x:B7} {l:List D9} {e:D9} (h:e∈put i x l):e.1=i\/e∈l:=by
 unfold put at h;split at h
 . exact .inr h
 . rcases qS.1 h with rfl|h
   . exact .inl rfl
   . exact .inr h
def Zs {i:Int} {q:Rat} {l:List D9} (h:Br l) (c:∀e∈l,i<e.1):Br (put i (rc q) l):=by
 unfold put;rw[C9];split
 . exact h
 . rename_i b;refine⟨K3.2 ⟨c,h.1⟩,λe a=>?_⟩;rcases qS.1 a with rfl|a
   . simp only[C9];exact⟨b,trivial⟩
   . exact h.2 e a
def TL (φ:B7×B7×Unit->B7) (g:Rat->Rat->Rat) (h:g 0 0=0) (a b:List D9):
 (∀x y,(x=zr\/∃e∈a,e.2=x)->(y=zr\/∃e∈b,e.2=y)->φ (x,y,())=rc (g (rv x) (rv y)))->asc a->asc b->
 Br (J1 φ a b)/\(∀e∈J1 φ a b,(∃x∈a,x.1=e.1)\/∃y∈b,y.1=e.1)/\∀i,B6 (J1 φ a b) i=g (B6 a i) (B6 b i):=by
 induction a,b using J1.induct with
 |case1=>
  intro _ _ _;rw[J1];exact⟨LK,λe c=>(by cases c),λi=>h.symm⟩
 |case2 e a t=>
  intro n j s;obtain⟨o,l,r⟩:=t (λx y c hy=>n x y (c.imp id fun⟨z,d,f⟩=>⟨z,qO _ d,f⟩) hy) (Hm j) s;rw[J1,n e.2 zr (.inr ⟨e,rH ..,rfl⟩) (.inl rfl),A3v];refine⟨Zs o λx c=>?_,λx c=>?_,λi=>?_⟩
  . rcases l x c with⟨z,d,f⟩ | ⟨z,d,_⟩
    . rw[<-f];exact(K3.1 j).1 z d
    . cases d
  . rcases MZ c with c|c
    . exact .inl ⟨e,rH ..,c.symm⟩
    . exact(l x c).imp (fun⟨z,d,f⟩=>⟨z,qO _ d,f⟩) id
  . rw[Zu,r,Se];by_cases k:e.1=i
    . subst k;rw[qN rfl,P7 j,E7 λx c u=>by have:=(K3.1 j).1 x c;omega,h,rL]
    . rw[qG k,Er k,sR]
 |case3 j b u=>
  intro o t k;obtain⟨r,n,s⟩:=u (λx y c hy=>o x y c (hy.imp id fun⟨z,d,f⟩=>⟨z,qO _ d,f⟩)) t (Hm k);rw[J1,o zr j.2 (.inl rfl) (.inr ⟨j,rH ..,rfl⟩),A3v];refine⟨Zs r λx c=>?_,λx c=>?_,λi=>?_⟩
  . rcases n x c with⟨z,d,_⟩ | ⟨z,d,f⟩
    . cases d
    . rw[<-f];exact(K3.1 k).1 z d
  . rcases MZ c with c|c
    . exact .inr ⟨j,rH ..,c.symm⟩
    . exact(n x c).imp id fun⟨z,d,f⟩=>⟨z,qO _ d,f⟩
  . rw[Zu,s,Se];by_cases l:j.1=i
    . subst l;rw[qN rfl,P7 k,E7 λx c w=>by have:=(K3.1 k).1 x c;omega,h,rL]
    . rw[qG l,Er l,sR]
 |case4 e a w b n u=>
  intro r j k;obtain⟨s,o,t⟩:=u (λx y c hy=>r x y (c.imp id fun⟨z,d,f⟩=>⟨z,qO _ d,f⟩) hy) (Hm j) k;rw[J1,qN n,r e.2 zr (.inr ⟨e,rH ..,rfl⟩) (.inl rfl),A3v];refine⟨Zs s λx c=>?_,λx c=>?_,λi=>?_⟩
  . rcases o x c with⟨z,d,f⟩ | ⟨z,d,f⟩
    . rw[<-f];exact(K3.1 j).1 z d
    . rw[<-f];rcases qS.1 d with rfl|d
      . exact n
      . have:=(K3.1 k).1 z d;omega
  . rcases MZ c with c|c
    . exact .inl ⟨e,rH ..,c.symm⟩
    . exact(o x c).imp (fun⟨z,d,f⟩=>⟨z,qO _ d,f⟩) id
  . rw[Zu,t];by_cases l:e.1=i
    . subst l;rw[qN rfl,P7 j,E7 (v:=a) λx c A=>by have:=(K3.1 j).1 x c;omega,DX k n,h,rL]
    . rw[qG l,Er l,sR]
 |case5 e a l b A n D=>
  intro t j k;obtain⟨u,r,w⟩:=D (λx y c hy=>t x y (c.imp id fun⟨z,d,f⟩=>⟨z,qO _ d,f⟩) (hy.imp id fun⟨z,d,f⟩=>⟨z,qO _ d,f⟩)) (Hm j) (Hm k);rw[J1,qG A,qN n,t e.2 l.2 (.inr ⟨e,rH ..,rfl⟩) (.inr ⟨l,rH ..,rfl⟩)];refine⟨Zs u λx c=>?_,λx c=>?_,λi=>?_⟩
  . rcases r x c with⟨z,d,f⟩ | ⟨z,d,f⟩
    . rw[<-f];exact(K3.1 j).1 z d
    . rw[<-f,n];exact(K3.1 k).1 z d
  . rcases MZ c with c|c
    . exact .inl ⟨e,rH ..,c.symm⟩
    . exact(r x c).imp (fun⟨z,d,f⟩=>⟨z,qO _ d,f⟩) fun⟨z,d,f⟩=>⟨z,qO _ d,f⟩
  . rw[Zu,w];by_cases o:e.1=i
    . subst o;have s:=P7 k;rw[<-n]at s;rw[qN rfl,P7 j,s,E7 (v:=a) λx c B=>by have:=(K3.1 j).1 x c;omega,E7 (v:=b) λx c B=>by have:=(K3.1 k).1 x c;omega,h,rL]
    . rw[qG o,Er o,Er (e:=l) ω,sR]
 |case6 e a j b w u A=>
  intro r l k;obtain⟨s,o,t⟩:=A (λx y c hy=>r x y c (hy.imp id fun⟨z,d,f⟩=>⟨z,qO _ d,f⟩)) l (Hm k);rw[J1,qG w,qG u,r zr j.2 (.inl rfl) (.inr ⟨j,rH ..,rfl⟩),A3v];refine⟨Zs s λx c=>?_,λx c=>?_,λi=>?_⟩
  . rcases o x c with⟨z,d,f⟩ | ⟨z,d,f⟩
    . rw[<-f];rcases qS.1 d with rfl|d
      . omega
      . have:=(K3.1 l).1 z d;omega
    . rw[<-f];exact(K3.1 k).1 z d
  . rcases MZ c with c|c
    . exact .inr ⟨j,rH ..,c.symm⟩
    . exact(o x c).imp id fun⟨z,d,f⟩=>⟨z,qO _ d,f⟩
  . rw[Zu,t];by_cases n:j.1=i
    . subst n;rw[qN rfl,P7 k,E7 (v:=b) λx c B=>by have:=(K3.1 k).1 x c;omega,DX l ω,h,rL]
    . rw[qG n,Er (e:=j) n,sR]
def D1v (v:List D9):List D9:=J1 (λx=>rc (rv x.1)) v []
def B4c {v:List D9} (h:asc v):Br (D1v v)/\∀i,B6 (D1v v) i=B6 v i:=by
 obtain⟨a,_,b⟩:=TL (λx=>rc (rv x.1)) (λp _=>p) rfl v [] (λ_ _ _ _=>rfl) h List.Pairwise.nil;exact⟨a,b⟩
def fill {α:Type} (n i:Nat) (F:Nat->α) (out:List α):Prop:=out.length=n/\∀j,j<i->out[j]? =some (F j)
def A9z {α:Type} {n:Nat} {F:Nat->α} {out:List α} (h:out.length=n):fill n 0 F out:=⟨h,λ_ a=>ω⟩
def ZP {α:Type} {n:Nat} {i:Int} {F:Nat->α} {out:List α} {x:α} (h:fill n i.toNat F out) (a:0<=i) (c:i<(n:Int)) (b:x=F i.toNat):fill n (i+1).toNat F (out.set i.toNat x):=by
 refine⟨by rw[qM];exact h.1,λj a=>?_⟩;rw[wJ];by_cases a:i.toNat=j
 . rw[qN a,qN (by rw[h.1];omega), <-a,b]
 . rw[qG a];exact h.2 j ω
def LP {α:Type} {n i:Nat} {F:Nat->α} {out:List α} (h:fill n i F out) (a:n<=i):out=(List.range n).map F:=by
 refine wX λj=>?_
 by_cases a:j<n
 . rw[h.2 j ω,tL,uW a];rfl
 . rw[rT (by rw[h.1];omega),rT (by simp;omega)]
def B9k {α:Type} {i:Int} (F:Nat->α) (a:0<=i):(List.range (i+1).toNat).map F=(List.range i.toNat).map F++ [F i.toNat]:=by
 rw[(ω:(i+1).toNat=i.toNat+1),xT,uO];rfl
def B0a (n i:Nat) (P:Nat->List D9->Prop) (out:List (List D9)):Prop:=out.length=n/\∀j,j<i->P j (out.getD j [])
def C8m {n:Nat} {P:Nat->List D9->Prop} {out:List (List D9)} (h:out.length=n):B0a n 0 P out:=⟨h,λ_ a=>ω⟩
def B2z {n:Nat} {i:Int} {P:Nat->List D9->Prop} {out:List (List D9)} {x:List D9} (h:B0a n i.toNat P out) (a:0<=i) (c:i<(n:Int)) (b:P i.toNat x):B0a n (i+1).toNat P (out.set i.toNat x):=by
 refine⟨by rw[qM];exact h.1,λj a=>?_⟩;rw[qD,wJ];by_cases a:i.toNat=j
 . rw[qN a,qN (by rw[h.1];omega), <-a];exact b
 . rw[qG a, <-qD];exact h.2 j ω
def mH (n:Int) (f:Int->Rat):(dl n f).length=n.toNat:=by simp[dl]
def C8i {n:Int} {f:Int->Rat} {j:Nat} (h:(j:Int)<n):(dl n f)[j]? =some (rc (f (j:Int))):=by
 unfold dl;rw[tL,uW ω];rfl
def A9t {n:Int} {f:Int->Rat} {j:Nat} (d:B7) (h:(j:Int)<n):(dl n f).getD j d=rc (f (j:Int)):=by
 rw[qD,C8i h];rfl
def A9w (m:U8):(iF m).length=m.1.toNat:=by simp[iF]
def B7s {m:U8} {i:Nat} (h:(i:Int)<m.1):(iF m).getD i []=dl m.2.1 (B6 (m.2.2.getD i [])):=by
 unfold iF;rw[qD,tL,uW ω];rfl
def oM {k:Nat} {m:U8} (a:D4 m) (b:Jv k m) {v:List D9} (h:v∈m.2.2):PC k v:=by
 refine⟨(a.2.2.2.2.2 v h).1,b v h,?_⟩;have:=Pj (a.2.2.2.2.2 v h);have:=a.2.2.2.1;have:=a.2.2.1;omega
def C4k {n:Nat} {f:Nat->Rat} {v:List D9} {g:Int->Rat} (h:XB g v) (c:∀i,¬(0<=i/\i<(n:Int))->g i=0) (a:∀j:Nat,j<n->g (j:Int)=f j):mX n f v:=by
 refine⟨h.1,λe b=>?_,λj d=>by rw[h.2,a j d]⟩;refine qR λd=>?_
 have a:=T4 h.1.1 b;rw[h.2,c _ d]at a;exact(h.1.2 e b).1 a.symm
def B5p {v:List D9} {n i:Int} (h:G6 v n) (c:¬(0<=i/\i<n)):B6 v i=0:=E7 λe a b=>c (by rw[<-b];exact⟨(h.2 e a).1,(h.2 e a).2.1⟩)
abbrev LUV:=Wf×Wf×U8×U8
def pO:LUV:=([],[],zm,zm)
def N7 (p:Wf) (n:Int):Prop:=(p.length:Int)=n/\(∀i∈p,0<=i/\i<n)/\p.Nodup
instance (p:Wf) (n:Int):Decidable (N7 p n):=by unfold N7;infer_instance
def sqr (m:U8) (n:Int):Prop:=m.1=n/\m.2.1=n/\D4 m
instance (m:U8) (n:Int):Decidable (sqr m n):=by unfold sqr;infer_instance
def Iu (f:LUV) (n:Int):Prop:=N7 f.1 n/\N7 f.2.1 n/\sqr f.2.2.1 n/\sqr f.2.2.2 n/\∀i j:Nat,(i:Int)<n->(j:Int)<n->(i<j->el f.2.2.1 i j=0)/\el f.2.2.1 i i=1/\(j<i->el f.2.2.2 i j=0)/\el f.2.2.2 i i≠0
def luM (f:LUV) (n:Nat) (i j:Nat):Rat:=B8 n λk=>el f.2.2.1 i k*el f.2.2.2 k j
def nonsing (n:Nat) (A:Nat->Nat->Rat):Prop:=∀x:Nat->Rat,(∀i,i<n->B8 n (λj=>A i j*x j)=0)->∀j,j<n->x j=0
def ix (p:Wf) (i:Nat):Nat:=(p.getD i 0).toNat
abbrev Ln:=Int×Int
def G7 (s:Wf) (i:Int):Int:=s.getD i.toNat 0
def inB (n:Int) (l:Ln):Prop:=0<=l.1/\l.1<n/\0<=l.2/\l.2<n
instance (n:Int) (l:Ln):Decidable (inB n l):=by unfold inB;infer_instance
def A2z (n:Int) (ls:List Ln):Prop:=0<=n/\n<=16384/\∀l∈ls,inB n l
def UF (s:Wf):Prop:=∀i:Nat,i<s.length->0<=G7 s i/\G7 s i<=i
def C7e (s:Wf):Nat->Int->Int
 |0,b=>b
 |k+1,b=>if G7 s b=b then b else C7e s k (G7 s b)
def root (s:Wf) (b:Int):Int:=C7e s b.toNat b
def idL (n:Int):Wf:=(List.range n.toNat).map Int.ofNat
def Ix (L:Wf) (l:Ln):Wf:=L.map λx=>if x=max (G7 L l.1) (G7 L l.2)then min (G7 L l.1) (G7 L l.2)else x
def S4 (n:Int) (ls:List Ln):Wf:=ls.foldl Ix (idL n)
def cnt (L:Wf):Nat:=((List.range L.length).filter fun(b:Nat)=>decide (G7 L (b:Int)=(b:Int))).length
def Np (n:Nat) (f g:Nat->Rat):B8 n (λi=>f i-g i)=B8 n f-B8 n g:=by
 induction n with
 |zero=>rw[B8,B8,B8];decide+kernel
 |succ n a=>rw[B8,B8,B8,a];grind
def A3u {n:Nat} {f:Nat->Rat} (h:∀i,i<n->0<=f i):0<=B8 n f:=by
 induction n with
 |zero=>exact Rat.le_refl
 |succ n a=>
  rw[B8];exact Rat.add_nonneg (a λi b=>h i ω) (h n ω)
def B4n {n:Nat} {f:Nat->Rat} (h:∀i,i<n->0<=f i) (d:B8 n f=0):∀i,i<n->f i=0:=by
 induction n with
 |zero=>intro i a;omega
 |succ n j=>
  rw[B8]at d;have k:=A3u (n:=n) λi a=>h i ω
  have l:=h n ω;have c:f n=0:=by grind
  have b:B8 n f=0:=by grind
  intro i a;by_cases g:i=n
  . subst g;exact c
  . exact j (λi a=>h i ω) b i ω
def Yk (fr to:Nat->Nat) (b i:Nat):Rat:=(if fr i=b then 1 else 0)-(if to i=b then 1 else 0)
def WX (m:Nat) (fr to:Nat->Nat) (f:Nat->Rat) (b:Nat):Rat:=B8 m λi=>Yk fr to b i*f i
variable {n m:Nat} {fr to:Nat->Nat}
def MY {φ:Nat->Rat} {a:Nat} (h:a<n):B8 n (λb=>(if a=b then 1 else 0)*φ b)=φ a:=by
 rw[D5 h λi _ c=>by rw[qG (Ne.symm c),rZ],qN rfl,tG]
def A9l {φ:Nat->Rat} {i:Nat} (a:fr i<n) (c:to i<n):B8 n (λb=>Yk fr to b i*φ b)=φ (fr i)-φ (to i):=by
 rw[A4 (g:=λb=>(if fr i=b then 1 else 0)*φ b-(if to i=b then 1 else 0)*φ b) λb _=>by unfold Yk;grind,Np,MY a,MY c]
def D2c {φ D:Nat->Rat} (h:∀i,i<m->fr i<n/\to i<n):B8 m (λi=>D i*(φ (fr i)-φ (to i)))=B8 n (λb=>φ b*WX m fr to D b):=by
 rw[A4 (g:=λi=>B8 n λb=>D i*(Yk fr to b i*φ b)) λi a=>by rw[Y4,A9l (h i a).1 (h i a).2],Ta];refine A4 λb _=>?_
 unfold WX;rw[<-Y4];exact A4 λi _=>by grind
def B0w {φ D s:Nat->Rat} (h:∀i,i<m->fr i<n/\to i<n) (j:∀i,i<m->0<s i) (g:∀i,i<m->D i=s i*(φ (fr i)-φ (to i))) (l:∀b,b<n->φ b=0\/WX m fr to D b=0):∀i,i<m->φ (fr i)-φ (to i)=0:=by
 have k:B8 m (λi=>D i*(φ (fr i)-φ (to i)))=0:=by
  rw[D2c h];exact N4 λb d=>by rcases l b d with e|e<;>rw[e]<;>grind
 have o:∀x:Rat,0<=x*x:=λx=>by
  rcases(Rat.le_total (a:=0) (b:=x))with h|h
  . exact g3y h h
  . have d:0<= -x:=by grind
    have:=g3y d d;grind
 have:=B4n (f:=λi=>D i*(φ (fr i)-φ (to i))) (λi c=>by
  show 0<=D i*(φ (fr i)-φ (to i));rw[g i c,tO];exact g3y (Rat.le_of_lt (j i c)) (o _)) k
 intro i c;have e:=this i c;rw[g i c,tO]at e;rcases yN.1 e with e|e
 . have:=j i c;rw[e]at this;exact absurd this (g4j)
 . rcases yN.1 e with e|e<;>exact e
def flw (fr to:Nat->Nat) (s h θ:Nat->Rat) (i:Nat):Rat:=s i*(θ (fr i)-θ (to i)+h i)
def A9v (f g:Nat->Rat) (b:Nat):WX m fr to (λi=>f i-g i) b=WX m fr to f b-WX m fr to g b:=by
 unfold WX;rw[<-Np];exact A4 λi _=>by grind
def iD {f g:Nat->Rat} (h:∀i,i<m->f i=g i) (b:Nat):WX m fr to f b=WX m fr to g b:=A4 λi a=>by rw[h i a]
def B3a {s h θ θ':Nat->Rat} (a:∀i,i<m->fr i<n/\to i<n) (d:∀i,i<m->0<s i) (c:∀b,b<n->WX m fr to (flw fr to s h θ) b=WX m fr to (flw fr to s h θ') b):∀i,i<m->flw fr to s h θ i=flw fr to s h θ' i:=by
 have:=B0w (φ:=λb=>θ b-θ' b) (D:=λi=>flw fr to s h θ i-flw fr to s h θ' i) a d (λi _=>by unfold flw;grind) λb a=> .inr (by rw[A9v,c b a];grind)
 intro i a;have e:=this i a;unfold flw;have:θ (fr i)-θ (to i)=θ' (fr i)-θ' (to i):=by grind
 rw[this]
def A6z {f:Nat->Rat} {lab:Nat->Nat} (a:∀i,i<m->fr i<n/\to i<n) (c:∀i,i<m->lab (fr i)=lab (to i)) (t:Nat):B8 n (λb=>(if lab b=t then 1 else 0)*WX m fr to f b)=0:=by
 rw[<-D2c a];exact N4 λi a=>by rw[c i a];grind
variable {n m k:Nat} {fr to:Nat->Nat} {s:Nat->Rat}
def AE (m:Nat) (fr to:Nat->Nat) (s:Nat->Rat) (b c:Nat):Rat:=B8 m λi=>s i*(Yk fr to b i*Yk fr to c i)
def B0m (h:∀i,i<m->fr i<n/\to i<n) (θ:Nat->Rat) (b:Nat):B8 n (λc=>AE m fr to s b c*θ c)=WX m fr to (λi=>s i*(θ (fr i)-θ (to i))) b:=by
 rw[A4 (g:=λc=>B8 m λi=>s i*Yk fr to b i*(Yk fr to c i*θ c)) λc _=>by
  unfold AE;rw[<-SG];exact A4 λi _=>by grind,Ta]
 refine A4 λi a=>?_
 rw[Y4,A9l (h i a).1 (h i a).2];grind
def ZL (k:Nat) (o:Nat->Nat) (x:Nat->Rat) (b:Nat):Rat:=B8 k λc=>if o c=b then x c else 0
def A9y {o:Nat->Nat} (g:∀a c,a<k->c<k->o a=o c->a=c) (x:Nat->Rat) {c:Nat} (b:c<k):ZL k o x (o c)=x c:=by
 unfold ZL;rw[D5 b λa d f=>qG λe=>f (g a c d b e),qN rfl]
def ZM {o:Nat->Nat} (x:Nat->Rat) {b:Nat} (h:∀c,c<k->o c≠b):ZL k o x b=0:=N4 λc a=>qG (h c a)
def B0l {o:Nat->Nat} (h:∀a,a<k->o a<n) (x:Nat->Rat) (b:Nat):B8 n (λc=>AE m fr to s b c*ZL k o x c)=B8 k λc=>AE m fr to s b (o c)*x c:=by
 rw[A4 (g:=λc=>B8 k λa=>AE m fr to s b c*(if o a=c then x a else 0)) λc _=>by unfold ZL;rw[Y4],Ta];refine A4 λa d=>?_
 rw[D5 (h a d) λc _ f=>by rw[qG (Ne.symm f),sH],qN rfl]
def A3m {o lab:Nat->Nat} (j:∀i,i<m->fr i<n/\to i<n) (u:∀i,i<m->0<s i) (h:∀a,a<k->o a<n) (g:∀a c,a<k->c<k->o a=o c->a=c)
 (r:∀φ:Nat->Rat,(∀i,i<m->φ (fr i)=φ (to i))->∀b,b<n->φ b=φ (lab b)) (v:∀b,b<n->∀a,a<k->o a≠lab b):nonsing k λa c=>AE m fr to s (o a) (o c):=by
 intro x w c f;have t:=B0w (φ:=ZL k o x) (D:=λi=>s i*(ZL k o x (fr i)-ZL k o x (to i))) j u (λ_ _=>rfl) λb hbn=>by
  by_cases l:∃a,a<k/\o a=b
  . obtain⟨a,d,rfl⟩:=l;refine .inr ?_;rw[<-B0m j,B0l h];exact w a d
  . exact .inl (ZM x λa d e=>l ⟨a,d,e⟩)
 rw[<-A9y g x f,r (ZL k o x) (λi g=>by have:=t i g;grind) (o c) (h c f)];exact ZM x λa d=>v (o c) (h c f) a d
def C1h {lab:Nat->Nat} {F J:Nat->Rat} (c:∀b,b<n->lab b≠b->F b=J b) (f:∀t,B8 n (λb=>(if lab b=t then 1 else 0)*F b)=0) (hJ:∀t,t<n->B8 n (λb=>(if lab b=t then 1 else 0)*J b)=0):∀b,b<n->F b=J b:=by
 intro t a;by_cases d:lab t=t
 . have e:B8 n (λb=>(if lab b=t then 1 else 0)*(F b-J b))=0:=by
    rw[A4 (g:=λb=>(if lab b=t then 1 else 0)*F b-(if lab b=t then 1 else 0)*J b) λb _=>by grind,Np,f,hJ t a];grind
   rw[D5 a λb f h=>?_,qN d]at e
   . grind
   . by_cases h:lab b=t
     . rw[c b f ω];grind
     . rw[qG h,rZ]
 . exact c t a d
abbrev Io:=Int×Int×B7×B7
abbrev Iq:=Int×List Io
def dB:Io:=(0,0,((false,[]),[]),((false,[]),[]))
def W8 (E:List Io) (i:Nat):Nat:=(E.getD i dB).1.toNat
def W7 (E:List Io) (i:Nat):Nat:=(E.getD i dB).2.1.toNat
def Fh (E:List Io) (i:Nat):Rat:=rv (E.getD i dB).2.2.1
def Sb (E:List Io) (i:Nat):Rat:=rv (E.getD i dB).2.2.2
def YS (n:Int) (e:Io):Prop:=0<=e.1/\e.1<n/\0<=e.2.1/\e.2.1<n/\e.1≠e.2.1/\0<rv e.2.2.1
instance (n:Int) (e:Io):Decidable (YS n e):=by unfold YS;infer_instance
def D3 (N:Iq):Prop:=0<=N.1/\N.1<=16384/\N.2.length<=16384/\∀e∈N.2,YS N.1 e
instance (N:Iq):Decidable (D3 N):=by unfold D3;infer_instance
def Lf (E:List Io):List Ln:=E.map λe=>(e.1,e.2.1)
def J6 (N:Iq) (b:Nat):Nat:=(G7 (S4 N.1 (Lf N.2)) (b:Int)).toNat
def fF (E:List Io) (b c:Nat):Rat:=AE E.length (W8 E) (W7 E) (Fh E) b c
def Pn (E:List Io) (f:Nat->Rat) (b:Nat):Rat:=WX E.length (W8 E) (W7 E) f b
def Uq (E:List Io) (t:Nat->Rat) (i:Nat):Rat:=flw (W8 E) (W7 E) (Fh E) (Sb E) t i
abbrev K2:Nat:=4294967296
def P4 (l:List B7) (i:Nat):Rat:=rv (l.getD i zr)
def Dl (s:Wf) (x:List B7):Prop:=∀t,t<s.length->B8 s.length (λb=>(if s.getD b 0=(t:Int)then 1 else 0)*P4 x b)=0
instance (s:Wf) (x:List B7):Decidable (Dl s x):=by unfold Dl;infer_instance
def GG (k:Nat) (E:List Io):Prop:=∀e∈E,sz k e.2.2.1/\sz k e.2.2.2
def C8p (N:Iq):Prop:=D3 N/\1<=N.1/\N.1<=6/\N.2.length<=9/\∀e∈N.2,Vh e.2.2.1/\Vh e.2.2.2
def Nj (E:List Io) (G:Nat->Nat->Rat) (l b:Nat):Rat:=Fh E l*(G (W8 E l) b-G (W7 E l) b)
def Po (N:Iq) (G:Nat->Nat->Rat):Prop:=∀b,b<N.1.toNat->(∀c,c<N.1.toNat->J6 N c=c->G c b=0)/\∀c,c<N.1.toNat->Pn N.2 (λl=>Nj N.2 G l b) c=(if b=c then 1 else 0)-(if J6 N b=c then 1 else 0)
def shF (E:List Io) (G:Nat->Nat->Rat) (l k:Nat):Rat:=Fh E k*(Nj E G l (W7 E k)-Nj E G l (W8 E k)+if k=l then 1 else 0)
abbrev TFV:=Wf×U8×U8
def A8q (f:TFV):Prop:=D4 f.2.1/\D4 f.2.2/\f.2.2.1=f.2.1.1/\f.2.2.2.1=f.2.1.1/\f.2.1.2.1=(f.1.length:Int)
instance (f:TFV):Decidable (A8q f):=by unfold A8q;infer_instance
def Cb (n:Nat) (f:Nat->Rat):List B7:=(List.range n).map λi=>rc (f i)
def ker (R C:Nat) (A:Nat->Nat->Rat) (x:Nat->Rat):Prop:=∀i,i<R->B8 C (λj=>A i j*x j)=0
structure Xc (R C:Nat) (A E:Nat->Nat->Rat) (t c:Nat) (P:List Nat):Prop where
 len:P.length=t
 tle:t<=R
 cle:c<=C
 asc:P.Pairwise (· < ·)
 lt:∀p∈P,p<c
 piv:∀i,i<t->E i (P.getD i 0)≠0
 left:∀i,i<t->∀j,j<P.getD i 0->E i j=0
 below:∀r,t<=r->r<R->∀j,j<c->E r j=0
 sol:∀x,ker R C E x↔ker R C A x
section
variable {R C t c:Nat} {A E:Nat->Nat->Rat} {P:List Nat}
def Xc.start (A:Nat->Nat->Rat):Xc R C A A 0 0 []:=
 ⟨rfl,rP _,rP _,List.Pairwise.nil,λ_ h=>(by cases h),λ_ h=>absurd h (uQ _),λ_ h=>absurd h (uQ _),λ_ _ _ _ h=>absurd h (uQ _),λ_=>yA⟩
def Xc.skip (h:Xc R C A E t c P) (f:c<C) (i:∀r,t<=r->r<R->E r c=0):Xc R C A E t (c+1) P:=
 ⟨h.len,h.tle,f,h.asc,λp g=>uP (h.lt p g),h.piv,h.left,λr b d j a=>by
  rcases xZ.1 a with a|rfl
  . exact h.below r b d j a
  . exact i r b d,h.sol⟩
def SJ (E:Nat->Nat->Rat) (a b:Nat):Nat->Nat->Rat:=λi=>if i=a then E b else if i=b then E a else E i
def C1q (E:Nat->Nat->Rat) (a:Nat):SJ E a a=E:=by
 funext i;unfold SJ;by_cases h:i=a
 . rw[qN h,h]
 . rw[qG h,qG h]
def Xc.swap (h:Xc R C A E t c P) {k:Nat} (s:t<=k) (f:k<R):Xc R C A (SJ E t k) t c P:=by
 have n:∀i,i<t->SJ E t k i=E i:=λi a=>by unfold SJ;rw[qG ω,qG ω]
 refine⟨h.len,h.tle,h.cle,h.asc,h.lt,λi a=>by rw[n i a];exact h.piv i a,λi a=>by rw[n i a];exact h.left i a,λu o r j g=>?_,λx=>?_⟩
 . unfold SJ;split
   . exact h.below k s f j g
   . split
     . exact h.below t (qV _) ω j g
     . exact h.below u o r j g
 . rw[<-h.sol x];unfold ker SJ;constructor
   . intro b i a;by_cases l:i=t
     . subst l;have:=b k f;by_cases d:k=i
       . subst d;simpa using this
       . rw[qG d,qN rfl]at this;exact this
     . by_cases d:i=k
       . subst d;have:=b t ω;rw[qN rfl]at this;exact this
       . have:=b i a;rw[qG l,qG d]at this;exact this
   . intro b i a;split
     . exact b k f
     . split
       . exact b t ω
       . exact b i a
def kB (E:Nat->Nat->Rat) (t r:Nat) (f:Rat):Nat->Nat->Rat:=λi j=>if i=r then E r j-f*E t j else E i j
structure pQ (R C:Nat) (A E:Nat->Nat->Rat) (t c:Nat) (P:List Nat) (r:Nat):Prop extends Xc R C A E t c P where
 tlt:t<R
 clt:c<C
 pv:E t c≠0
 done:∀i,t<i->i<r->E i c=0
def Xc.begin (h:Xc R C A E t c P) (d:t<R) (a:c<C) (b:E t c≠0):pQ R C A E t c P (t+1):=⟨h,d,a,b,λi f g=>ω⟩
def pQ.step {r:Nat} (h:pQ R C A E t c P r) (y:t<r) (w:r<R):pQ R C A (kB E t r (E r c/E t c)) t c P (r+1):=by
 have b:∀i,i≠r->kB E t r (E r c/E t c) i=E i:=λi a=>by funext j;unfold kB;rw[qG a]
 refine⟨⟨h.len,h.tle,h.cle,h.asc,h.lt,λi a=>by rw[b i ω];exact h.piv i a,λi a=>by rw[b i ω];exact h.left i a,λi f g j k=>?_,λx=>?_⟩,h.tlt,h.clt,by rw[b t ω];exact h.pv,λi f g=>?_⟩
 . by_cases e:i=r
   . subst e;unfold kB;rw[qN rfl,h.below i f g j k,h.below t (qV _) h.tlt j k];grind
   . rw[b i e];exact h.below i f g j k
 . rw[<-h.sol x];have o:B8 C (λj=>kB E t r (E r c/E t c) r j*x j)=B8 C (λj=>E r j*x j)-(E r c/E t c)*B8 C (λj=>E t j*x j):=by
    rw[<-Y4];have:∀n,B8 n (λj=>kB E t r (E r c/E t c) r j*x j)=B8 n (λj=>E r j*x j)-B8 n (λj=>(E r c/E t c)*(E t j*x j)):=λn=>by
     induction n with
     |zero=>rw[B8,B8,B8];grind
     |succ n v=>rw[B8,B8,B8,v];unfold kB;rw[qN rfl];grind
    exact this C
   constructor
   . intro d i a;by_cases e:i=r
     . subst e;have s:=d i a;have l:=d t h.tlt;rw[b t ω]at l;rw[o,l]at s;grind
     . have:=d i a;rw[b i e]at this;exact this
   . intro d i a;by_cases e:i=r
     . subst e;rw[o,d i a,d t h.tlt];grind
     . rw[b i e];exact d i a
 . by_cases e:i=r
   . subst e;unfold kB;rw[qN rfl];have u:=h.pv;have:E i c/E t c*E t c=E i c:=by rw[tZ,tO,wD _ u,tR]
     grind
   . rw[b i e];exact h.done i f ω
def pQ.finish (h:pQ R C A E t c P R):Xc R C A E (t+1) (c+1) (P++ [c]):=by
 have g:∀i,i<t->(P++ [c]).getD i 0=P.getD i 0:=λi a=>by
  rw[qD,uJ (by rw[h.len];exact a),qD]
 have k:(P++ [c]).getD t 0=c:=by
  rw[qD,sZ (by rw[h.len];exact qV _),h.len,xF];rfl
 refine⟨by rw[rQ,h.len];rfl,h.tlt,h.clt,?_,λp d=>?_,λi a=>?_,λi a j b=>?_,λr u f j b=>?_,h.sol⟩
 . rw[tW];exact⟨h.asc,vF _ _,λl n s o=>by rw[qK.1 o];exact h.lt l n⟩
 . rcases rB.1 d with d|d
   . exact uP (h.lt p d)
   . rw[qK.1 d];exact rM _
 . rcases xZ.1 a with a|rfl
   . rw[g i a];exact h.piv i a
   . rw[k];exact h.pv
 . rcases xZ.1 a with a|rfl
   . rw[g i a]at b;exact h.left i a j b
   . rw[k]at b;exact h.below i (qV _) h.tlt j b
 . rcases xZ.1 b with b|rfl
   . exact h.below r ω f j b
   . exact h.done r ω f
end
section
variable {R C t c:Nat} {A E:Nat->Nat->Rat} {P:List Nat}
def C1a {n k:Nat} (b:k<n) (f x:Nat->Rat) (v:Rat):B8 n (λj=>f j*(if j=k then v else x j))=B8 n (λj=>f j*x j)+f k*(v-x k):=by
 have e:B8 n (λj=>f j*(if j=k then v else x j))=B8 n (λj=>f j*x j)+B8 n (λj=>if j=k then f k*(v-x k)else 0):=by
  rw[<-Q8];refine A4 λj _=>?_
  by_cases h:j=k
  . subst h;rw[qN rfl,qN rfl];grind
  . rw[qG h,qG h];grind
 rw[e,D5 b λi _ a=>qG a,qN rfl]
def Xc.pmono (h:Xc R C A E t c P) {i r:Nat} (d:i<r) (a:r<t):P.getD i 0<P.getD r 0:=by
 have a:i<P.length:=by rw[h.len];omega
 have b:r<P.length:=by rw[h.len];omega
 have:=uK.1 h.asc i r a b d;rw[qD,qL a,qD,qL b];exact this
def Xc.pmem (h:Xc R C A E t c P) {i:Nat} (a:i<t):P.getD i 0∈P:=by
 have a:i<P.length:=by rw[h.len];omega
 rw[qD,qL a];exact wT a
def Xc.fill (h:Xc R C A E t c P) (s:c=C\/t=R) {b:Nat} (y:Nat->Rat) (D:∀j,b<j->y j=0):∃x,ker R C A x/\(∀j,j∉P->x j=y j)/\∀j,b<j->x j=0:=by
 have H:∀k,k<=t->∃x:Nat->Rat,(∀i,t-k<=i->i<t->B8 C (λj=>E i j*x j)=0)/\(∀j,j∉P->x j=y j)/\(∀j,b<j->x j=0):=by
  intro k
  induction k with
  |zero=>intro _;exact⟨y,λi g l=>ω,λ_ _=>rfl,D⟩
  |succ k G=>
   intro J;obtain⟨x,g,l,d⟩:=G ω;have f:t-(k+1)<t:=ω
   have r:=h.piv _ f;have n:=h.pmem f;have o:=h.left _ f;have w:=h.lt _ n;generalize z:P.getD (t-(k+1)) 0=q at r n o w;have B:q<C:=by have:=h.cle;omega
   refine⟨λj=>if j=q then x q-B8 C (λj=>E (t-(k+1)) j*x j)/E (t-(k+1)) q else x j,λi g1 g2=>?_,λj a=>?_,λj a=>?_⟩
   . rw[C1a B];by_cases e:i=t-(k+1)
     . subst e;have:E (t-(k+1)) q*(B8 C (λj=>E (t-(k+1)) j*x j)/E (t-(k+1)) q)=B8 C (λj=>E (t-(k+1)) j*x j):=by
        rw[tZ,yK,tO,wD _ r,tR]
       grind
     . have F:E i q=0:=h.left i g2 q (by rw[<-z];exact h.pmono ω g2);rw[F,g i ω g2];grind
   . show(if j=q then _ else x j)=y j;rw[qG (λe=>a (by rw[e];exact n))];exact l j a
   . show(if j=q then _ else x j)=0;by_cases e:j=q
     . subst e;rw[qN rfl,d j a,N4 λi I=>?_]
       . rw[tZ];grind
       . by_cases u:i<j
         . rw[o i u,rZ]
         . rw[d i ω,sH]
     . rw[qG e];exact d j a
 obtain⟨x,g,l,d⟩:=H t (qV _);refine⟨x,(h.sol x).1 λi f=>?_,l,d⟩;by_cases v:i<t
 . exact g i ω v
 . rcases s with e|e
   . exact N4 λj a=>by rw[h.below i ω f j ω,rZ]
   . omega
def C3m (R C:Nat) (A:Nat->Nat->Rat) (b:Nat):Prop:=∃x,ker R C A x/\x b≠0/\∀j,b<j->x j=0
def Xc.dep (h:Xc R C A E t c P) (i:c=C\/t=R) {b:Nat} :b∉P->C3m R C A b:=λg=>by
 obtain⟨x,a,d,f⟩:=h.fill i (b:=b) (λj=>if j=b then 1 else 0) λj hj=>qG ω
 exact⟨x,a,by rw[d b g,qN rfl];decide,f⟩
def Xc.indep (h:Xc R C A E t c P) {b:Nat} (a:b∈P):¬C3m R C A b:=fun⟨x,h1,h2,h3⟩=>by
 obtain⟨i,f,rfl⟩:=zJ a;have g:i<t:=by rw[<-h.len];exact f
 have d:P.getD i 0=P[i]:=by rw[qD,qL f];rfl
 have l:=(h.sol x).2 h1 i (by have:=h.tle;omega);have n:=h.lt _ a;rw[D5 (k:=P[i]) (by have:=h.cle;omega) λj o r=>?_]at l
 . rcases yN.1 l with e|e
   . exact h.piv i g (by rw[d];exact e)
   . exact h2 e
 . by_cases n:j<P[i]
   . rw[h.left i g j (by rw[d];exact n),rZ]
   . rw[h3 j ω,sH]
def Xc.pivots (h:Xc R C A E t c P) (d:c=C\/t=R) (b:Nat):b∈P↔¬C3m R C A b:=⟨λa=>h.indep a,λf=>qR λa=>f (h.dep d a)⟩
end
abbrev Mt:=Nat->Nat->Rat
def sg (i:Nat):Rat:=if i%2=0 then 1 else -1
def C5t (i:Nat):sg (i+1)= -sg i:=by
 unfold sg;by_cases h:i%2=0
 . rw[qG ω,qN h]
 . rw[qN ω,qG h,Rat.neg_neg]
def pN (i:Nat) (M:Mt):Mt:=λr c=>M (if r<i then r else r+1) (c+1)
def det:Nat->Mt->Rat
 |0,_=>1
 |n+1,M=>B8 (n+1) λi=>sg i*M i 0*det n (pN i M)
def P3 (M:Mt) (k:Nat) (v:Nat->Rat):Mt:=λi j=>if i=k then v j else M i j
def Zg:Mt:=λi j=>if i=j then 1 else 0
def Ju (i:Nat):Zg i i=1:=qN rfl
def Hn {i j:Nat} (h:i≠j):Zg i j=0:=qG h
def Mp {M:Mt} {k:Nat} {v:Nat->Rat} (h:∀j,v j=M k j):P3 M k v=M:=by
 funext i j;unfold P3;by_cases a:i=k
 . rw[qN a,h,a]
 . rw[qG a]
def F9 (M:Mt) (k:Nat) (v:Nat->Rat) (j:Nat):P3 M k v k j=v j:=qN rfl
def D7 {M:Mt} {k i:Nat} {v:Nat->Rat} (h:i≠k) (j:Nat):P3 M k v i j=M i j:=qG h
def Mo {M:Mt} {k l:Nat} {u v:Nat->Rat} (h:k≠l):P3 (P3 M k u) l v=P3 (P3 M l v) k u:=by
 funext i j;unfold P3;by_cases a:i=l
 . rw[qN a,qG ω,qN a]
 . rw[qG a];by_cases b:i=k
   . rw[qN b,qN b]
   . rw[qG b,qG b,qG a]
def M9:∀ {n:Nat} {A B:Mt},(∀i j,i<n->j<n->A i j=B i j)->det n A=det n B
 |0,_,_,_=>rfl
 |n+1,A,B,h=>by
  rw[det,det];refine A4 λi a=>?_
  rw[h i 0 a ω,M9 (A:=pN i A) (B:=pN i B) λr c b a=>h _ _ (by split<;>omega) ω]
def aL (M:Mt) (k:Nat) (v:Nat->Rat):pN k (P3 M k v)=pN k M:=by
 funext r c;exact D7 (by split<;>omega) _
def aM {M:Mt} {k i:Nat} {v:Nat->Rat} (h:i≠k):pN i (P3 M k v)=P3 (pN i M) (if k<i then k else k-1) λj=>v (j+1):=by
 funext r c;unfold pN P3;by_cases a:r=if k<i then k else k-1
 . rw[qN a,qN (by split at a<;>split<;>omega)]
 . rw[qG a,qG (by intro e;apply a;split at e<;>split<;>omega)]
def Lw:∀ {n k:Nat} (_:k<n) (M:Mt) (a:Rat) (u v:Nat->Rat),det n (P3 M k λj=>a*u j+v j)=a*det n (P3 M k u)+det n (P3 M k v)
 |n+1,k,c,M,a,u,v=>by
  rw[det,det,det, <-Y4, <-Q8];refine A4 λi b=>?_
  by_cases h:i=k
  . subst h;rw[aL,aL,aL,F9,F9,F9];grind
  . rw[aM h,aM h,aM h,D7 h,D7 h,D7 h,Lw (by split<;>omega)];grind
def bW {n a b:Nat} {f:Nat->Rat} (d:a<b) (l:b<n) (h:∀i,i<n->i≠a->i≠b->f i=0):B8 n f=f a+f b:=by
 induction n with
 |zero=>omega
 |succ n k=>
  rw[B8];by_cases j:b=n
  . subst j;rw[D5 d λi g c=>h i ω c ω]
  . rw[k ω λi g=>h i ω,h n ω ω ω,rL]
def B4o {n a b:Nat} {f:Nat->Rat} (j:a<n) (g:b<n) (d:a≠b) (h:∀i,i<n->i≠a->i≠b->f i=0):B8 n f=f a+f b:=by
 rcases g4q d with c|c
 . exact bW c g h
 . rw[bW c j λi k d g=>h i k g d,g1k]
def LN:∀ {n k:Nat} {M:Mt},k+1<n->(∀j,j<n->M k j=M (k+1) j)->det n M=0
 |n+1,k,M,a,h=>by
  rw[det,bW (rM k) a]
  . have e:det n (pN k M)=det n (pN (k+1) M):=M9 λr c hr hc=>by
     unfold pN;by_cases b:r=k
     . rw[qG ω,qN ω,b,h _ ω]
     . by_cases a:r<k
       . rw[qN a,qN ω]
       . rw[qG a,qG ω]
    rw[e,C5t,h 0 ω];grind
  . intro i d b a;rw[show det n (pN i M)=0 from ?_,sH];by_cases a:i<k
    . refine LN (k:=k-1) ω λj a=>?_
      unfold pN;rw[qG ω,qG ω,(ω:k-1+1=k)];exact h _ ω
    . refine LN (k:=k) ω λj a=>?_
      unfold pN;rw[qN ω,qN ω];exact h _ ω
def swp (M:Mt) (k l:Nat):Mt:=P3 (P3 M k (M l)) l (M k)
def B2w {n k:Nat} {M:Mt} (b:k+1<n):det n (swp M k (k+1))= -det n M:=by
 have a:k≠k+1:=ω
 have d:∀u v:Nat->Rat,det n (P3 (P3 M k λj=>1*u j+v j) (k+1) λj=>1*u j+v j)=0:=λu v=>LN b λj _=>by rw[D7 a,F9,F9]
 have c:∀u:Nat->Rat,det n (P3 (P3 M k u) (k+1) u)=0:=λu=>LN b λj _=>by rw[D7 a,F9,F9]
 have h:=d (M k) (M (k+1));rw[Lw b,Mo a,Lw (ω:k<n),Mo a,Lw (ω:k<n), <-Mo a, <-Mo a, <-Mo a, <-Mo a,c,c,Mp (M:=P3 M k (M k)) (k:=k+1) λj=>by rw[D7 ω],Mp (M:=M) (k:=k) λ_=>rfl]at h;unfold swp;grind
def QA {n:Nat} :∀ {d k l:Nat} {M:Mt},l=k+1+d->l<n->(∀j,j<n->M k j=M l j)->det n M=0
 |0,k,l,M,e,a,h=>by
  subst e;exact LN a h
 |d+1,k,l,M,e,f,h=>by
  have b:=B2w (n:=n) (k:=k+1+d) (M:=M) ω;have c:det n (swp M (k+1+d) (k+1+d+1))=0:=by
   refine QA (d:=d) (k:=k) rfl ω λj a=>?_
   unfold swp;rw[D7 ω,D7 ω,D7 ω,F9,h j a,e];rfl
  grind
def A9q {n k l:Nat} {M:Mt} (b:k<n) (f:l<n) (c:k≠l) (h:∀j,j<n->M k j=M l j):det n M=0:=by
 rcases g4q c with a|a
 . exact QA (d:=l-k-1) ω f h
 . exact QA (d:=k-l-1) (k:=l) ω b λj a=>(h j a).symm
structure Alt (n:Nat) (F:Mt->Rat):Prop where
 congr:∀ {A B:Mt},(∀i j,i<n->j<n->A i j=B i j)->F A=F B
 add:∀(A:Mt) {k l:Nat} (a:Rat),k<n->l<n->k≠l->F (P3 A k λj=>A k j+a*A l j)=F A
 scale:∀(A:Mt) {k:Nat} (a:Rat) (v:Nat->Rat),k<n->F (P3 A k λj=>a*v j)=a*F (P3 A k v)
def Lv (n:Nat):Alt n (det n) where
 congr:=M9
 add A k l a hk hl hkl:=by
  rw[show(λj=>A k j+a*A l j)=λj=>a*A l j+A k j from funext λj=>g1k _ _,Lw hk,A9q hk hl hkl (M:=P3 A k (A l)) λj _=>by rw[F9,D7 (Ne.symm hkl)],Mp λ_=>rfl,sH,sR]
 scale A k a v hk:=by
  have b:det n (P3 A k λ_=>0)=0:=by
   have:=Lw hk A 1 (λ_=>0) λ_=>0
   rw[show(λj:Nat=>(1:Rat)*0+0)=λ_=>0 from funext λ_=>by grind]at this;grind
  have:=Lw hk A a v λ_=>0
  rw[show(λj=>a*v j+0)=λj=>a*v j from funext λ_=>rL _,b,rL]at this;exact this
section alt
variable {n:Nat} {F:Mt->Rat}
def Alt.swap (h:Alt n F) (A:Mt) {k l:Nat} (o:k<n) (d:l<n) (c:k≠l):F (swp A k l)= -F A:=by
 have f:=Ne.symm c;rw[<-h.add A 1 o d c];generalize g:(P3 A k λj=>A k j+1*A l j)=B;rw[<-h.add B (-1) d o f];generalize i:(P3 B l λj=>B l j+ -1*B k j)=C;rw[<-h.add C 1 o d c];have e:F (swp A k l)=F (P3 (P3 C k λj=>C k j+1*C l j) l λj=> -1*C l j):=by
  refine h.congr λr j _ _=>?_
  unfold swp;by_cases a:r=l
  . subst a;rw[F9,F9, <-i,F9, <-g,F9,D7 f];grind
  . rw[D7 a,D7 a];by_cases b:r=k
    . subst b;rw[F9,F9, <-i,F9,D7 c, <-g,F9,D7 f];grind
    . rw[D7 b,D7 b, <-i,D7 a, <-g,D7 b]
 rw[e,h.scale _ _ _ d,Mp (M:=P3 C k λj=>C k j+1*C l j) λj=>by rw[D7 f]];grind
def TE {k:Nat} (h:k<n) {T:Mt} (hT:∀i j,j<k->j<i->i<n->T i j=0) (t:T k k≠0):∀m,m<=n->∃T':Mt,(∀F,Alt n F->F T=F T')/\(∀i j,j<k->j<i->i<n->T' i j=0)/\(∀j,T' k j=T k j)/\∀i,k<i->i<m->T' i k=0
 |0,_=>⟨T,λ_ _=>rfl,hT,λ_=>rfl,λ_ _ a=>ω⟩
 |m+1,v=>by
  obtain⟨T',l,b,f,o⟩:=TE h hT t m ω;by_cases u:k<m
  . refine⟨P3 T' m λj=>T' m j+ -(T' m k/T k k)*T' k j,λF r=>by rw[l F r,r.add _ _ ω h ω],λi j d a s=>?_,λj=>by rw[D7 ω,f],λi a c=>?_⟩
    . by_cases c:i=m
      . subst c;rw[F9,b i j d a s,b k j d d h];grind
      . rw[D7 c,b i j d a s]
    . by_cases g:i=m
      . subst g;rw[F9,f,tZ];grind
      . rw[D7 g,o i a ω]
  . exact⟨T',l,b,f,λi a c=>by
     by_cases g:i=m
     . omega
     . exact o i a ω⟩
def A4h (A:Mt):∀k,k<=n->∃(s:Rat) (T:Mt),(∀F,Alt n F->F A=s*F T)/\∀i j,j<k->j<i->i<n->T i j=0
 |0,_=>⟨1,A,λ_ _=>(tG _).symm,λ_ _ h=>ω⟩
 |k+1,z=>by
  obtain⟨s,T,g,a⟩:=A4h A k ω;have fin:∀(s:Rat) (T:Mt),(∀F,Alt n F->F A=s*F T)->(∀i j,j<k->j<i->i<n->T i j=0)->T k k≠0->∃(s:Rat) (T:Mt),(∀F,Alt n F->F A=s*F T)/\∀i j,j<k+1->j<i->i<n->T i j=0:=λs T g a o=>by
   obtain⟨T',v,w,_,x⟩:=TE ω a o n (qV n);refine⟨s,T',λF h=>by rw[g F h,v F h],λi j f b c=>?_⟩;by_cases d:j=k
   . subst d;exact x i b c
   . exact w i j ω b c
  by_cases o:T k k=0
  . by_cases t:∃r,k<r/\r<n/\T r k≠0
    . obtain⟨r,B,u,y⟩:=t;refine fin (-s) (swp T k r) (λF h=>by rw[g F h,h.swap T ω u ω];grind) (λi j f b c=>?_) ?_
      . unfold swp;by_cases d:i=r
        . subst d;rw[F9,a k j f f ω]
        . rw[D7 d];by_cases l:i=k
          . subst l;rw[F9,a r j f ω u]
          . rw[D7 l,a i j f b c]
      . unfold swp;rw[D7 ω,F9];exact y
    . refine⟨s,T,g,λi j f b c=>?_⟩;by_cases d:j=k
      . subst d;exact qR λl=>t ⟨i,b,c,l⟩
      . exact a i j ω b c
  . exact fin s T g a o
def Cs (f:Nat->Rat):Nat->Nat->Rat
 |0,_=>1
 |d+1,k=>f k*Cs f d (k+1)
def tl (T:Mt) (k:Nat):Mt:=λi j=>if k<=i\/k<=j then Zg i j else T i j
def cH {T:Mt} {k i j:Nat} (h:k<=i\/k<=j):tl T k i j=Zg i j:=qN h
def kJ {T:Mt} {k i j:Nat} (h:¬(k<=i\/k<=j)):tl T k i j=T i j:=qG h
def TD (h:Alt n F) {T:Mt} {k:Nat} (d:k<n):∀m,m<=k->F (P3 (tl T (k+1)) k (Zg k))=F (λi j=>if i<m then tl T k i j else P3 (tl T (k+1)) k (Zg k) i j)
 |0,_=>h.congr λi j _ _=>by rw[qG ω]
 |m+1,g=>by
  rw[TD h d m ω];generalize c:(λi j=>if i<m then tl T k i j else P3 (tl T (k+1)) k (Zg k) i j:Mt)=A;rw[<-h.add A (-(T m k)) (ω:m<n) d ω];refine h.congr λi j _ _=>?_
  by_cases b:i=m
  . subst b;rw[F9,qN ω, <-c];simp only;rw[qG ω,qG ω,D7 ω,F9];by_cases a:k=j
    . subst a;rw[kJ ω,Ju,cH ω,Hn ω];grind
    . rw[Hn a];by_cases f:k+1<=j
      . rw[cH ω,cH ω];grind
      . rw[kJ ω,kJ ω];grind
  . rw[D7 b, <-c];simp only;by_cases a:i<m
    . rw[qN a,qN ω]
    . rw[qG a,qG ω]
def C2c (h:Alt n F) {T:Mt} (hT:∀i j,j<i->i<n->T i j=0) {k:Nat} (d:k<n):F (tl T (k+1))=T k k*F (tl T k):=by
 have f:F (tl T (k+1))=F (P3 (tl T (k+1)) k λj=>T k k*Zg k j):=h.congr λi j c g=>by
  by_cases b:i=k
  . subst b;rw[F9];by_cases a:i=j
    . subst a;rw[kJ ω,Ju,tR]
    . rw[Hn a,sH];by_cases l:i+1<=j
      . rw[cH ω,Hn a]
      . rw[kJ ω,hT i j ω c]
  . rw[D7 b]
 rw[f,h.scale _ _ _ d,TD h d k (qV k)];congr 1;refine h.congr λi j c g=>?_
 by_cases b:i<k
 . rw[qN b]
 . rw[qG b];by_cases a:i=k
   . subst a;rw[F9,cH ω]
   . rw[D7 a,cH ω,cH ω]
def oX (h:Alt n F) {T:Mt} (hT:∀i j,j<i->i<n->T i j=0):F T=Cs (λi=>T i i) n 0*F Zg:=by
 have b:∀d k,d+k=n->F T=Cs (λi=>T i i) d k*F (tl T k):=by
  intro d
  induction d with
  |zero=>
   intro k a;rw[Cs,tG];exact h.congr λi j a c=>(kJ ω).symm
  |succ d a=>
   intro k c;rw[a (k+1) ω,C2c h hT ω,Cs];grind
 rw[b n 0 rfl];congr 1
def C3c (h:Alt n F) {G:Mt->Rat} (b:Alt n G) (A:Mt):F A*G Zg=G A*F Zg:=by
 obtain⟨s,T,a,c⟩:=A4h (n:=n) A n (qV n);have hT:∀i j,j<i->i<n->T i j=0:=λi j hj hi=>c i j ω hj hi
 rw[a F h,a G b,oX h hT,oX b hT];grind
end alt
def Zv:∀n,det n Zg=1
 |0=>rfl
 |n+1=>by
  rw[det,D5 (k:=0) ω λi a h=>by rw[Hn h];grind];rw[show pN 0 Zg=Zg from ?_,Zv n]
  . rw[show sg 0=1 from rfl,show Zg 0 0=1 from rfl];grind
  . funext r c;unfold pN;rw[qG (uQ r)];by_cases h:r=c
    . subst h;rw[Ju,Ju]
    . rw[Hn h,Hn ω]
def A9r {n:Nat} {T:Mt} (hT:∀i j,j<i->i<n->T i j=0):det n T=Cs (λi=>T i i) n 0:=by
 rw[oX (Lv n) hT,Zv,tR]
def A9s {n:Nat} {F:Mt->Rat} (h:Alt n F) (A:Mt):F A=det n A*F Zg:=by
 have:=C3c h (Lv n) A;rw[Zv,tR]at this;exact this
def FT (n:Nat) (A B:Mt):Mt:=λi j=>B8 n λk=>A i k*B k j
def QM {n:Nat} (A B:Mt) (k:Nat) (v:Nat->Rat):FT n (P3 A k v) B=P3 (FT n A B) k λj=>B8 n λm=>v m*B m j:=by
 funext i j;unfold FT;by_cases h:i=k
 . subst h;rw[F9];exact A4 λm _=>by rw[F9]
 . rw[D7 h];exact A4 λm _=>by rw[D7 h]
def C4u {n:Nat} (B:Mt) {i:Nat} (a:i<n) (j:Nat):FT n Zg B i j=B i j:=by
 unfold FT;rw[D5 a λm _ h=>by rw[Hn (Ne.symm h),rZ],Ju,tG]
def C4w (n:Nat) (B:Mt):Alt n λA=>det n (FT n A B) where
 congr h:=M9 λi j b _=>A4 λm c=>by rw[h i m b c]
 add A k l a hk hl hkl:=by
  rw[QM, <-(Lv n).add (FT n A B) a hk hl hkl];congr 2;funext j;unfold FT;rw[<-Y4, <-Q8];exact A4 λm _=>by grind
 scale A k a v hk:=by
  rw[QM,QM, <-(Lv n).scale _ _ _ hk];congr 2;funext j;rw[<-Y4];exact A4 λm _=>by grind
def WW (n:Nat) (A B:Mt):det n (FT n A B)=det n A*det n B:=by
 rw[A9s (C4w n B) A,M9 (A:=FT n Zg B) (B:=B) λi j a _=>C4u B a j]
def tr (A:Mt):Mt:=λi j=>A j i
def D0d (n:Nat):Alt n λA=>det n (tr A) where
 congr h:=M9 λi j f c=>h j i c f
 add A k l a hk hl hkl:=by
  have e:det n (tr (P3 A k λj=>A k j+a*A l j))=det n (FT n (tr A) (P3 Zg l λj=>Zg l j+a*Zg k j)):=M9 λi j f c=>by
   unfold FT tr;by_cases h:j=k
   . subst h;rw[F9,B4o hl hk (Ne.symm hkl) λm _ d g=>by rw[D7 d,Hn g,sH],F9,D7 hkl,Hn (Ne.symm hkl),Ju];grind
   . rw[D7 h,D5 c λm _ d=>?_]
     . by_cases b:j=l
       . subst b;rw[F9,Ju,Hn (Ne.symm h)];grind
       . rw[D7 b,Ju,tR]
     . by_cases b:m=l
       . subst b;rw[F9,Hn d,Hn (Ne.symm h)];grind
       . rw[D7 b,Hn d,sH]
  rw[e,WW,(Lv n).add Zg a hl hk (Ne.symm hkl),Zv,tR]
 scale A k a v hk:=by
  have e:det n (tr (P3 A k λj=>a*v j))=det n (FT n (tr (P3 A k v)) (P3 Zg k λj=>a*Zg k j)):=M9 λi j f c=>by
   unfold FT tr;by_cases h:j=k
   . subst h;rw[F9,D5 c λm _ b=>by rw[D7 b,D7 b,Hn b,sH],F9,F9,Ju];grind
   . rw[D7 h,D5 c λm _ b=>?_,D7 h,D7 h]
     . rw[Ju,tR]
     . by_cases d:m=k
       . subst d;rw[F9,F9,Hn b];grind
       . rw[D7 d,D7 d,Hn b,sH]
  rw[e,WW,(Lv n).scale Zg a _ hk,Mp λ_=>rfl,Zv];grind
def A6h (n:Nat) (A:Mt):det n (tr A)=det n A:=by
 rw[A9s (D0d n) A,show tr Zg=Zg from ?_,Zv,tR];funext i j;unfold tr;by_cases h:i=j
 . rw[h]
 . rw[Hn h,Hn (Ne.symm h)]
def C3p {n:Nat} {T:Mt} (hT:∀i j,i<j->j<n->T i j=0):det n T=Cs (λi=>T i i) n 0:=by
 rw[<-A6h,A9r (T:=tr T) λi j b a=>hT j i b a];rfl
def fM (a:Nat->Nat):Mt:=λi=>Zg (a i)
def sgB (b:Bool):Rat:=if b=true then -1 else 1
def C5s (b:Bool):sgB (!b)= -sgB b:=by cases b<;>decide
def A1l (b:Nat->Nat) (i j:Nat):Nat->Nat:=λa=>if a=j then b i else if a=i then b j else b a
def B4h (b:Nat->Nat) (i j:Nat):swp (fM b) i j=fM (A1l b i j):=by
 funext a c;unfold swp P3 fM A1l;by_cases b:a=j
 . rw[qN b,qN b]
 . rw[qG b,qG b];by_cases b:a=i
   . rw[qN b,qN b]
   . rw[qG b,qG b]
def A5c (n:Nat) (p:Nat->Nat) (d:Bool) (seen:Nat->Prop):Prop:=∃b:Nat->Nat,(∀a c,a<n->c<n->b a=b c->a=c)/\(∀a,a<n->seen a->b a=a)/\(∀a,a<n->¬seen a->b a=p a)/\det n (fM p)=sgB d*det n (fM b)
def B1z (n:Nat) (p:Nat->Nat) (i j:Nat) (d:Bool) (seen:Nat->Prop):Prop:=seen i/\∃b:Nat->Nat,(∀a c,a<n->c<n->b a=b c->a=c)/\b i=j/\(∀a,a<n->seen a->a≠i->b a=a)/\(∀a,a<n->¬seen a->b a=p a)/\det n (fM p)=sgB d*(if j=i then 1 else -1)*det n (fM b)
section
variable {n:Nat} {p:Nat->Nat} {odd:Bool} {seen seen':Nat->Prop} {i j:Nat}
def A5c.start (d:∀a b,a<n->b<n->p a=p b->a=b) (f:∀a,a<n->¬seen a):A5c n p false seen:=⟨p,d,λa c h=>absurd h (f a c),λ_ _ _=>rfl,(tG _).symm⟩
def B1n (b:Bool) (h:Prop) [Decidable h]:sgB (if h then b else !b)*(if h then 1 else -1)=sgB b:=by
 by_cases a:h
 . rw[qN a,qN a,tR]
 . rw[qG a,qG a,C5s];grind
def A5c.enter (h:A5c n p odd seen) (r:i<n) (s:¬seen i) (d:∀a,seen' a↔seen a\/a=i):B1z n p i (p i) (if p i=i then odd else !odd) seen':=by
 obtain⟨t,j,k,g,l⟩:=h;refine⟨(d i).2 (.inr rfl),t,j,g i r s,λa c f o=>?_,λa c f=>g a c λb=>f ((d a).2 (.inl b)),?_⟩
 . rcases(d a).1 f with b|b
   . exact k a c b
   . exact absurd b o
 . rw[B1n];exact l
def B1z.step (h:B1z n p i j odd seen) (v:i<n) (t:j<n) (y:¬seen j) (k:∀a,seen' a↔seen a\/a=j):B1z n p i (p j) (if p j=i then odd else !odd) seen':=by
 obtain⟨r,o,D,E,F,u,G⟩:=h;have s:i≠j:=λe=>y (e▸r)
 refine⟨(k i).2 (.inl r),A1l o i j,λa A d N M=>?_,?_,λa d l g=>?_,λa d l=>?_,?_⟩
 . have w:∀c,c<n->∃c',c'<n/\A1l o i j c=o c'/\(c'=if c=j then i else if c=i then j else c):=λc hc=>by
    refine⟨_,?_,?_,rfl⟩
    . split
      . exact v
      . split
        . exact t
        . exact hc
    . unfold A1l;split
      . rfl
      . split<;>rfl
   obtain⟨z,H,I,J⟩:=w a d;obtain⟨B,O,P,Q⟩:=w A N;have e:=D z B H O (by rw[<-I, <-P,M]);rw[J,Q]at e;grind
 . unfold A1l;rw[qG s,qN rfl,u j t y]
 . unfold A1l;by_cases b:a=j
   . rw[qN b,E,b]
   . rw[qG b,qG g];rcases(k a).1 l with f|f
     . exact F a d f g
     . exact absurd f b
 . have x:¬seen a:=λf=>l ((k a).2 (.inl f))
   have b:a≠j:=λe=>l ((k a).2 (.inr e))
   have g:a≠i:=λe=>x (e▸r)
   unfold A1l;rw[qG b,qG g];exact u a d x
 . rw[B1n, <-B4h,(Lv n).swap (fM o) v t s,G,qG (Ne.symm s)];grind
def B1z.exit (h:B1z n p i j odd seen) (l:i<n) (b:j<n) (o:seen j):j=i/\A5c n p odd seen:=by
 obtain⟨a,r,c,d,f,g,k⟩:=h;have a:j=i:=qR λhne=>hne (c j i b l (by rw[f j b o hne,d]))
 refine⟨a,r,c,λb l o=>?_,g,?_⟩
 . by_cases c:b=i
   . rw[c,d,a]
   . exact f b l o c
 . rw[k,qN a,tR]
def A5c.finish (h:A5c n p odd seen) (d:∀a,a<n->seen a):det n (fM p)=sgB odd:=by
 obtain⟨i,f,c,g,b⟩:=h;rw[b,M9 (B:=Zg) λa f b g=>by unfold fM;rw[c a b (d a b)],Zv,tR]
end
def SL (f:Nat->Rat):∀d k,Cs f (d+1) k=Cs f d k*f (k+d)
 |0,k=>by show f k*1=1*f k;rw[tR,tG]
 |d+1,k=>by
  show f k*Cs f (d+1) (k+1)=f k*Cs f d (k+1)*f (k+(d+1));rw[SL f d (k+1),tO,(ω:k+1+d=k+(d+1))]
def Tw {f:Nat->Rat} :∀ {d k:Nat},(∀i,k<=i->i<k+d->f i=1)->Cs f d k=1
 |0,_,_=>rfl
 |d+1,k,h=>by
  show f k*Cs f d (k+1)=1;rw[h k (qV _) ω,Tw λi a b=>h i ω ω];exact tG 1
def TZ {f g:Nat->Rat} :∀ {d k:Nat},(∀i,k<=i->i<k+d->f i=g i)->Cs f d k=Cs g d k
 |0,_,_=>rfl
 |d+1,k,h=>by
  show f k*Cs f d (k+1)=g k*Cs g d (k+1);rw[h k (qV _) ω,TZ λi a b=>h i ω ω]
def Mk {f:Nat->Rat} {m:Nat} :∀ {n:Nat},m<=n->(∀k,m<=k->k<n->f k=0)->B8 n f=B8 m f
 |0,h,_=>by rw[Nat.le_zero.1 h]
 |n+1,h,a=>by
  by_cases b:m=n+1
  . rw[b]
  . rw[B8,Mk ω λk b c=>a k b ω,a n ω ω,rL]
def cK {f:Nat->Rat} :∀ {d k:Nat},(∀i,k<=i->i<k+d->f i≠0)->Cs f d k≠0
 |0,_,_=>by show(1:Rat)≠0;decide
 |d+1,k,h=>by
  intro a;rcases yN.1 (show f k*Cs f d (k+1)=0 from a)with e|e
  . exact h k (qV _) ω e
  . exact cK (d:=d) (k:=k+1) (λi a b=>h i ω ω) e
section
variable {a:Nat} {c u X:Nat->Nat->Rat} {l:Nat->Nat} {D:Nat->Rat}
def XO (d:∀b,b<a->∀m,m<a->c b (l m)=B8 b (λk=>X b k*u k (l m))+D b*u b (l m)) (h:∀b m,m<b->b<a->u b (l m)=0):
 det a (λb m=>c b (l m))=Cs D a 0*Cs (λm=>u m (l m)) a 0:=by
 have e:det a (λb m=>c b (l m))=det a (FT a (λb k=>if k<b then X b k else if k=b then D b else 0) λk m=>u k (l m)):=M9 λb m hb hm=>by
  show c b (l m)=B8 a λk=>(if k<b then X b k else if k=b then D b else 0)*u k (l m)
  rw[d b hb m hm,Mk (m:=b+1) hb λk d f=>by rw[qG ω,qG ω,rZ],B8,qG (tH b),qN rfl];congr 1;exact A4 λk g=>by rw[qN g]
 rw[e,WW,C3p λi j d f=>by show(if j<i then X i j else if j=i then D i else 0)=0;rw[qG ω,qG ω],A9r λi j d f=>h i j d f];congr 1;exact TZ λi _ _=>by show(if i<i then X i i else if i=i then D i else 0)=D i;rw[qG (tH i),qN rfl]
end
def Zh (R C:Nat) (A:Nat->Nat->Rat) (T:Nat):Prop:=∀(k:Nat) (r c:Nat->Nat),k<=R->k<=C->(∀a,a<k->r a<R)->(∀b,b<k->c b<C)->qs T (det k λa b=>A (r a) (c b))
section
variable {R C T a:Nat} {A u X:Nat->Nat->Rat} {r l:Nat->Nat}
def B5h (g:∀b,b<=a->∀m,m<=a->A (r b) (l m)=B8 b (λk=>X b k*u k (l m))+u b (l m)) (n:∀b m,m<b->b<=a->u b (l m)=0) (v:∀b,b<a->u b (l b)≠0):
 u a (l a)=det (a+1) (λb m=>A (r b) (l m))/det a λb m=>A (r b) (l m):=by
 have s:=XO (a:=a+1) (c:=λb j=>A (r b) j) (u:=u) (X:=X) (l:=l) (D:=λ_=>1) (λb f m d=>by rw[tG];exact g b ω m ω) (λb m d f=>n b m d ω);have o:=XO (a:=a) (c:=λb j=>A (r b) j) (u:=u) (X:=X) (l:=l) (D:=λ_=>1) (λb f m d=>by rw[tG];exact g b ω m ω) (λb m d f=>n b m d ω);rw[s,o,Tw λ_ _ _=>rfl,Tw λ_ _ _=>rfl,tG,tG,SL,sG];have t:Cs (λm=>u m (l m)) a 0≠0:=cK λi _ h=>v i ω
 generalize Cs (λm=>u m (l m)) a 0=w at*;rw[tZ,yK w,tO,vS _ t,tR]
def C2b (d:Zh R C A T) (g:∀b,b<=a->r b<R) (f:∀b,b<=a->l b<C) (i:a<R) (h:a<C) (c:∀b,b<=a->∀m,m<=a->A (r b) (l m)=B8 b (λk=>X b k*u k (l m))+u b (l m)) (n:∀b m,m<b->b<=a->u b (l m)=0) (j:∀b,b<a->u b (l b)≠0):qs (T+T) (u a (l a)):=by
 rw[B5h c n j];exact AW (d (a+1) r l i h (λb c=>g b ω) λb c=>f b ω) (d a r l ω ω (λb c=>g b ω) λb c=>f b ω)
def A8t {y:Rat} {s:Nat} (n:Zh R C A T) (z:∀b,b<=a->r b<R) (M:s<R) (w:∀b,b<=a->l b<C) (t:a<R) (o:a<C) (v:∀b,b<=a->∀m,m<=a->A (r b) (l m)=B8 b (λk=>X b k*u k (l m))+u b (l m)) (B:∀b m,m<b->b<=a->u b (l m)=0) (J:∀b,b<=a->u b (l b)≠0)
 {x:Nat->Rat} (N:∀m,m<=a->A s (l m)=B8 a (λk=>x k*u k (l m))+y*u a (l m)):qs (T+T) y:=by
 have H:=XO (a:=a+1) (c:=λb j=>if b=a then A s j else A (r b) j) (u:=u) (X:=λb k=>if b=a then x k else X b k) (l:=l) (D:=λb=>if b=a then y else 1) (λb f m g=>by
  by_cases e:b=a
  . simp only[e,wN];exact N m ω
  . simp only[qG e];rw[tG];exact v b ω m ω) (λb m g f=>B b m g ω)
 have G:=XO (a:=a+1) (c:=λb j=>A (r b) j) (u:=u) (X:=X) (l:=l) (D:=λ_=>1) (λb f m g=>by rw[tG];exact v b ω m ω) (λb m g f=>B b m g ω);have h:=n (a+1) (λb=>if b=a then s else r b) l t o (λb f=>by
  show(if b=a then s else r b)<R;split
  . exact M
  . exact z b ω) λb f=>w b ω
 have E:=n (a+1) r l t o (λb f=>z b ω) λb f=>w b ω
 rw[show det (a+1) (λb m=>A ((λb=>if b=a then s else r b) b) (l m))=det (a+1) (λb m=>(λb j=>if b=a then A s j else A (r b) j) b (l m))from M9 λi j _ _=>by simp only;split<;>rfl]at h;rw[H,SL,Tw (d:=a) λi _ F=>qG ω]at h;rw[G,Tw λ_ _ _=>rfl]at E;have I:Cs (λm=>u m (l m)) (a+1) 0≠0:=cK λi _ F=>J i ω
 generalize Cs (λm=>u m (l m)) (a+1) 0=O at*;have:=AW h E;rw[tG,tG,sG,qN rfl,tZ,tO,vS _ I,tR]at this;exact this
end
def QN {R C T:Nat} {A A':Nat->Nat->Rat} (h:Zh R C A T) (g:∀i j,i<R->j<C->A i j=A' i j):Zh R C A' T:=λk r c a b d f=>by
 have:=h k r c a b d f;rwa[show det k (λa b=>A (r a) (c b))=det k (λa b=>A' (r a) (c b))from M9 λi j k l=>g _ _ (d i k) (f j l)]at this
def bd (D N:Nat) (x:Rat):Prop:=∃z:Int,x*(D:Rat)=(z:Rat)/\z.natAbs<=N
def A9p (q:Rat):q*(q.den:Rat)=(q.num:Rat):=by
 have h:=g1t q;rw[yE]at h;have a:(q.den:Rat)≠0:=λhh=>q.den_nz (by exact_mod_cast hh)
 calc q*(q.den:Rat)=(q.num:Rat)/(q.den:Rat)*(q.den:Rat):=by rw[h]
  _=(q.num:Rat):=by rw[tZ,tO,wD _ a,tR]
def DN {D N M:Nat} {x:Rat} (h:bd D N x) (c:N<=M):bd D M x:=by
 obtain⟨z,a,b⟩:=h;exact⟨z,a,qY b c⟩
def B6o {D N D' N':Nat} {x y:Rat} (h:bd D N x) (a:bd D' N' y):bd (D*D') (N*N') (x*y):=by
 obtain⟨z,b,c⟩:=h;obtain⟨g,d,f⟩:=a;refine⟨z*g,?_,by rw[vE];exact uM c f⟩;rw[g3c,zW, <-b, <-d];grind
def B6n {D N M:Nat} {x y:Rat} (h:bd D N x) (a:bd D M y):bd D (N+M) (x+y):=by
 obtain⟨z,b,c⟩:=h;obtain⟨g,d,f⟩:=a;refine⟨z+g,?_,qY (g0g _ _) (g3r c f)⟩;rw[Rat.intCast_add, <-b, <-d];grind
def A9j (D:Nat):bd D 0 0:=⟨0,by rw[rZ];rfl,qV _⟩
def D0y {D N:Nat} {x:Rat} (h:bd D N x) (i:Nat):bd D N (sg i*x):=by
 unfold sg;split
 . rw[tG];exact h
 . obtain⟨z,a,b⟩:=h;refine⟨-z,?_,by rw[xK];exact b⟩;rw[g3b, <-a];grind
def A5y {D N:Nat} {f:Nat->Rat} :∀ {n:Nat},(∀i,i<n->bd D N (f i))->bd D (n*N) (B8 n f)
 |0,_=>by rw[xX];exact A9j D
 |n+1,h=>by
  rw[uI];exact B6n (A5y λi a=>h i ω) (h n ω)
def fct:Nat->Nat
 |0=>1
 |n+1=>(n+1)*fct n
def A5x {D N:Nat} :∀ {k:Nat} {M:Mt},(∀i j,i<k->j<k->bd D N (M i j))->bd (D^k) (fct k*N^k) (det k M)
 |0,_,_=>⟨1,by rw[det,g1j,tG];rfl,by rw[g1j];decide⟩
 |k+1,M,h=>by
  have c:∀i,i<k+1->bd (D^(k+1)) (fct k*N^(k+1)) (sg i*M i 0*det k (pN i M)):=λi hi=>by
   have d:=B6o (h i 0 hi ω) (A5x (k:=k) (M:=pN i M) λa b ha hb=>h _ _ (by split<;>omega) ω);rw[tO,rY,sF (D^k)];exact D0y (DN d (by rw[rY];exact Nat.le_of_eq (by ac_rfl))) i
  have:=A5y c;rw[det,fct,sN];exact this
def C6t {D N s:Nat} {x:Rat} (h:bd D N x) (a:D≠0) (b:(nc D).length<=s) (c:(nc N).length<=s):qs s x:=by
 obtain⟨z,e,f⟩:=h;have:x=mkRat z D:=by
  rw[yE, <-e,tZ,tO,vS _ (λd=>a (by exact_mod_cast d)),tR]
 rw[this];exact NA a (qY (J7 f) c) b
def np (f:Nat->Nat):Nat->Nat
 |0=>1
 |n+1=>np f n*f n
def QW {f:Nat->Nat} {i:Nat} :∀ {n:Nat},i<n->f i∣np f n
 |n+1,h=>by
  by_cases e:i=n
  . subst e;exact Nat.dvd_mul_left _ _
  . exact Nat.dvd_trans (QW ω) (Nat.dvd_mul_right _ _)
def aV {f:Nat->Nat} (h:∀i,0<f i):∀n,0<np f n
 |0=>Nat.zero_lt_one
 |n+1=>g0w (aV h n) (h n)
def A3b {f:Nat->Nat} {M:Nat} :∀ {n:Nat},(∀i,i<n->f i<=M)->np f n<=M^n
 |0,_=>qV _
 |n+1,h=>by
  rw[np,rY];exact uM (A3b λi a=>h i ω) (h n ω)
def A6k {b:Nat} :∀ {k:Nat},k<=b->fct k<=b^k
 |0,_=>qV _
 |k+1,h=>by
  rw[fct,rY,sF];exact uM (A6k ω) h
def tB (s R C:Nat):Nat:=R*(s*(R*C+1)+1)+1
def C9g {R C s:Nat} {A:Nat->Nat->Rat} (E:R<=4294967296) (h:∀i j,i<R->j<C->qs s (A i j)):Zh R C A (tB s R C):=λk B u t F z w=>by
 generalize o:(4294967296:Nat)=b at*;have v:1<b:=ω
 have lt:∀ {n:Nat},(nc n).length<=s->n<=b^s:=λ{n} hn=>by
  rw[<-o];exact qY (vX (Eu n)) (rR δ hn)
 have len:∀ {n m:Nat},n<=b^m->(nc n).length<=m+1:=λ{n m} hn=>Ds (by rw[o];exact wC hn (zA v (rM m)))
 let d:Nat->Nat:=λi=>np (λj=>(A i j).den) C
 let D:=np d R
 have l:0<D:=aV (λi=>aV (λj=>(A i j).den_pos) C) R;have g:D<=b^(s*(R*C)):=by
  have c:∀i,i<R->d i<=(b^s)^C:=λi hi=>A3b λj hj=>lt (h i j hi hj).2
  have:=A3b c;rw[<-yG, <-yG]at this;rw[show s*(R*C)=s*(C*R)from by ac_rfl];exact this
 have y:∀i j,i<R->j<C->bd D (b^(s*(R*C+1))) (A i j):=λi j hi hj=>by
  obtain⟨e,r⟩:(A i j).den∣D:=Nat.dvd_trans (QW (f:=λj=>(A i j).den) hj) (QW (f:=d) hi);refine⟨(A i j).num*(e:Int),?_,?_⟩
  . rw[r,g3c,zW, <-tO,A9p];rfl
  . rw[vE,sY,xG,tY,sF];refine uM ?_ (lt (h i j hi hj).1);refine qY (g2a l ⟨(A i j).den,?_⟩) g;rw[r,sF];rfl
 have x:=A5x (k:=k) (M:=λa b=>A (B a) (u b)) λi j hi hj=>y _ _ (z i hi) (w j hj)
 refine C6t x (g4e.1 (tP l)) ?_ ?_
 . have c:D^k<=b^(s*(R*C)*k):=by rw[yG];exact g1g g k
   refine qY (len c) ?_;have:s*(R*C)*k<=R*(s*(R*C+1)+1):=by
    rw[sF];exact uM t (xW (sC _ (uH _)))
   unfold tB;omega
 . have c:fct k*(b^(s*(R*C+1)))^k<=b^(k*(s*(R*C+1)+1)):=by
    rw[<-yG,show k*(s*(R*C+1)+1)=k+s*(R*C+1)*k from by rw[sY,xG,sF k (s*(R*C+1)),vV],tY];exact rD _ (A6k ω)
   refine qY (len c) ?_;have:=rD (s*(R*C+1)+1) t;unfold tB;omega
def C0f (n:Nat) (A:Nat->Nat->Rat):Prop:=∀x:Nat->Rat,(∀i,i<n->B8 n (λj=>A i j*x j)=0)->∀j,j<n->x j=0
def Gm (n:Nat) (A:Nat->Nat->Rat) (b:Nat->Rat) (i j:Nat):Rat:=if j<n then A i j else b i
def A7h {α:Type} [DecidableEq α]:∀ {a b:List α},a.Nodup->(∀x∈a,x∈b)->a.length<=b.length
 | [],_,_,_=>rP _
 |x::a,b,c,d=>by
  rw[sK]at c;have f:∀y∈a,y∈b.erase x:=λy hy=>(g0u λe=>c.1 (by rw[<-e];exact hy)).2 (d y (by simp[hy]))
  have g:=A7h c.2 f;rw[zR (d x (by simp))]at g;have:=g0i (d x (by simp));simp only[rI];omega
def B0s {n:Nat} {f:Nat->Nat} (b:∀i j,i<j->j<n->f i<f j) (g:∀i,i<n->f i<n):∀i,i<n->f i=i:=by
 have c:∀i,i<n->i<=f i:=by
  intro i
  induction i with
  |zero=>intro _;exact rP _
  |succ i d=>intro a;have:=d ω;have:=b i (i+1) ω a;omega
 have d:∀k,k<n->f (n-1-k)<=n-1-k:=by
  intro k
  induction k with
  |zero=>intro h;rw[g2t];have:=g (n-1) ω;omega
  |succ k g=>
   intro h;have:=g ω;have:=b (n-1-(k+1)) (n-1-k) ω ω;omega
 intro i a;have:=c i a;have:=d (n-1-i) ω;rw[(ω:n-1-(n-1-i)=i)]at this;omega
section
variable {n t c:Nat} {A E:Nat->Nat->Rat} {b:Nat->Rat} {P:List Nat}
def A9i {x:Nat->Rat} (a:x n=0):ker n (n+1) (Gm n A b) x↔∀i,i<n->B8 n (λj=>A i j*x j)=0:=by
 unfold ker;have e:∀i,B8 (n+1) (λj=>Gm n A b i j*x j)=B8 n (λj=>A i j*x j):=λi=>by
  rw[B8,a,sH,rL];exact A4 λj a=>by unfold Gm;rw[qN a]
 simp only[e]
def A1x (h:Xc n (n+1) (Gm n A b) E t c P) (d:c=n+1\/t=n) (i:C0f n A) {j:Nat} (a:j<n):j∈P:=by
 rw[h.pivots d];rintro⟨x,d,f,g⟩;exact f (i x ((A9i (g n a)).1 d) j a)
def B0e (h:Xc n (n+1) (Gm n A b) E t c P) (g:c=n+1\/t=n) (k:C0f n A):t=n/\∀i,i<n->P.getD i 0=i:=by
 have j:(List.range n).length<=P.length:=by
  have u:(List.range n).Nodup:=g5g;exact A7h u λl d=>A1x h g k (uR.1 d)
 rw[yV,h.len]at j;have v:t=n:=Nat.le_antisymm h.tle j;subst v;refine⟨rfl,B0s (λi l s d=>h.pmono s d) λi r=>?_⟩;refine qR λo=>?_
 have f:=h.pmem r;generalize P.getD i 0=p at*;have:=A7h (a:=p::List.range t) (b:=P) (by rw[sK];exact⟨λf=>o (uR.1 f),g5g⟩) λl d=>by
  rcases qS.1 d with rfl|d
  . exact f
  . exact A1x h g k (uR.1 d)
 rw[rI,yV,h.len]at this;omega
def B3b (h:Xc n (n+1) (Gm n A b) E t c P) (z:t=n) (s:n=0\/P.getD (n-1) 0=n-1):C0f n A:=by
 intro x u;have l:∀j,j<n->j∈P:=λj a=>by
  have g:P.getD (n-1) 0=n-1:=by
   rcases s with e|e
   . omega
   . exact e
  have d:=B0s (n:=n) (f:=λi=>P.getD i 0) (λi j hij a=>h.pmono hij ω) (λi hi=>by
   by_cases e:i=n-1
   . subst e;omega
   . have:=h.pmono (i:=i) (r:=n-1) ω ω;omega) j a
  have:=h.pmem (i:=j) ω;rw[d]at this;exact this
 have v:∀k,k<=n->∀j,n-k<=j->j<n->x j=0:=by
  intro k
  induction k with
  |zero=>intro _ j d g;omega
  |succ k g=>
   intro y j w d;by_cases e:j=n-(k+1)
   . subst e;refine qR λo=>h.indep (l _ d) ⟨λi=>if i<n then x i else 0,(A9i (qG (tH _))).2 λi hi=>?_,λe=>o (by simpa[qN d]using e),λi hi=>?_⟩
     . rw[<-u i hi];exact A4 λj a=>by rw[qN a]
     . show(if i<n then x i else 0)=0;split
       . exact g ω i ω ‹_›
       . rfl
   . exact g ω j ω d
 exact λj a=>v n (qV _) j ω a
def A5v (h:Xc n (n+1) (Gm n A b) E t c P) (u:t=n) (k:∀i,i<n->P.getD i 0=i) {x:Nat->Rat} (s:∀i,i<n->E i i*x i=E i n-B8 n (λj=>if i<j then E i j*x j else 0)):∀i,i<n->B8 n (λj=>A i j*x j)=b i:=by
 have l:ker n (n+1) E (λj=>if j<n then x j else -1):=λi a=>by
  rw[B8];simp only[qG (tH n)];have e:B8 n (λj=>E i j*(if j<n then x j else -1))=B8 n (λj=>if i<j then E i j*x j else 0)+B8 n (λj=>if j=i then E i i*x i else 0):=by
   rw[<-Q8];refine A4 λj d=>?_
   rw[qN d];rcases g1x i j with h1|h1|h1
   . rw[qN h1,qG ω];grind
   . subst h1;rw[qG (tH _),qN rfl];grind
   . rw[qG ω,qG ω,h.left i ω j (by rw[k i a];exact h1)];grind
  rw[e,D5 a λj _ r=>qG r,qN rfl,s i a];grind
 have o:=(h.sol _).1 l;intro i a;have:=o i a;rw[B8]at this;simp only[qG (tH n)]at this;have f:Gm n A b i n=b i:=by unfold Gm;rw[qG (tH n)]
 have g:B8 n (λj=>Gm n A b i j*(if j<n then x j else -1))=B8 n (λj=>A i j*x j):=A4 λj d=>by unfold Gm;rw[qN d,qN d]
 rw[f,g]at this;grind
def C3q (h:Xc n (n+1) (Gm n A b) E t c P) (f:t=n) (a:∀i,i<n->P.getD i 0=i) {i:Nat} (d:i<n):E i i≠0:=by
 have:=h.piv i ω;rw[a i d]at this;exact this
end
def Jq (R C:Nat) (E:Nat->Nat->Rat) (l:List (List B7)):Prop:=l.length=R/\∀i,i<R->(l.getD i []).length=C/\∀j,j<C->(l.getD i []).getD j zr=rc (E i j)
def aF (l:List (List B7)) (i j:Nat):Rat:=rv ((l.getD i []).getD j zr)
def D1b (C:Nat) (l e:List (List B7)) (p:Wf) (s:Int):Prop:=∃E t c P,Jq l.length C E e/\Xc l.length C (aF l) E t c P/\(c=C\/t=l.length)/\p=P.map Int.ofNat/\(s=1\/s= -1)/\(C=l.length->det C (aF l)=(s:Rat)*det C E)/\∀T,1<=T->Zh l.length C (aF l) T->∀i j,i<l.length->j<C->qs (T+T) (E i j)
def eT (C:Int) (l:List (List B7)):Prop:=0<=C/\C<=16384/\l.length<=16384/\Jq l.length C.toNat (aF l) l/\∃T,1<=T/\8*T+8<=K1/\Zh l.length C.toNat (aF l) T
def SB:∀(n:Nat) (f:Nat->Nat),(∀a,a<n+1->f a<n)->∃a b,a<b/\b<n+1/\f a=f b
 |0,f,h=>absurd (h 0 ω) ω
 |n+1,f,h=>by
  by_cases i:∃a,a<n+1/\f a=f (n+1)
  . obtain⟨a,c,g⟩:=i;exact⟨a,n+1,c,ω,g⟩
  . have d:∀a,a<n+1->f a≠f (n+1):=λa ha e=>i ⟨a,ha,e⟩
    obtain⟨a,b,c,g,i⟩:=SB n (λa=>if f a<f (n+1)then f a else f a-1) λa ha=>by
     have:=h a ω;have:=h (n+1) ω;have:=d a ha;split<;>omega
    refine⟨a,b,c,ω,?_⟩;have c:=d a ω;have c:=d b ω;split at i<;>split at i<;>omega
def Mv {n:Nat} {q:Nat->Nat} (g:∀a,a<n->q a<n) (f:∀a b,a<n->b<n->q a=q b->a=b) {j:Nat} (d:j<n):∃a,a<n/\q a=j:=
 qR λc=>by
  have i:∀a,a<n->q a≠j:=λa ha e=>c ⟨a,ha,e⟩
  obtain⟨a,b,h,k,c⟩:=SB n (λa=>if a<n then q a else j) λa ha=>by
   split
   . rename_i h;exact g a h
   . exact d
  by_cases d:b<n
  . rw[qN d,qN ω]at c;have:=f a b ω d c;omega
  . rw[qG d,qN ω]at c;exact i a ω c
def dot (n:Nat) (u x:Nat->Rat):Rat:=B8 n λj=>u j*x j
def C3r (n k:Nat) (l:Nat->Rat) (R:Nat->Nat->Rat) (u x:Nat->Rat):B8 n (λj=>(B8 k (λm=>l m*R m j)+u j)*x j)=B8 k (λm=>l m*dot n (R m) x)+dot n u x:=by
 have:(λj=>(B8 k (λm=>l m*R m j)+u j)*x j)=λj=>B8 k (λm=>l m*(R m j*x j))+u j*x j:=by
  funext j;rw[g3w, <-SG];congr 1;exact A4 λm _=>tO _ _ _
 rw[this,Q8,Ta];congr 1;exact A4 λm _=>Y4 n (l m) _
def C5x (a b c:Rat):a+b=a+c+(b-c):=by grind
structure Yb (n k:Nat) (A:Nat->Nat->Rat) (p q:Nat->Nat) (R Lo:Nat->Nat->Rat):Prop where
 kn:k<=n
 plt:∀m,m<k->p m<n
 qlt:∀m,m<k->q m<n
 pinj:∀a b,a<k->b<k->p a=p b->a=b
 qinj:∀a b,a<k->b<k->q a=q b->a=b
 dec:∀i j,i<n->j<n->A i j=B8 k (λm=>Lo i m*R (p m) j)+R i j
 zero:∀m i,m<k->i<n->(∀a,a<=m->i≠p a)->R i (q m)=0
 piv:∀m,m<k->R (p m) (q m)≠0
 low:∀a m,a<k->m<k->a<=m->Lo (p a) m=0
def Yb.init (n:Nat) (A:Nat->Nat->Rat) (p q:Nat->Nat) (Lo:Nat->Nat->Rat):Yb n 0 A p q A Lo:=
 ⟨rP _,λ_ h=>absurd h (uQ _),λ_ h=>absurd h (uQ _),λ_ _ h=>absurd h (uQ _),λ_ _ h=>absurd h (uQ _),λi j _ _=>by rw[B8,sR],λ_ _ h=>absurd h (uQ _),λ_ h=>absurd h (uQ _),λ_ _ h=>absurd h (uQ _)⟩
section
variable {n k:Nat} {A R Lo R' Lo':Nat->Nat->Rat} {p q p' q':Nat->Nat}
def Yb.step (h:Yb n k A p q R Lo) {r c:Nat} {fac:Nat->Rat} (Y:k<n) (z:r<n) (B:c<n) (E:∀a,a<k->r≠p a) (I:∀a,a<k->c≠q a) (J:R r c≠0)
 (o:∀m,m<k->p' m=p m) (v:p' k=r) (w:∀m,m<k->q' m=q m) (y:q' k=c)
 (Q:∀i,i<n->i≠r->(∀a,a<k->i≠p a)->fac i=R i c/R r c) (G:fac r=0) (H:∀a,a<k->fac (p a)=0)
 (x:∀i j,i<n->j<n->R' i j=R i j-fac i*R r j) (M:∀i m,i<n->m<k->Lo' i m=Lo i m) (F:∀i,i<n->Lo' i k=fac i):Yb n (k+1) A p' q' R' Lo':=by
 have O:∀j,j<n->R' r j=R r j:=λj u=>by rw[x r j z u,G,rZ,tC,wM,rL]
 have N:∀a j,a<k->j<n->R' (p a) j=R (p a) j:=λa j d u=>by rw[x _ j (h.plt a d) u,H a d,rZ,tC,wM,rL]
 have s:∀m,m<k+1->m<k\/m=k:=λm b=>ω
 refine⟨Y,λm b=>?_,λm b=>?_,λa l d g f=>?_,λa l d g f=>?_,λi j t u=>?_,λm i b t D=>?_,λm b=>?_,λa m d b V=>?_⟩
 . rcases s m b with b|rfl
   . rw[o m b];exact h.plt m b
   . rw[v];exact z
 . rcases s m b with b|rfl
   . rw[w m b];exact h.qlt m b
   . rw[y];exact B
 . rcases s a d with d|rfl<;>rcases s l g with g|rfl
   . rw[o a d,o l g]at f;exact h.pinj a l d g f
   . rw[o a d,v]at f;exact absurd f.symm (E a d)
   . rw[v,o l g]at f;exact absurd f (E l g)
   . rfl
 . rcases s a d with d|rfl<;>rcases s l g with g|rfl
   . rw[w a d,w l g]at f;exact h.qinj a l d g f
   . rw[w a d,y]at f;exact absurd f.symm (I a d)
   . rw[y,w l g]at f;exact absurd f (I l g)
   . rfl
 . have P:B8 k (λm=>Lo' i m*R' (p' m) j)=B8 k (λm=>Lo i m*R (p m) j):=A4 λm b=>by rw[M i m t b,o m b,N m j b u]
   rw[B8,v,O j u,F i t,x i j t u,h.dec i j t u,P];exact C5x _ _ _
 . rcases s m b with b|rfl
   . have T:=h.zero m i b t λa d=>by have:=D a d;rwa[o a ω]at this
     have U:=h.zero m r b z λa d=>E a ω
     rw[w m b,x i _ t (h.qlt m b),T,U,sH,tC,wM,rL]
   . have X:i≠r:=by have:=D m (qV _);rwa[v]at this
     have W:∀a,a<m->i≠p a:=λa d=>by have:=D a ω;rwa[o a d]at this
     rw[y,x i c t B,Q i t X W,tZ,tO,wD _ J,tR,tC,g4t]
 . rcases s m b with b|rfl
   . rw[o m b,w m b,N m _ b (h.qlt m b)];exact h.piv m b
   . rw[v,y,O c B];exact J
 . rcases s m b with b|rfl
   . rw[o a ω,M _ m (h.plt a ω) b];exact h.low a m ω b V
   . rcases s a d with d|rfl
     . rw[o a d,F _ (h.plt a d)];exact H a d
     . rw[v,F r z];exact G
def Yb.dot (h:Yb n k A p q R Lo) (x:Nat->Rat) {i:Nat} (a:i<n):B8 n (λj=>A i j*x j)=B8 k (λm=>Lo i m*dot n (R (p m)) x)+Go.Proofs.YtknoakmaeleclaaGreat.dot n (R i) x:=by
 rw[<-C3r n k (Lo i) (λm=>R (p m)) (R i) x];exact A4 λj b=>by rw[h.dec i j a b]
def Yb.stuck (h:Yb n k A p q R Lo) {c:Nat} (z:c<n) (B:∀a,a<k->c≠q a) (E:∀i,i<n->(∀a,a<k->i≠p a)->R i c=0):¬nonsing n A:=by
 have G:∀t,t<=k->∃x:Nat->Rat,x c=1/\(∀j,j≠c->(∀m,m<k->j≠q m)->x j=0)/\∀m,k-t<=m->m<k->Go.Proofs.YtknoakmaeleclaaGreat.dot n (R (p m)) x=0:=by
  intro t
  induction t with
  |zero=>exact λ_=>⟨λj=>if j=c then 1 else 0,qN rfl,λj b _=>qG b,λm f hmk=>ω⟩
  |succ t F=>
   intro J;obtain⟨x,r,s,l⟩:=F ω;have f:k-(t+1)<k:=ω
   generalize I:k-(t+1)=b at f;have v:∀(u:Nat->Rat) (d:Rat),Go.Proofs.YtknoakmaeleclaaGreat.dot n u (λj=>x j+if j=q b then d else 0)=Go.Proofs.YtknoakmaeleclaaGreat.dot n u x+u (q b)*d:=λu d=>by
    unfold Go.Proofs.YtknoakmaeleclaaGreat.dot;rw[A4 (g:=λj=>u j*x j+u j*if j=q b then d else 0) λj _=>Rat.mul_add _ _ _,Q8];congr 1;rw[D5 (h.qlt b f) λj _ o=>by rw[qG o,sH],qN rfl]
   refine⟨λj=>x j+if j=q b then-(Go.Proofs.YtknoakmaeleclaaGreat.dot n (R (p b)) x)/R (p b) (q b)else 0,?_,λj o hq=>?_,λm h1 h2=>?_⟩
   . show x c+(if c=q b then _ else 0)=1;rw[qG (B b f),r,rL]
   . show x j+(if j=q b then _ else 0)=0;rw[qG (hq b f),s j o hq,rL]
   . rw[v];by_cases w:m=b
     . subst w;have:=h.piv m h2;rw[tZ,yK,tO,wD _ this,tR,g4t]
     . rw[l m ω h2,h.zero b (p m) f (h.plt m h2) λa H e=>by have:=h.pinj m a h2 ω e;omega,rZ,rL]
 obtain⟨x,r,s,l⟩:=G k (qV _);intro D;have y:∀i,i<n->B8 n (λj=>A i j*x j)=0:=λi hi=>by
  rw[h.dot x hi,N4 λm b=>by rw[l m ω b,sH],sR];by_cases o:∃a,a<k/\i=p a
  . obtain⟨a,f,rfl⟩:=o;exact l a ω f
  . refine N4 λj F=>?_
    by_cases v:j=c
    . rw[v,E i hi λa f e=>o ⟨a,f,e⟩,rZ]
    . by_cases w:∃m,m<k/\j=q m
      . obtain⟨m,b,rfl⟩:=w;rw[h.zero m i b hi λa f e=>o ⟨a,ω,e⟩,rZ]
      . rw[s j v λm b e=>w ⟨m,b,e⟩,sH]
 have:=D x y c z;rw[r]at this;exact absurd this δ
def Yb.nonsing (h:Yb n n A p q R Lo):nonsing n A:=by
 intro x k;have l:∀a,a<n->Go.Proofs.YtknoakmaeleclaaGreat.dot n (R (p a)) x=0:=by
  intro a
  induction a using Nat.strongRecOn with
  |ind a r=>
   intro c;have d:=k (p a) (h.plt a c);rw[h.dot x (h.plt a c),N4 λm g=>?_,sR]at d
   . exact d
   . by_cases j:m<a
     . rw[r m j g,sH]
     . rw[h.low a m c g ω,rZ]
 have o:∀t b,t<n->b=n-1-t->x (q b)=0:=by
  intro t
  induction t using Nat.strongRecOn with
  |ind t r=>
   intro b y i;have c:b<n:=ω
   have d:=l b c;unfold Go.Proofs.YtknoakmaeleclaaGreat.dot at d;rw[D5 (h.qlt b c) λs f g=>?_]at d
   . exact(yN.1 d).resolve_left (h.piv b c)
   . obtain⟨m,j,rfl⟩:=Mv h.qlt h.qinj f;by_cases v:m<b
     . rw[h.zero m (p b) j (h.plt b c) λa u e=>by have:=h.pinj b a c ω e;omega,rZ]
     . have w:m≠b:=λe=>g (by rw[e])
       rw[r (n-1-m) ω m ω ω,sH]
 intro s f;obtain⟨b,i,rfl⟩:=Mv h.qlt h.qinj f;exact o (n-1-b) b ω ω
def Yb.prod (h:Yb n n A p q R Lo) {a b:Nat} (c:a<n) (d:b<n):A (p a) (q b)=B8 n λm=>(Lo (p a) m+if m=a then 1 else 0)*R (p m) (q b):=by
 rw[h.dec _ _ (h.plt a c) (h.qlt b d),A4 (f:=λm=>(Lo (p a) m+if m=a then 1 else 0)*R (p m) (q b)) (g:=λm=>Lo (p a) m*R (p m) (q b)+(if m=a then 1 else 0)*R (p m) (q b)) λm _=>g3w _ _ _,Q8];congr 1;rw[D5 c λm _ i=>by rw[qG i,rZ],qN rfl,tG]
end
def B7i {n k:Nat} (a:k<n) (A:Mt):det n (P3 A k λ_=>0)=0:=by
 have h:=Lw a A (-1) (λ_=>0) (λ_=>0);rw[show(λj:Nat=>(-1:Rat)*(λ_:Nat=>(0:Rat)) j+(λ_:Nat=>(0:Rat)) j)=λ_=>0 from by funext j;simp only;grind]at h;grind
def A0y {n k:Nat} (a:k<n) (A:Mt) (x:Nat->Rat):∀m,det n (P3 A k λi=>B8 m λj=>x j*A j i)=B8 m λj=>x j*det n (P3 A k (A j))
 |0=>by simp only[B8];exact B7i a A
 |m+1=>by
  have h:=Lw a A (x m) (A m) (λi=>B8 m λj=>x j*A j i);rw[B8, <-A0y a A x m,g1k, <-h];congr 2;funext i;rw[B8,g1k]
def C8d {n k:Nat} {M:Mt} {x c:Nat->Rat} (b:k<n) (h:∀i,i<n->B8 n (λj=>M i j*x j)=c i):det n (λi j=>if j=k then c i else M i j)=x k*det n M:=by
 have f:det n (λi j=>if j=k then c i else M i j)=det n (P3 (tr M) k λi=>B8 n λj=>x j*tr M j i):=by
  rw[<-A6h];refine M9 λi j g a=>?_
  show(if i=k then c j else M j i)= _;unfold P3 tr;split
  . rw[<-h j a];exact A4 λl _=>yK _ _
  . rfl
 rw[f,A0y b,D5 b λj a d=>by rw[A9q (M:=P3 (tr M) k (tr M j)) b a (Ne.symm d) λl _=>by rw[F9,D7 d],sH],Mp λ_=>rfl,A6h]
section
variable {n T:Nat} {M L U:Nat->Nat->Rat} {c z x:Nat->Rat}
def B6k {i j:Nat} (h:j<n):Gm n M c i j=M i j:=qN h
def C7r {i:Nat} :Gm n M c i n=c i:=qG (tH n)
def C1i (a:Zh n (n+1) (Gm n M c) T) (l:det n M≠0) (r:∀i,i<n->B8 n (λj=>M i j*x j)=c i) {k:Nat} (o:k<n):qs (T+T) (x k):=by
 have f:=a n (λi=>i) (λj=>if j=k then n else j) (qV _) (uH _) (λ_ h=>h) λb hb=>by(try simp only);split<;>omega
 have g:=a n (λi=>i) (λj=>j) (qV _) (uH _) (λ_ h=>h) λb hb=>ω
 rw[show det n (λa b=>Gm n M c ((λi=>i) a) ((λj=>if j=k then n else j) b))=det n (λi j=>if j=k then c i else M i j)from M9 λi j _ d=>by
  by_cases e:j=k
  . simp only[e,wN];exact C7r
  . simp only[qG e];exact B6k d,C8d o r]at f
 rw[show det n (λa b=>Gm n M c ((λi=>i) a) ((λj=>j) b))=det n M from M9 λi j _ d=>B6k d]at g;have:=AW f g;rw[tZ,tO,vS _ l,tR]at this;exact this
end
def C9e {R C D N l:Nat} {A:Nat->Nat->Rat} (g:D≠0) (y:R<=4294967296) (u:(nc D).length<=l) (v:(nc N).length<=l) (h:∀i j,i<R->j<C->bd D N (A i j)):Zh R C A (R*(l+1)+1):=λk x f t _ w r=>by
 generalize d:(4294967296:Nat)=b at*;have o:1<b:=ω
 have lt:∀ {n:Nat},(nc n).length<=l->n<=b^l:=λ{n} hn=>by
  rw[<-d];exact qY (vX (Eu n)) (rR δ hn)
 have len:∀ {n m:Nat},n<=b^m->(nc n).length<=m+1:=λ{n m} hn=>Ds (by rw[d];exact wC hn (zA o (rM m)))
 have s:=A5x (k:=k) (M:=λa b=>A (x a) (f b)) λi j hi hj=>h _ _ (w i hi) (r j hj)
 have z:k*(l+1)<=R*(l+1):=rD _ t;refine C6t s (g4e.1 (tP (sX g))) ?_ ?_
 . have c:D^k<=b^(l*k):=by rw[yG];exact g1g (lt u) k
   refine qY (len c) ?_;have:l*k<=k*(l+1):=by rw[sF];exact sC _ (uH _)
   omega
 . have c:fct k*N^k<=b^(k*(l+1)):=by
    rw[show k*(l+1)=k+l*k from by rw[sY,xG,sF k l,vV],tY,yG];exact uM (A6k ω) (g1g (lt v) k)
   exact qY (len c) ω
abbrev S0:Nat:=128
abbrev KT:Nat:=70000
abbrev KA:Nat:=140000
abbrev KF:Nat:=300000
abbrev S1:Nat:=1048576
def Lb (N:Iq):Prop:=N.1<=10/\N.2.length<=20/\GG S0 N.2
def BH (n m:Nat) (f:Nat->Nat->Rat):List (List B7):=(List.range n).map λi=>Cb m (f i)
def zN:Iq:=(0,[])
def Em:List Io:= [(0,1,rc 1,zr),(1,2,rc 1,zr),(0,2,rc 1,zr)]
def X1 (E:List Io) (S:List B7):List Io:=(List.range E.length).map λi=>((E.getD i dB).1,(E.getD i dB).2.1,(E.getD i dB).2.2.1,S.getD i zr)
def woE (E:List Io) (g:Wf):List Io:=((List.range E.length).filter fun(i:Nat)=>decide ((i:Int)∉g)).map λi=>((E.getD i dB).1,(E.getD i dB).2.1,rc (Fh E i),rc (Sb E i))
def A6d (E:List Io):Prop:=∀e∈E,e.2.2.1=rc (rv e.2.2.1)/\e.2.2.2=rc (rv e.2.2.2)
abbrev OFV:=Wf×U8
def hG (F:TFV) (E:List Io) (l k:Nat):Rat:=B6 (F.2.1.2.2.getD l []) (W8 E k:Int)-B6 (F.2.1.2.2.getD l []) (W7 E k:Int)
def Ra (f:OFV):Prop:=D4 f.2/\f.2.2.1=(f.1.length:Int)/\(f.1.length=1\/f.1.length=2)/\f.1.Pairwise (· < ·)/\∀k∈f.1,0<=k/\k<f.2.1
instance (f:OFV):Decidable (Ra f):=by unfold Ra;infer_instance
def B2b (f:OFV) (x:Nat->Rat) (l:Nat):Rat:=x l+B8 f.1.length (λc=>el f.2 l c*x (ix f.1 c))
end Go.Proofs.YtknoakmaeleclaaGreat
namespace Go.Gw
open Go Go.RowKit Go.ChangeShapes Go.WideShapes Go.ChangeAt
section
variable {H:Type} {enc:TypeId×Value->H} {P:Program}
def HH (g:laidOutB P=true) {W W':World} {sp:Nat->Bool} (f:R8 W W'):∀(ts:List TypeId) (vs:List Value) (c:List (DataW H)) (b:List MemPlace),
 (∀t∈ts,P.readableRec t=true/\t<P.types.size)->DataW.TrodAll enc P W 0 (λ_=>true) true ts vs c b->(∀x∈b,x.block<W.heap.size)->(∀x∈b,sp x.block=true)->DataW.TrodAll enc P W' 0 sp true ts vs c b
 | [],vs,c,b,_,h,_,_=>by
  cases vs<;>cases c<;>simp[DataW.TrodAll]at h|-;exact h
 |t::ts,vs,c,b,d,k,h,i=>by
  obtain⟨v,o,r,j,p,q,rfl,rfl,rfl,l,n⟩:=trodAll_cons k;refine trodAll_cons_mk ?_ (HH g f ts o j q (λx a=>d x (by simp[a])) n (λx a=>h x (by simp[a])) (λx a=>i x (by simp[a])));exact WideElems.Trod_stays g (d t (by simp)).1 (d t (by simp)).2 l (λx a=>f.same (h x (by simp[a]))) (λx a=>i x (by simp[a]))
def C0s (w:laidOutB P=true) {f:Func} {s:ChangeSpec} {W W':World} {args:Array Value} {b o:List (DataW H)} {a:List MemPlace} {n:TypeId}
 (d:DataW.Whole enc P f.params.toList s.vars false W args.toList b o a) (l:s.vars= []) (z:f.resultTypes= #[n]) (A:P.underlying n=some .bool)
 (g:s.fn H b= {results:= [.lit (.bool true)],args:=b}) (y:∀t∈f.params.toList,P.readableRec t=true/\t<P.types.size) (i:R8 W W'):
 s.post enc P f false true false false W args (.bool true) W':=by
 have j:∀p∈a,p.block<W.heap.size:=λp hp=>d.lt p hp
 have v:=d;obtain⟨p,q,u,h,k,_,_⟩:=d;rw[l]at h;obtain⟨rfl,rfl⟩:=trodVars_none h;rw[vD]at k;subst k;refine⟨b,[],a,[],a,[],v,?_,?_,?_,?_,λr=>by cases r⟩
 . rw[vD,g,z];exact trodAll_mk1 (shut_bool A _)
 . rw[vD,g];exact HH w i _ _ _ _ y u j (λx c=>by simpa using j x c)
 . rw[vD,g,l];rfl
 . refine World.keptBut_mono ?_ (i.frame (· ∈a));intro x c;exact⟨c, .inr (.inl c)⟩
end
end Go.Gw
namespace Go.Vc
open Go Go.RowKit Go.Gw Go.ChangeShapes Go.WideShapes Go.ChangeAt
def A2i (P:Program):Nat->TypeId->Ty->Bool
 |0,_,_=>false
 |n+1,T,a=>match P.underlying T with
  |some (.int k)=>(match a with| .int k'=>decide (k=k') | _=>false)
  |some .bool=>(match a with| .bool=>true| _=>false)
  |some .string=>(match a with| .str=>true| _=>false)
  |some (.slice e)=>(match a with| .sl t=>A2i P n e t&&Nat.beq (P.cellsOf e) t.size&&Nat.ble 1 t.size| _=>false)
  |some (.struct b)=>mW P (A2i P n) b.toList 0 a&&Nat.beq (P.cellsOf T) a.size
  |some (.array k e)=>mU (A2i P n e) (P.cellsOf e) k a&&Nat.beq (P.cellsOf T) a.size
  | _=>false
section
variable {H:Type} {α:Type} {enc:TypeId×Value->H} {P:Program} {W:World}
def cells?_at {b:Nat} {a:Addr} {n:Nat} {cs:List Value} (h:W.cells? b a n=some cs):cs.length=n/\J4 W a cs:=by
 obtain⟨_,d,c⟩:=World.cells?_some h;exact⟨d,λj v b=>by have:=c j (by have:=TF b;omega);rw[this];exact b⟩
def B5a {a:Addr} {v:Value} (h:W.cell? a=some v):a.spot=none:=by
 unfold World.cell? at h;split at h
 . cases b:a.spot with
   |none=>rfl
   |some _=>simp[b]at h
 . cases h
def ZG {R:List Value->α->Prop} {b o sz:Nat} :∀(len:Nat),(∀i,i<len->∃a y,a.length=sz/\J4 W ⟨b,o+i*sz,none⟩ a/\R a y)->∃a l,l.length=len/\a.length=len*sz/\J4 W ⟨b,o,none⟩ a/\G3 R a l
 |0,_=>⟨[],[],rfl,by simp,λj v c=>by simp at c,rfl⟩
 |len+1,h=>by
  obtain⟨a,l,r,f,s,t⟩:=ZG (R:=R) (b:=b) (o:=o) (sz:=sz) len (λi hi=>h i ω);obtain⟨d,y,g,k,n⟩:=h len ω;refine⟨a++d,l++ [y],by simp[r],by rw[rQ,f,g,uI],λj v c=>?_,t.append ⟨d,[],by simp,n,rfl⟩⟩;rw[List.getElem?_append]at c;split at c
  . exact s j v c
  . rename_i u;have:=k _ v c;rw[L5]at this|-;rw[f]at this u;rw[(ω:o+len*sz+(j-len*sz)=o+j)]at this;exact this
def B0j {n:Nat} {r:TypeId->Ty->Bool} {Z:Nat->Prop} {cs:List Value} (c:∀ {T:TypeId} {ty:Ty} {cs:List Value} {x:DataW H×List MemPlace},r T ty=true->DataW.trod enc P W 0 (λ_=>true) true n T cs=some x->∃y,C6 ty W Z cs y):
 ∀ {b:List Field} {off:Nat} {ty:Ty},mW P r b off ty=true->(∀f∈b,∃x,DataW.trod enc P W 0 (λ_=>true) true n f.type ((cs.drop f.offset).take (P.cellsOf f.type))=some x)->cs.length=off+ty.size->∃y,C6 ty W Z (cs.drop off) y
 | [],off,ty,h,d,a=>by
  cases ty<;>simp[mW]at h;exact⟨(),by rw[sI (by simp[Ty.size]at a;omega)];rfl⟩
 | [f],off,ty,h,d,i=>by
  have a:(Nat.beq f.offset off&&r f.type ty&&Nat.beq (P.cellsOf f.type) ty.size)=true:=by cases ty<;>exact h
  simp only[qC]at a;obtain⟨x,d⟩:=d f (by simp);obtain⟨y,g⟩:=c a.1.2 d;rw[qE a.1.1,qE a.2,qW (by rw[sU];omega)]at g;exact⟨y,g⟩
 |f::v::b,off,ty,h,d,o=>by
  cases ty<;>simp only[mW]at h<;>try cases h
  rename_i a u;simp only[qC]at h;obtain⟨⟨⟨i,j⟩,k⟩,l⟩:=h;obtain⟨x,s⟩:=d f (by simp);obtain⟨y,g⟩:=c j s;rw[qE i,qE k]at g;obtain⟨z,t⟩:=B0j c l (λq hq=>d q (qO _ hq)) (by rw[o];simp only[Ty.size];omega);exact⟨(y,z),(cs.drop off).take a.size,cs.drop (off+a.size),by rw[<-vZ,uS],g,t⟩
def B0h {n:Nat} {r:TypeId->Ty->Bool} {Z:Nat->Prop} {cs:List Value} {e:TypeId} {sz:Nat} (c:∀ {T:TypeId} {ty:Ty} {cs:List Value} {x:DataW H×List MemPlace},r T ty=true->DataW.trod enc P W 0 (λ_=>true) true n T cs=some x->∃y,C6 ty W Z cs y):
 ∀ {k i:Nat} {ty:Ty},mU (r e) sz k ty=true->(∀j,j<k->∃x,DataW.trod enc P W 0 (λ_=>true) true n e ((cs.drop ((i+j)*sz)).take sz)=some x)->cs.length=i*sz+ty.size->∃y,C6 ty W Z (cs.drop (i*sz)) y
 |0,i,ty,h,b,a=>by
  cases ty<;>simp[mU]at h;exact⟨(),by rw[sI (by simp[Ty.size]at a;omega)];rfl⟩
 |1,i,ty,h,a,f=>by
  have b:(r e ty&&Nat.beq ty.size sz)=true:=by cases ty<;>exact h
  simp only[qC]at b;obtain⟨x,a⟩:=a 0 ω;rw[tS]at a;obtain⟨y,d⟩:=c b.1 a;have:=qE b.2;rw[qW (by rw[sU];omega)]at d;exact⟨y,d⟩
 |k+2,i,ty,h,g,u=>by
  cases ty<;>simp only[mU]at h<;>try cases h
  rename_i a v;simp only[qC]at h;obtain⟨⟨s,b⟩,t⟩:=h;obtain⟨x,l⟩:=g 0 ω;rw[tS]at l;obtain⟨y,d⟩:=c s l;have b:=qE b;have d:C6 a W Z ((cs.drop (i*sz)).take a.size) y:=by rw[b];exact d
  have f:(i+1)*sz=i*sz+a.size:=by rw[uI,b]
  obtain⟨z,o⟩:=B0h c (i:=i+1) t (λj hj=>by
   have:=g (j+1) ω;rw[(ω:i+(j+1)=i+1+j)]at this;exact this) (by rw[u,f];simp only[Ty.size];omega)
  rw[f]at o;exact⟨(y,z),(cs.drop (i*sz)).take a.size,cs.drop (i*sz+a.size),by rw[<-vZ,uS],d,o⟩
def XI:∀ {m n:Nat} {T:TypeId} {ty:Ty} {cs:List Value} {x:DataW H×List MemPlace},A2i P m T ty=true->DataW.trod enc P W 0 (λ_=>true) true n T cs=some x->∃y,C6 ty W (λb=>b<W.heap.size) cs y
 |0,_,_,_,_,_,h,_=>by cases h
 |m+1,n,T,ty,cs,x,h,c=>by
  simp only[A2i]at h;split at h
  . rename_i a4 a;cases ty<;>simp only at h<;>try cases h
    rename_i af;have:=qA h;subst this;obtain⟨ab,e,_,J⟩:=DataW.trod_int a c;exact⟨ab,e,by simp only[Lit.wf,qC,rS]at J;exact J⟩
  . rename_i a;cases ty<;>simp only at h<;>try cases h
    obtain⟨b,e,_⟩:=DataW.trod_bool a c;exact⟨b,e⟩
  . rename_i a;cases ty<;>simp only at h<;>try cases h
    obtain⟨a8,e,_⟩:=DataW.trod_string a c;exact⟨a8,e⟩
  . rename_i e a;cases ty<;>simp only at h<;>try cases h
    rename_i t;simp only[qC]at h;have a0:=qE h.1.2;rcases DataW.trod_slice a c with⟨s,_⟩ | ⟨k,len,A,ZF,ag,q,G,s,_,_,ad,E,ac,X,_⟩
    . exact⟨[],none,0,s,qV _,rP _,λ_=>rfl, .inl rfl⟩
    . by_cases O:len=0
      . subst O;exact⟨[],some k,A,s,rP _,E,λg=>(by cases g), .inl rfl⟩
      . have F:∀i,i<len->∃d y,d.length=t.size/\J4 W (k.add (i*t.size)) d/\C6 t W (λb=>b<W.heap.size) d y:=λi r=>by
         have D:=X i r;rw[qL ω,a0]at D;obtain⟨d,V,Y⟩:=g2j.1 D;obtain⟨B,u⟩:=cells?_at V;obtain⟨y,a3⟩:=XI (m:=m) h.1.1 Y;exact⟨d,y,B,u,a3⟩
        obtain⟨M,ai,B,u,_⟩:=F 0 ω;have ae:=qQ h.2;obtain⟨a9,a1⟩:=C3t (l:=M) (i:=0) ω;have v:=u 0 a9 a1;have Q:(k.add (0*t.size)).add 0=k:=by simp[Addr.add]
        rw[Q]at v;have I:=B5a v;obtain⟨b,o,ah⟩:=k;simp only at I;subst I;have U:b<W.heap.size:=block_lt_of_cell v;obtain⟨d,l,a5,_,a6,a7⟩:=ZG (R:=C6 t W (λb=>b<W.heap.size)) (b:=b) (o:=o) (sz:=t.size) len (λi r=>by
         obtain⟨d,y,V,D,Y⟩:=F i r;rw[L5]at D;exact⟨d,y,V,D,Y⟩)
        exact⟨l,some ⟨b,o,none⟩,A,by rw[s,a5],ω,E,λg=>(by cases g), .inr ⟨b,o,d,rfl,U,a6,a7⟩⟩
  . rename_i N a;simp only[qC]at h;obtain⟨aa,q,G,_,z,a2,w⟩:=DataW.trod_struct a c;have:=B0j (enc:=enc) (P:=P) (W:=W) (n:=q) (Z:=λb=>b<W.heap.size) (cs:=cs) (λg c=>XI (m:=m) g c) h.1 (λf hf'=>by
     obtain⟨i,r,V⟩:=zJ hf';have Y:i<N.size:=by simpa using r
     have D:=w i f (by rw[uX Y];simpa using V);rw[qL ω]at D;exact⟨_,D⟩) (by rw[z,qE h.2];omega)
    simpa using this
  . rename_i a4 e a;simp only[qC]at h;obtain⟨aa,q,G,_,z,a2,w⟩:=DataW.trod_array a c;have:=B0h (enc:=enc) (P:=P) (W:=W) (n:=q) (Z:=λb=>b<W.heap.size) (cs:=cs) (e:=e) (i:=0) (λg c=>XI (m:=m) g c) h.1 (λj hj=>by
     have D:=w j hj;rw[qL ω]at D;rw[sG];exact⟨_,D⟩) (by rw[z,qE h.2];omega)
    simpa using this
  . cases h
end
def iB (c:Bool) (A B:Prop):Prop:=(c=true->A)/\(c=false->B)
def C7m (P:Program) (T:TypeId) (a:Bool):Bool:=match P.underlying T with
 |some (.struct _)=>a
 |some (.array _ _)=>false
 | _=> !a
def lR (P:Program):List TypeId->List AM->Bool
 | [],[]=>true
 |T::b, .val a c::as=>A2i P 40 T c&&C7m P T a&&lR P b as
 | _,_=>false
section
variable {H:Type} {enc:TypeId×Value->H} {P:Program} {W:World}
def C0g {m:Nat} {T:TypeId} {ty:Ty} {a:Bool} {r:Reach} {b0:Nat} {v:Value} {d:DataW H} {p:List MemPlace} (h:A2i P m T ty=true) (f:C7m P T a=true) (g:Value.okWide P W r b0 T v) (j:DataW.Trod enc P W 0 (λ_=>true) true T v d p):
 ∃y,Cy a ty W (λb=>b<W.heap.size) v y:=by
 obtain⟨n,j⟩:=j;obtain⟨y,i⟩:=XI h j;refine⟨y,?_⟩;cases m with
 |zero=>cases h
 |succ m=>
  simp only[A2i]at h;unfold C7m at f;split at h
  . rename_i o c;simp only[c,rO]at f;obtain⟨n,rfl⟩:=okWide_int c g;subst f;exact i
  . rename_i c;simp only[c,rO]at f;obtain⟨n,rfl⟩:=okWide_bool c g;subst f;exact i
  . rename_i c;simp only[c,rO]at f;obtain⟨n,rfl⟩:=okWide_string c g;subst f;exact i
  . rename_i e c;simp only[c,rO]at f;obtain⟨s,t,u,rfl⟩:=okWide_slice c g;subst f;exact i
  . rename_i l c;simp only[c]at f;obtain⟨k,rfl,_⟩:=okWide_struct c g;subst f;exact⟨k.toList,by simp,i⟩
  . rename_i c;simp only[c]at f;cases f
  . cases h
def jN {r:Reach} {b0:Nat} :∀ {ts:List TypeId} {as:List AM} {vs:List Value} {a:List (DataW H)} {c:List MemPlace},lR P ts as=true->DataW.TrodAll enc P W 0 (λ_=>true) true ts vs a c->(∀(j:Nat) (t:TypeId) (v:Value),ts[j]? =some t->vs[j]? =some v->Value.okWide P W r b0 t v)->∃x,Bl P W (λb=>b<W.heap.size) as vs x
 | [],[],vs,a,c,_,h,_=>by
  cases vs with
  |nil=>exact⟨(),rfl⟩
  |cons _ _=>cases a<;>exact h.elim
 | [],_:: _,_,_,_,h,_,_=>by cases h
 | _:: _,[],_,_,_,h,_,_=>by cases h
 |T::ts, .row _ _:: _,_,_,_,h,_,_=>by cases h
 |T::ts, .box _ _:: _,_,_,_,h,_,_=>by cases h
 |T::ts, .fn _ _ _:: _,_,_,_,h,_,_=>by cases h
 |T::ts, .rows _ _ _:: _,_,_,_,h,_,_=>by cases h
 |T::ts, .val o A::as,vs,a,c,h,i,d=>by
  simp only[lR,qC]at h;obtain⟨v,n,s,w,p,q,rfl,rfl,rfl,f,g⟩:=trodAll_cons i;obtain⟨y,k⟩:=C0g h.1.1 h.1.2 (d 0 T v rfl rfl) f;obtain⟨z,l⟩:=jN h.2 g (λj t u ht hu=>d (j+1) t u (by simpa using ht) (by simpa using hu));exact⟨(y,z),v,n,rfl,k,l⟩
def nB (as:List AM):A6:= {args:=as,res:= [.val false .bool],pre:=λ_=>True,post:=λ_ r=>r.1=true}
def B3p {f:FuncId} {as:List AM} {vs:List Value} {x:A2 as} (c:Bq as=true) (g:A9 P f (nB as)) (h:Bl P W (λb=>b<W.heap.size) as vs x):Gw.Ret P f vs W λv W'=>v= .bool true/\R8 W W':=by
 refine(g W _ vs x (λ_ h=>h) h (by show Dis W (Q7 as vs);rw[DL c];trivial) trivial).mono λv l ⟨j,r,o,us,Zn,hpost,_,hv,_,hrep,_⟩=>⟨?_,j.ext (λb ⟨u,hu,_⟩=>by rw[show Q7 (nB as).args vs= []from DL c vs]at hu;cases hu)⟩
 obtain⟨u,k,e,a,_,d⟩:=hrep;rw[show k= []from d]at e;subst e;have a: [u]= [Value.bool r.1]:=a;have i:r.1=true:=hpost;rw[i]at a;rw[hv];simpa[BL]using a
def A2t {f:FuncId} {s:A6} (h:∀x,¬s.pre x):A9 P f s:=λ_ _ _ x _ _ _ a=>absurd a (h x)
def A1:Ur P []:=λ_ _ h=>by cases h
def A0 {f:FuncId} {s:A6} {l:H7} (c:A9 P f s) (d:Ur P l) (i:s.inl=none:=by rfl):Ur P ((f,s)::l):=λg t h=>by
 unfold Ez at h;cases a:Nat.beq f g with
 |true=>
  rw[a]at h;obtain rfl:=qE a;obtain rfl:s=t:=by simpa using h
  exact⟨c,λj b=>by rw[i]at b;cases b⟩
 |false=>rw[a]at h;exact d g t h
def Bf {f:FuncId} {run:Inl} {l:H7} (b:XS P f run) (c:Ur P l):Ur P ((f,Df run)::l):=λg t h=>by
 unfold Ez at h;cases a:Nat.beq f g with
 |true=>
  rw[a]at h;obtain rfl:=qE a;obtain rfl:Df run=t:=by simpa using h
  exact⟨λ_ _ _ _ _ _ _ d=>d.elim,λr i=>by cases i;exact b⟩
 |false=>rw[a]at h;exact c g t h
def Ae:A9c P []:=λ_ h=>by cases h
def K6 {d:Nat} {sp:H7} {an:An} {l:List (Nat×H7×An)} (b:Ur P sp) (c:A9c P l):A9c P ((d,sp,an)::l):=λx a=>by
 rcases qS.1 a with rfl|a
 . exact b
 . exact c x a
end
open Go Go.RowKit Go.Gw
def ES (g:FuncId) (t:Ty) (e:TypeId) (φ:t.den->t.den->Int) (_:Nat) (b:St) (ss:List SV) (k:St->List SV->Prop):Prop:=
 match ss with
 | [⟨false,[.row q]⟩,⟨false,[.fn a []]⟩]=>bif Nat.beq a g then(match Xi b t e q with
  |some l=>l.length<=100000/\∀a:List t.den,(Ty.sl t).wf a->a.Perm l->a.Pairwise (λc d=>¬φ d c<0)->k (addM [.row t e] (a,()) [q] (dropM b [q])) []
  |none=>False)else False
 | _=>False
def B4z (g:FuncId) (t:Ty) (e:TypeId) (φ:t.den->t.den->Int) {a:St} {d:Nat} {ss:List SV} {k k':St->List SV->Prop} (h:ES g t e φ d a ss k) (f:∀b c,C3 a b->k b c->k' b c):ES g t e φ d a ss k':=by
 unfold ES at h|-;split at h
 . obtain⟨a,h⟩:=B9 h;rw[a,qX];split at h
   . exact⟨h.1,λi c a b=>f _ _ ((C3.dropM _ _).trans (C3.addM _ _ _ _)) (h.2 i c a b)⟩
   . exact h.elim
 . exact h.elim
def B1s (g:FuncId) (t:Ty) (e:TypeId) (φ:t.den->t.den->Int):Inl:= {run:=ES g t e φ,step:=B4z g t e φ}
def Cr (t:Ty) (e:TypeId) (φ:t.den->t.den->Int):A6:=
 { args:= [.row t e],res:= [],shared:=true,pre:=λ_=>True,post:=λ_ _=>True,mpost:=fun(x:List t.den×Unit) _ (o:List t.den×Unit)=>o.1.Perm x.1/\o.1.Pairwise λa b=>¬φ b a<0}
def A9f (P:Program) (f g:FuncId) (t:Ty) (e:TypeId) (φ:t.den->t.den->Int):Prop:=
 ∀(w:World) (Z:Nat->Prop) (v:Value) (l:List t.den),(∀b,Z b->b<w.heap.size)->gN P w Z (.row t e) v l->l.length<=100000->B6f P f (Cr t e φ) [v, .func (.func g) #[] #[]] w Z (l,())
def A8j {P:Program} {tys:List (Nat×TI)} {f g:FuncId} {t:Ty} {e:TypeId} {φ:t.den->t.den->Int} (y:A9f P f g t e φ):XS P f (B1s g t e φ):=by
 refine {go:= ?_};intro aj ai k E A Z B H a5 vs a4 aa n Y ab b;replace b:ES g t e φ H k a5 a4:=b;unfold ES at b;split at b
 . rename_i q D;obtain⟨O,w⟩:=B9 b;clear b;obtain rfl:=qE O;split at w
   . rename_i ac a;obtain⟨Q,V⟩:=w;obtain⟨a7,af,rfl,I,a8,ag,rfl,J,rfl⟩:=Y;have h:a7=B q:=by
      obtain⟨u,G,h,i,l⟩:=I;cases h;exact i
     have i:a8= .func (.func D) #[] #[]:=by
      obtain⟨u,G,h,i,l⟩:=J;cases h;exact i
     subst h i;have F:=n.locs q;have j:∃d,∃c,∃l':List d.den,k.L q= .row d c l':=by
      unfold Xi at a;split at a
      . exact⟨_,_,_,by assumption⟩
      . cases a
     obtain⟨d,c,z,j⟩:=j;unfold Xi at a;rw[j]at a F;simp only at a;split at a
     . rename_i a1;subst a1;cases v:Nat.beq c e with
       |false=>simp[v]at a
       |true=>
        simp only[v,qX,rF]at a;obtain rfl:=qE v;subst a;obtain⟨a9,T,N,M⟩:=F;have W:gN P A Z (.row d c) (B q) z:=⟨a9,T,N,λl u=>(M l u).2⟩;have X:=y A Z (B q) z n.zlt W Q;have R:live (k.L q):=by rw[j];trivial
        have a3:lz A k [q] B Z true=Z:=by funext l;simp[lz]
        have:=PW (cx:=⟨P,tys⟩) (s:=Cr d c φ) (x:=(z,())) (vs:= [B q, .func (.func D) #[] #[]]) (mu:= [q]) n (by rw[show(Cr d c φ).shared=true from rfl,a3];exact X) rfl
         ⟨⟨rfl,λl u=>by rw[j];exact u⟩,trivial⟩ (by simp) (λad G=>by simp at G;subst G;exact R)
        refine Gw.Ret.mono this λae ah ⟨_,r,o,a6,_,how,_,hmp,hv,Z',B',h3,h4,_⟩=>?_
        obtain⟨U,a0⟩:=hmp rfl;have a2:a6= []:=h4;subst a2;exact⟨_,Z',B',[],[],h3,hv,rfl,λs y=>(by cases y),V o.1 how.1 U a0⟩
     . cases a
   . exact w.elim
 . exact b.elim
def A2k (e:TypeId) (a:List Int):A6:=
 { args:= [],res:= [.own (.int .i64) e],shared:=false,pre:=λ_=>True,post:=λ_ (r:List Int×Unit)=>r.1.Perm a/\r.1.Pairwise (· <= ·)}
def B1y.mono {P:Program} {w:World} {Z Z':Nat->Prop} {v:Value} {as:List (Bool×Ty)} {d:Bool} {r:Ty} {a:De as->Prop} {φ:De as->r.den} (h:B1y P w Z v as d r a φ) (f:∀b,Z b->Z' b):B1y P w Z' v as d r a φ:=
 RC.mono (B:=λ_=>v) (B':=λ_=>v) (n:=0) (c:= .fv P as d r a φ) f (λ_ _=>rfl) (λ_ _=>rfl) trivial h
def EZ (g:FuncId) (e:TypeId) (_:Nat) (b:St) (ss:List SV) (k:St->List SV->Prop):Prop:=
 match ss with
 | [⟨false,[.fn a [c]]⟩]=>bif Nat.beq a g then(match b.L c with
  | .box _ [.val (.sl (.int .i64)) a]=>(1<=List.length (α:=Int) a/\List.length (α:=Int) a<=100000)/\∀l:List Int,l.Perm (show List Int from a)->l.Pairwise (· <= ·)->k (b.newL (.row (.int .i64) e l)) [⟨false,[.row b.nx]⟩]
  | _=>False)else False
 | _=>False
def B5q (g:FuncId) (e:TypeId) {a:St} {d:Nat} {ss:List SV} {k k':St->List SV->Prop} (h:EZ g e d a ss k) (f:∀b c,C3 a b->k b c->k' b c):EZ g e d a ss k':=by
 unfold EZ at h|-;split at h
 . obtain⟨b,h⟩:=B9 h;rw[b,qX];split at h
   . exact⟨h.1,λl b c=>f _ _ (C3.place [.own (.int .i64) e] (l,()) a) (h.2 l b c)⟩
   . exact h.elim
 . exact h.elim
def pC (g:FuncId) (e:TypeId):Inl:= {run:=EZ g e,step:=B5q g e}
def C7l (P:Program) (f g:FuncId) (e:TypeId):Prop:=
 ∀(w:World) (Z:Nat->Prop) (a:Nat) (T:TypeId) (v:Value) (l:List Int),KN w a #[v] T->C6 (.sl (.int .i64)) w Z [v] l->1<=l.length->l.length<=100000->(∀b,Z b->b<w.heap.size)->
  B6f P f (A2k e l) [.func (.func g) #[] #[.pointer (some ⟨a,0,none⟩)]] w (λ_=>False) ()
def A8y {P:Program} {f g:FuncId} {e:TypeId} (Q:C7l P f g e):XS P f (pC g e):=by
 refine {go:= ?_};intro ad ac X E a6 Z B z W vs V a9 h O aa a;replace a:EZ g e z X W V:=a;unfold EZ at a;split at a
 . rename_i k v;obtain⟨I,i⟩:=B9 a;clear a;obtain rfl:=qE I;split at i
   . rename_i T w J;obtain⟨t,M⟩:=i;obtain⟨a0,ab,rfl,D,rfl⟩:=O;have d:a0= .func (.func k) #[] #[B v]:=by
      obtain⟨u,c,d,A,a8⟩:=D;cases d;exact A
     subst d;have l:=h.locs v;rw[J]at l;obtain⟨j,y,F,_,_,G,u,c,n,R,U⟩:=l;have H:y= #[u]:=by
      rw[show c= []from U]at n;apply g0o.1;rw[n]
     subst H;have N:=Q a6 Z j T u w G R t.1 t.2 h.zlt;rw[F];have:=PW (cx:=⟨P,[]⟩) (s:=A2k e w) (x:=()) (vs:= [.func (.func k) #[] #[.pointer (some ⟨j,0,none⟩)]]) (mu:= []) h (N.mono λY a7 ⟨hx,r,o,c,Zn,a1,a2,a3,a4,a5⟩=>⟨hx,r,o,c,Zn,a1,a2,a3,λb hb=>(a4 b hb).imp id λhh=>hh.2.elim,a5⟩) rfl trivial (by simp) (λq2 hq2=>by cases hq2);refine Gw.Ret.mono this λY a7 ⟨_,r,o,c,_,_,hpost,_,hv,Z',B',h4,h5,h6⟩=>?_
     exact⟨_,Z',B',_,c,h4,hv,h5,h6,M r.1 hpost.1 hpost.2⟩
   . exact i.elim
 . exact a.elim
end Go.Vc
namespace Go.Proofs.YtknoakmaeleclaaGreat
def EJ {s:Wf} {k:Nat} {v i:Int} (b:k<s.length):G7 (s.set k v) i=if i.toNat=k then v else G7 s i:=by
 unfold G7;simp only[qD,wJ];by_cases h:k=i.toNat
 . subst h;simp[b]
 . rw[qG h,qG (λa=>h a.symm)]
def UF.le {s:Wf} (h:UF s) {b:Int} (a:0<=b) (c:b<(s.length:Int)):0<=G7 s b/\G7 s b<=b:=by
 have:=h b.toNat ω;rw[(ω:((b.toNat:Nat):Int)=b)]at this;exact this
open Go.Vc Go.Gw
def Lab (L:Wf):Prop:=∀i:Int,0<=i->i<(L.length:Int)->0<=G7 L i/\G7 L i<=i/\G7 L (G7 L i)=G7 L i
def Gz (L:Wf) (l:Ln):(Ix L l).length=L.length:=by simp[Ix]
def EH {L:Wf} {i:Int} (a:0<=i) (b:i<(L.length:Int)):L[i.toNat]? =some (G7 L i):=by
 have:i.toNat<L.length:=ω
 unfold G7;rw[qD,qL this];rfl
def Ha {L:Wf} {l:Ln} {i:Int} (b:0<=i) (c:i<(L.length:Int)):G7 (Ix L l) i=if G7 L i=max (G7 L l.1) (G7 L l.2)then min (G7 L l.1) (G7 L l.2)else G7 L i:=by
 have a:=EH (L:=Ix L l) b (by rw[Gz];exact c);unfold Ix at a;rw[tL,EH b c]at a;simp only[wA,rF]at a;exact a.symm
def Pp (n:Int):(idL n).length=n.toNat:=by simp[idL]
def LV {n i:Int} (b:0<=i) (a:i<n):G7 (idL n) i=i:=by
 have a:=EH (L:=idL n) b (by rw[Pp];omega);unfold idL at a;rw[tL,uW ω]at a;simp only[wA,rF]at a;rw[show G7 (idL n) i= _ from a.symm];show((i.toNat:Nat):Int)=i;omega
def B0k (n:Int):Lab (idL n):=λi a b=>by
 rw[Pp]at b;rw[LV a ω,LV a ω];omega
def Lab.join {L:Wf} {l:Ln} (h:Lab L) (i:inB L.length l):Lab (Ix L l):=λj b a=>by
 rw[Gz]at a;obtain⟨c,d,f,g⟩:=i;obtain⟨i,k,n⟩:=h _ c d;obtain⟨c,d,i⟩:=h _ f g;obtain⟨c,d,f⟩:=h j b a;rw[Ha b a];have a:G7 L (min (G7 L l.1) (G7 L l.2))=min (G7 L l.1) (G7 L l.2):=by
  rcases(ω:min (G7 L l.1) (G7 L l.2)=G7 L l.1\/min (G7 L l.1) (G7 L l.2)=G7 L l.2)with e|e<;>rw[e]<;>assumption
 split
 . rename_i e;refine⟨ω,ω,?_⟩;rw[Ha ω ω,a];split<;>rfl
 . rename_i e;refine⟨c,d,?_⟩;rw[Ha c ω,f,qG e]
def aA (n:Int) (ls:List Ln):(S4 n ls).length=n.toNat:=by
 unfold S4;have:∀(ls:List Ln) (L:Wf),(ls.foldl Ix L).length=L.length:=by
  intro ls
  induction ls with
  |nil=>intro L;rfl
  |cons l ls a=>intro L;rw[yM,a,Gz]
 rw[this,Pp]
def A2m {n:Int} {ls:List Ln} (a:0<=n) (h:∀l∈ls,inB n l):Lab (S4 n ls):=by
 unfold S4;have:∀(ls:List Ln) (L:Wf),L.length=n.toNat->(∀l∈ls,inB n l)->Lab L->Lab (ls.foldl Ix L):=by
  intro ls
  induction ls with
  |nil=>intro L _ _ h;exact h
  |cons l ls c=>
   intro L b a h;rw[yM];refine c _ (by rw[Gz];exact b) (λx c=>a x (by simp[c])) (h.join ?_);have:=a l (by simp);rw[b,(ω:((n.toNat:Nat):Int)=n)];exact this
 exact this ls _ (Pp n) h (B0k n)
def A7a {L:Wf} {l:Ln} {u v:Int} (u0:0<=u) (u1:u<(L.length:Int)) (v0:0<=v) (v1:v<(L.length:Int)) (h:G7 L u=G7 L v):G7 (Ix L l) u=G7 (Ix L l) v:=by
 rw[Ha u0 u1,Ha v0 v1,h]
def B3n {L:Wf} {l:Ln} (f:inB L.length l):G7 (Ix L l) l.1=G7 (Ix L l) l.2:=by
 obtain⟨a,b,c,d⟩:=f;rw[Ha a b,Ha c d];split<;>split<;>omega
def ZS {n:Int} (b:0<=n) {u v:Int} (u0:0<=u) (u1:u<n) (v0:0<=v) (v1:v<n):∀(ls:List Ln) (L:Wf),L.length=n.toNat->G7 L u=G7 L v->G7 (ls.foldl Ix L) u=G7 (ls.foldl Ix L) v
 | [],_,_,h=>h
 |l::ls,L,a,h=>by
  rw[yM];exact ZS b u0 u1 v0 v1 ls _ (by rw[Gz];exact a) (A7a u0 ω v0 ω h)
def iL {n:Int} (f:0<=n) {l:Ln} :∀(ls:List Ln) (L:Wf),L.length=n.toNat->(∀l∈ls,inB n l)->l∈ls->G7 (ls.foldl Ix L) l.1=G7 (ls.foldl Ix L) l.2
 | [],_,_,_,h=>by cases h
 |x::ls,L,a,d,h=>by
  rw[yM];have j:=d x (by simp);rcases qS.1 h with rfl|h
  . obtain⟨b,g,c,i⟩:=j;exact ZS f b g c i ls _ (by rw[Gz];exact a) (B3n (by rw[a];exact⟨b,ω,c,ω⟩))
  . exact iL f ls _ (by rw[Gz];exact a) (λy k=>d y (by simp[k])) h
def iW {n:Int} {ls:List Ln} (b:0<=n) (a:∀l∈ls,inB n l) {l:Ln} (h:l∈ls):G7 (S4 n ls) l.1=G7 (S4 n ls) l.2:=iL b ls _ (Pp n) a h
def iK {α:Type} {n:Int} (s:0<=n) {f:Int->α} :∀(ls:List Ln) (L:Wf),L.length=n.toNat->Lab L->(∀l∈ls,inB n l/\f l.1=f l.2)->(∀i:Int,0<=i->i<n->f (G7 L i)=f i)->∀i:Int,0<=i->i<n->f (G7 (ls.foldl Ix L) i)=f i
 | [],_,_,_,_,h=>h
 |l::ls,L,c,r,d,h=>by
  rw[yM];obtain⟨⟨a,g,b,o⟩,j⟩:=d l (by simp);have k:inB (L.length:Int) l:=by rw[c];exact⟨a,ω,b,ω⟩
  refine iK s ls _ (by rw[Gz];exact c) (r.join k) (λy s=>d y (by simp[s])) λi c k=>?_
  rw[Ha c ω];split
  . rename_i e;have d:=h _ a g;have g:=h _ b o;have b:=h i c k;rcases(ω:min (G7 L l.1) (G7 L l.2)=G7 L l.1\/min (G7 L l.1) (G7 L l.2)=G7 L l.2)with e1|e1<;>
    rcases(ω:max (G7 L l.1) (G7 L l.2)=G7 L l.1\/max (G7 L l.1) (G7 L l.2)=G7 L l.2)with a|a
    . rw[e1, <-b,e,a]
    . rw[e1, <-b,e,a,d,g,j]
    . rw[e1, <-b,e,a,d,g,j]
    . rw[e1, <-b,e,a]
  . exact h i c k
def iV {α:Type} {n:Int} {ls:List Ln} (d:0<=n) (b:∀l∈ls,inB n l) {f:Int->α} (c:∀l∈ls,f l.1=f l.2):∀i:Int,0<=i->i<n->f (G7 (S4 n ls) i)=f i:=
 iK d ls _ (Pp n) (B0k n) (λl a=>⟨b l a,c l a⟩) λi d g=>by rw[LV d g]
def C4f {n:Int} {L:Wf} {l:Ln} (b:0<=n) (a:L.length=n.toNat) (h:inB n l):inB (L.length:Int) l:=by
 rw[a,(ω:((n.toNat:Nat):Int)=n)];exact h
def JN:Wf->Int
 | []=>0
 |a::r=>a+JN r
def cF:∀ {l:Wf} {k:Nat} {v:Int},k<l.length->JN (l.set k v)=JN l-l.getD k 0+v
 | [],_,_,h=>by simp at h
 |a::r,0,v,_=>by simp[JN];omega
 |a::r,k+1,v,h=>by
  have:=cF (l:=r) (k:=k) (v:=v) (by simpa using h);simp only[g4o,JN,this,List.getD_cons_succ];omega
def TX:∀ {l:Wf},(∀x∈l,0<=x)->0<=JN l
 | [],_=>qH _
 |a::r,h=>by
  have b:=h a (by simp);have b:=TX (l:=r) λx hx=>h x (by simp[hx])
  simp only[JN];omega
def C4s {L:Wf} {x:Int} (h:x∈L):∃i:Int,0<=i/\i<(L.length:Int)/\G7 L i=x:=by
 obtain⟨i,b,a⟩:=vG.1 h;refine⟨i,ω,ω,?_⟩;have:=EH (L:=L) (i:=(i:Int)) ω ω;rw[qJ,qL b,a]at this;exact(xU this).symm
def nA {A B:Wf} (a:A.length=B.length) (h:∀i:Int,0<=i->i<(A.length:Int)->G7 A i=G7 B i):A=B:=by
 apply wX;intro j;by_cases a:j<A.length
 . have a:=EH (L:=A) (i:=(j:Int)) ω ω;have b:=EH (L:=B) (i:=(j:Int)) ω ω;rw[qJ]at a b;rw[a,b,h j ω ω]
 . rw[rT ω,rT ω]
def A2n {n:Int} {ls:List Ln} (c:0<=n) (a:∀l∈ls,inB n l) {L:Wf} (b:L.length=n.toNat) (g:∀i:Int,0<=i->i<n->0<=G7 L i/\G7 L i<=i/\G7 (S4 n ls) (G7 L i)=G7 (S4 n ls) i) (h:∀l∈ls,G7 L l.1=G7 L l.2):L=S4 n ls:=by
 refine nA (by rw[b,aA]) λi d k=>?_
 rw[b]at k;have b:=A2m c a;have k:=aA n ls;obtain⟨k,r,o⟩:=b i d ω;have r:=iV c a (f:=λj=>G7 L j) h i d ω;obtain⟨a,d,c⟩:=g _ k ω;obtain⟨_,d,_⟩:=b (G7 L (G7 (S4 n ls) i)) a ω;rw[o]at c;omega
def B3c {α:Type} {l:List α} {d v:α} {k m:Nat} (h:m≠k):(l.set k v).getD m d=l.getD m d:=by
 rw[qD,sV (Ne.symm h),qD]
def B3d {α:Type} {l:List α} {d v:α} {k:Nat} (h:k<l.length):(l.set k v).getD k d=v:=by
 rw[qD,sJ h];rfl
def nD (t r i:Nat):Nat:=if i<=t then i else if i<r then t+1 else t
def Yl (R C:Nat) (A E:Nat->Nat->Rat) (t r:Nat):Prop:=∃(a:Nat->Nat) (X:Nat->Nat->Rat),(∀i,i<R->a i<R)/\∀i,i<R->∀j,j<C->A (a i) j=B8 (nD t r i) (λm=>X i m*E m j)+E i j
section
variable {R C T t r c:Nat} {A E:Nat->Nat->Rat} {P:List Nat}
def A2w {i:Nat} (h:i<=t):nD t r i=i:=qN h
def B9u {i:Nat} (h:t<i) (a:i<r):nD t r i=t+1:=by unfold nD;rw[qG ω,qN a]
def B9t {i:Nat} (h:t<i) (a:r<=i):nD t r i=t:=by unfold nD;rw[qG ω,qG ω]
def Yl.start (A:Nat->Nat->Rat):Yl R C A A 0 1:=⟨id,λ_ _=>0,λ_ h=>h,λi _ j _=>by
 rw[show nD 0 1 i=0 from by unfold nD;split;omega;split<;>omega,B8,sR];rfl⟩
def Yl.swap (h:Yl R C A E t (t+1)) {k:Nat} (l:t<=k) (n:k<R):Yl R C A (SJ E t k) t (t+1):=by
 obtain⟨a,X,b,f⟩:=h;have g:∀m,m<t->SJ E t k m=E m:=λm c=>by unfold SJ;rw[qG ω,qG ω]
 have d:∀i,t<=i->nD t (t+1) i=t:=λi hi=>by
  by_cases e:i=t
  . rw[e];exact A2w (qV _)
  . exact B9t ω ω
 refine⟨λi=>if i=t then a k else if i=k then a t else a i,SJ X t k,λi hi=>?_,λi hi j hj=>?_⟩
 . show(if i=t then a k else if i=k then a t else a i)<R;split
   . exact b k n
   . split
     . exact b t ω
     . exact b i hi
 . show A (if i=t then a k else if i=k then a t else a i) j= _;by_cases a:i=t
   . rw[qN a,f k n j hj,a,d k l,d t (qV _)];congr 1
     . exact A4 λm c=>by rw[g m c];unfold SJ;rw[qN rfl]
     . unfold SJ;rw[qN rfl]
   . rw[qG a];by_cases b:i=k
     . rw[qN b,f t ω j hj,b,d k l,d t (qV _)];congr 1
       . exact A4 λm c=>by rw[g m c];unfold SJ;rw[qG ω,qN rfl]
       . unfold SJ;rw[qG ω,qN rfl]
     . rw[qG b,f i hi j hj];have d:nD t (t+1) i<=t:=by unfold nD;split;omega;split<;>omega
       congr 1
       . exact A4 λm c=>by rw[g m ω];unfold SJ;rw[qG a,qG b]
       . unfold SJ;rw[qG a,qG b]
def Yl.step (h:Yl R C A E t r) (f:Rat) (b:t<r) (s:r<R):Yl R C A (kB E t r f) t (r+1):=by
 obtain⟨c,X,g,k⟩:=h;have a:∀i,i≠r->kB E t r f i=E i:=λi hi=>by funext j;unfold kB;rw[qG hi]
 refine⟨c,λi m=>if i=r/\m=t then f else X i m,g,λi hi j hj=>?_⟩;show A (c i) j=B8 (nD t (r+1) i) (λm=>(if i=r/\m=t then f else X i m)*kB E t r f m j)+kB E t r f i j;rw[k i hi j hj];by_cases e:i=r
 . subst e;rw[B9t b (qV _),B9u b (rM _),B8,qN ⟨rfl,rfl⟩,a t ω];have d:B8 t (λm=>X i m*E m j)=B8 t λm=>(if i=i/\m=t then f else X i m)*kB E t i f m j:=A4 λm n=>by rw[qG ω,a m ω]
   rw[<-d];unfold kB;rw[qN rfl];grind
 . have o:nD t r i=nD t (r+1) i:=by unfold nD;split;rfl;split;rw[qN ω];rw[qG ω]
   have u:nD t (r+1) i<=t+1:=by unfold nD;split;omega;split<;>omega
   rw[<-o,a i e];congr 1;exact A4 λm n=>by rw[qG (λl=>e l.1),a m ω]
def Yl.finish (h:Yl R C A E t R):Yl R C A E (t+1) (t+1+1):=by
 obtain⟨f,X,b,c⟩:=h;refine⟨f,X,b,λi a j d=>?_⟩;rw[c i a j d,show nD t R i=nD (t+1) (t+1+1) i from by
  by_cases b:i<=t
  . rw[A2w b,A2w ω]
  . rw[B9u ω a];by_cases a:i=t+1
    . rw[a,A2w (qV _)]
    . rw[B9t ω ω]]
def Yl.qs (h:Yl R C A E t r) (f:Xc R C A E t c P) (Z:Zh R C A T) (hT:1<=T) (V:r=t+1\/(t<R/\c<C/\E t c≠0/\∀i,t<i->i<r->E i c=0)) {i j:Nat} (D:i<R) (a2:j<C):qs (T+T) (E i j):=by
 obtain⟨B,X,N,O⟩:=h;have w:∀m,m<t->P.getD m 0<c:=λm d=>f.lt _ (f.pmem d)
 have a9:=f.cle
 let l:Nat->Nat:=λm=>if m<t then P.getD m 0 else c
 have k:∀m,m<t->l m=P.getD m 0:=λm d=>qN d
 have z:l t=c:=qG (tH t);have F:∀b,t<b->b<r->t<R/\c<C/\E t c≠0/\E b c=0:=λb h1 h2=>by
  rcases V with V| ⟨x,H,M,Y⟩
  . omega
  . exact⟨x,H,M,Y b h1 h2⟩
 have aa:nD t r i<=i/\nD t r i<=t+1:=by unfold nD;split;omega;split<;>omega
 have G:nD t r i=t+1->t<i/\i<r:=λhh=>by
  unfold nD at hh;split at hh
  . omega
  . split at hh
    . exact⟨ω, ‹_›⟩
    . omega
 generalize a6:nD t r i=a at*;have W:∀m,m<a->E i (l m)=0:=λm d=>by
  by_cases x:m<t
  . rw[k m x];by_cases H:i<t
    . exact f.left i H _ (f.pmono ω H)
    . exact f.below i ω D _ (w m x)
  . have x:m=t:=ω
    subst x;rw[z];have:=G ω;exact(F i this.1 this.2).2.2.2
 have a5:∀b m,m<b->b<a->E b (l m)=0:=λb m d g=>by
  rw[k m ω];by_cases x:b<t
  . exact f.left b x _ (f.pmono d x)
  . exact f.below b ω ω _ (w m ω)
 have a8:∀b,b<a->E b (l b)≠0:=λb g=>by
  by_cases x:b<t
  . rw[k b x];exact f.piv b x
  . have x:b=t:=ω
    subst x;rw[z];have:=G ω;exact(F i this.1 this.2).2.2.1
 have a3:∀m,m<a->l m<C:=λm d=>by
  by_cases x:m<t
  . rw[k m x];have:=w m x;omega
  . have x:m=t:=ω
    subst x;rw[z];have:=G ω;exact(F i this.1 this.2).2.1
 have a4:∀m m',m<m'->m'<a->l m<l m':=λm m' h1 h2=>by
  by_cases x:m'<t
  . rw[k m ω,k m' x];exact f.pmono h1 x
  . have x:m'=t:=ω
    subst x;rw[z,k m h1];exact w m h1
 by_cases Q:∃m,m<a/\l m=j
 . obtain⟨m,d,rfl⟩:=Q;rw[W m d];exact J8 ω
 have a7:∀m,m<a->l m≠j:=λm d hh=>Q ⟨m,d,hh⟩
 let s:Nat->Nat:=λm=>if m=a then j else l m
 have o:∀m,m<a->s m=l m:=λm d=>qG ω
 have I:s a=j:=qN rfl;have y:∀m,m<=a->s m<C:=λm d=>by
  by_cases e:m=a
  . rw[e,I];exact a2
  . rw[o m ω];exact a3 m ω
 have a0:a<C:=by
  refine qR λY=>?_
  obtain⟨u,M,H,ab,x⟩:=SB C s λm d=>y m ω
  by_cases e:M=a
  . subst e;rw[I,o u H]at x;exact a7 u H x
  . rw[o u ω,o M ω]at x;have:=a4 u M H ω;omega
 have a1:a<R:=ω
 let u:Nat->Nat->Rat:=λb=>if b=a then E i else E b
 have v:∀b,b<a->u b=E b:=λb g=>qG ω
 have J:u a=E i:=qN rfl;have U:=C2b (R:=R) (C:=C) (T:=T) (A:=A) (a:=a) (u:=u) (X:=λb n=>if b=a then X i n else X b n) (r:=λb=>if b=a then B i else B b) (l:=s) Z (λb g=>by
  show(if b=a then B i else B b)<R;split
  . exact N i D
  . exact N b ω) y a1 a0 (λb g m d=>by
  by_cases e:b=a
  . subst e;simp only[wN];rw[J,O i D _ (y m d),a6];congr 1;exact A4 λn x=>by rw[v n x]
  . simp only[qG e];rw[v b ω,O b ω _ (y m d),A2w (t:=t) (r:=r) (i:=b) ω];congr 1;exact A4 λn x=>by rw[v n ω]) (λb m d g=>by
  rw[o m ω];by_cases e:b=a
  . rw[e,J];exact W m ω
  . rw[v b ω];exact a5 b m d ω) (λb g=>by rw[v b g,o b g];exact a8 b g)
 rw[J,I]at U;exact U
end
def LM (R C:Nat) (A E:Nat->Nat->Rat) (s:Int):Prop:=C=R->det C A=(s:Rat)*det C E
section
variable {R C:Nat} {A E:Nat->Nat->Rat} {s:Int}
def LM.start:LM R C A A 1:=λ_=>(tG _).symm
def LM.swap (h:LM R C A E s) {t k:Nat} (b:t<R) (a:k<R) (c:t≠k):LM R C A (SJ E t k) (-s):=λe=>by
 have d:SJ E t k=swp E t k:=by
  funext i j;unfold SJ swp;by_cases a:i=t
  . rw[qN a,a,D7 c];unfold P3;rw[qN rfl]
  . rw[qG a];by_cases b:i=k
    . rw[qN b,b];unfold P3;rw[qN rfl]
    . rw[qG b];unfold P3;rw[qG b,qG a]
 rw[h e,d,(Lv C).swap E ω ω c,g3b];grind
def LM.step (h:LM R C A E s) {t r:Nat} (f:Rat) (b:t<r) (a:r<R):LM R C A (kB E t r f) s:=λe=>by
 rw[h e];congr 1;have:=(Lv C).add E (-f) (k:=r) (l:=t) ω ω ω;rw[<-this];refine M9 λi j _ _=>?_
 unfold kB P3;split
 . grind
 . rfl
end
def sbP (E:Nat->Nat->Rat) (t r:Nat) (f:Rat) (d:Nat):Nat->Nat->Rat:=λi j=>if i=r/\j<d then E r j-f*E t j else E i j
def Jr {R C:Nat} {E E':Nat->Nat->Rat} {l:List (List B7)} (h:Jq R C E l) (c:∀i j,i<R->j<C->E i j=E' i j):Jq R C E' l:=⟨h.1,λi a=>⟨(h.2 i a).1,λj b=>by rw[(h.2 i a).2 j b,c i j a b]⟩⟩
def B5d {R C t k:Nat} {E:Nat->Nat->Rat} {l:List (List B7)} (h:Jq R C E l) (c:t<R) (a:k<R):Jq R C (SJ E t k) ((l.set k (l.getD t [])).set t (l.getD k [])):=by
 refine⟨by rw[qM,qM];exact h.1,λi b=>?_⟩;have d:=h.1;unfold SJ;by_cases e:i=t
 . rw[qN e,e,B3d (by rw[qM];omega)];exact h.2 k a
 . rw[qG e,B3c e];by_cases a:i=k
   . rw[qN a,a,B3d ω];exact h.2 t c
   . rw[qG a,B3c a];exact h.2 i b
def C1t {R C t r d:Nat} {E:Nat->Nat->Rat} {f:Rat} {l:List (List B7)} (h:Jq R C (sbP E t r f d) l) (v:r<R) (u:d<C):Jq R C (sbP E t r f (d+1)) (l.set r ((l.getD r []).set d (rc (E r d-f*E t d)))):=by
 have s:=h.1;refine⟨by rw[qM];exact s,λn o=>?_⟩;obtain⟨c,g⟩:=h.2 n o;by_cases e:n=r
 . subst e;rw[B3d ω,qM];refine⟨c,λj b=>?_⟩;by_cases i:j=d
   . subst i;rw[B3d ω];unfold sbP;rw[qN ⟨rfl,rM _⟩]
   . rw[B3c i,g j b];congr 1;unfold sbP;by_cases k:j<d
     . rw[qN ⟨rfl,k⟩,qN ⟨rfl,ω⟩]
     . rw[qG (λa=>k a.2),qG (λa=>by have:=a.2;omega)]
 . rw[B3c e];refine⟨c,λj b=>?_⟩;rw[g j b];unfold sbP;rw[qG (λa=>e a.1),qG (λa=>e a.1)]
def wide:∀(n:Nat) (f:Nat->Nat->Rat),∃y:Nat->Rat,(∃k,k<n+1/\y k≠0)/\∀i,i<n->B8 (n+1) (λk=>f i k*y k)=0
 |0,_=>⟨λ_=>1,⟨0,ω,by decide+kernel⟩,λi a=>ω⟩
 |n+1,f=>by
  by_cases j:∀i,i<n+1->f i (n+1)=0
  . refine⟨λk=>if k=n+1 then 1 else 0,⟨n+1,ω,by show(if n+1=n+1 then(1:Rat)else 0)≠0;rw[qN rfl];decide+kernel⟩,λi c=>?_⟩;exact N4 λk d=>by
     show f i k*(if k=n+1 then(1:Rat)else 0)=0;by_cases h:k=n+1
     . rw[h,j i c,rZ]
     . rw[qG h,sH]
  . have⟨a,w,u⟩:∃a,a<n+1/\f a (n+1)≠0:=qR λh=>j λi c=>qR λb=>h ⟨i,c,b⟩
    obtain⟨y,⟨k,d,v⟩,l⟩:=wide n λi k=>f (if i<a then i else i+1) k-f (if i<a then i else i+1) (n+1)/f a (n+1)*f a k
    let s:Rat:=B8 (n+1) λk=>f a k*y k
    refine⟨λk=>if k=n+1 then -s/f a (n+1)else y k,⟨k,ω,by show(if k=n+1 then -s/f a (n+1)else y k)≠0;rw[qG ω];exact v⟩,λi c=>?_⟩;show B8 (n+1) (λk=>f i k*(if k=n+1 then -s/f a (n+1)else y k))+f i (n+1)*(if n+1=n+1 then -s/f a (n+1)else y (n+1))=0;rw[qN rfl,A4 (g:=λk=>f i k*y k) λk d=>by rw[qG ω]];by_cases o:i=a
    . subst o;show s+f i (n+1)*(-s/f i (n+1))=0;rw[tZ];have:=vS _ u;grind
    . have⟨m,r,t⟩:∃m,m<n/\(if m<a then m else m+1)=i:=by
       by_cases h:i<a
       . exact⟨i,ω,qN h⟩
       . exact⟨i-1,ω,by rw[qG ω];omega⟩
      have b:=l m r;rw[t,A4 (g:=λk=>f i k*y k+ -(f i (n+1)/f a (n+1))*(f a k*y k)) λk d=>by grind,Q8,Y4]at b;have b:B8 (n+1) (λk=>f i k*y k)+ -(f i (n+1)/f a (n+1))*s=0:=b;rw[tZ]at b|-;grind
def C2a:∀(n:Nat) (y:Nat->Rat),(∃k,k<n/\y k≠0)->∃k,k<n/\y k≠0/\∀m,k<m->m<n->y m=0
 |0,_,⟨_,h,_⟩=>ω
 |n+1,y,⟨k,b,a⟩=>by
  by_cases h:y n=0
  . obtain⟨b,f,c,d⟩:=C2a n y ⟨k,by rcases sD k n with g|g;exact g;exact absurd (by rw[(ω:k=n)];exact h) a,a⟩;exact⟨b,ω,c,λm a f=>by rcases sD m n with g|g;exact d m a g;rw[(ω:m=n)];exact h⟩
  . exact⟨n,ω,h,λm a f=>ω⟩
def B7h {n:Nat} {A:Nat->Nat->Rat} (h:∀b,b<n->¬C3m n n A b):det n A≠0:=λu=>by
 have l:∀k,k<n->∃x:Nat->Rat,∀i,i<n->B8 n (λj=>A i j*x j)=Zg i k:=λk d=>by
  obtain⟨y,z,f⟩:=wide n λi j=>if j=n then -Zg i k else A i j
  have f:∀i,i<n->B8 n (λj=>A i j*y j)+ -Zg i k*y n=0:=λi c=>by
   have a:=f i c;have a:B8 n (λj=>(if j=n then -Zg i k else A i j)*y j)+(if n=n then -Zg i k else A i n)*y n=0:=a;rw[qN rfl,A4 (g:=λj=>A i j*y j) λj o=>by rw[qG ω]]at a;exact a
  have w:y n≠0:=λh2=>by
   obtain⟨b,E,t,D⟩:=C2a _ y z;have s:b<n:=by rcases sD b n with g|g;exact g;exact absurd (by rw[(ω:b=n)];exact h2) t
   refine h b s ⟨λj=>if j<n then y j else 0,λi c=>?_,by show(if b<n then y b else 0)≠0;rw[qN s];exact t,λj o=>?_⟩
   . have r:=f i c;rw[h2,sH,rL]at r;exact Eq.trans (A4 λj o=>by show A i j*(if j<n then y j else 0)=A i j*y j;rw[qN o]) r
   . show(if j<n then y j else 0)=0;by_cases g:j<n
     . rw[qN g];exact D j o ω
     . exact qG g
  refine⟨λj=>y j*(y n)⁻¹,λi c=>?_⟩;rw[A4 (g:=λj=>A i j*y j*(y n)⁻¹) λj _=>(tO _ _ _).symm,SG,show B8 n (λj=>A i j*y j)=Zg i k*y n by have:=f i c;grind,tO,vS _ w,tR]
 let B:Mt:=λj k=>if d:k<n then Classical.choose (l k d) j else 0
 have v:∀i k,i<n->k<n->FT n A B i k=Zg i k:=λi k c d=>by
  rw[<-Classical.choose_spec (l k d) i c];exact A4 λj _=>by show A i j*(if d:k<n then Classical.choose (l k d) j else 0)= _;rw[dif_pos d]
 have a:=WW n A B;rw[M9 v,Zv,u,rZ]at a;exact absurd a (by decide+kernel)
variable {α:Type}
def B8s (q:α->α->Prop) (d:α) (l:List α) (a i j:Nat):Prop:=∀s t,a<=s->s<t->t<=i->t≠j->q (l.getD s d) (l.getD t d)
def NG (d:α) (l:List α) (j:Nat):List α:=(l.set j (l.getD (j-1) d)).set (j-1) (l.getD j d)
def cG {d:α} {l:List α} {j:Nat} (c:0<j) (b:j<l.length) (k:Nat):(NG d l j).getD k d=if k=j then l.getD (j-1) d else if k=j-1 then l.getD j d else l.getD k d:=by
 unfold NG;simp only[qD,wJ,qM];by_cases h:k=j
 . subst h;rw[qG ω,qN rfl,qN rfl,qN b];rfl
 . rw[qG h];by_cases a:k=j-1
   . subst a;rw[qN rfl,qN ω,qN rfl];rfl
   . rw[qG ω,qG ω,qG a]
def A8o {d:α} {l:List α} {j:Nat} (a:j<l.length):(NG d l j).Perm l:=by
 have b:j-1<l.length:=ω
 have:=List.set_set_perm (as:=l) a b;unfold NG;simp only[qD,qL a,qL b];exact this
def A8p {d:α} {l:List α} {j a:Nat} (h:a<=j-1):(NG d l j).take a=l.take a:=by
 unfold NG;rw[zK h,zK ω]
def A8n {d:α} {l:List α} {j b:Nat} (h:j<b):(NG d l j).drop b=l.drop b:=by
 unfold NG;rw[zI ω,zI ω]
def A6w {q:α->α->Prop} {d:α} {l:List α} {a i:Nat} (h:∀s t,a<=s->s<t->t<i->q (l.getD s d) (l.getD t d)):B8s q d l a i i:=λs t b c f g=>h s t b c ω
def B3j {q:α->α->Prop} {d:α} {l:List α} {a i j:Nat} (h:B8s q d l a i j) (c:a<j) (b:j<l.length) (f:j<=i) (n:q (l.getD j d) (l.getD (j-1) d)):B8s q d (NG d l j) a i (j-1):=by
 intro s t g k f c;rw[cG ω b,cG ω b,qG c];by_cases c:t=j
 . rw[qN c,qG ω];by_cases b:s=j-1
   . rw[qN b];exact n
   . rw[qG b];exact h s (j-1) g ω ω ω
 . rw[qG c];by_cases b:s=j
   . rw[qN b];exact h (j-1) t ω ω f c
   . rw[qG b];by_cases b:s=j-1
     . rw[qN b];exact h j t ω ω f c
     . rw[qG b];exact h s t g k f c
def B8t {q:α->α->Prop} {d:α} {l:List α} {a i j:Nat} (h:B8s q d l a i j) (n:∀x y z,q x y->q y z->q x z) (r:j<=i) (c:a<j->q (l.getD (j-1) d) (l.getD j d)):∀s t,a<=s->s<t->t<i+1->q (l.getD s d) (l.getD t d):=by
 intro s t b g o;by_cases f:t=j
 . subst f;by_cases k:s=t-1
   . rw[k];exact c ω
   . exact n _ _ _ (h s (t-1) b ω ω ω) (c ω)
 . exact h s t b g ω f
def bQ {q:α->α->Prop} {d:α} {l:List α} {a b:Nat} (c:b<=l.length) (h:∀s t,a<=s->s<t->t<b->q (l.getD s d) (l.getD t d)):((l.drop a).take (b-a)).Pairwise q:=by
 rw[uK];intro i j c f g;rw[qZ,sU]at c f;have e:∀k (hk:k<((l.drop a).take (b-a)).length),((l.drop a).take (b-a))[k]=l.getD (a+k) d:=λk hk=>by
  rw[qZ,sU]at hk;rw[g1w,List.getElem_drop,qD,qL ω];rfl
 rw[e i (by rw[qZ,sU];omega),e j (by rw[qZ,sU];omega)];exact h _ _ ω ω ω
def C3g {D N:Nat} {x:Rat} (h:bd D N x) (e:Nat):bd (D*e) (N*e) x:=by
 obtain⟨z,a,b⟩:=h;refine⟨z*(e:Int),?_,by rw[vE,uA];exact rD _ b⟩;rw[g3c,zW, <-a,g4f];grind
def B6p {D N:Nat} {x:Rat} (h:bd D N x):bd D N (-x):=by
 obtain⟨z,a,b⟩:=h;refine⟨-z,?_,by rw[xK];exact b⟩;rw[g3b, <-a];grind
def C7t {D N M:Nat} {x y:Rat} (h:bd D N x) (a:bd D M y):bd D (N+M) (x-y):=by
 rw[tC];exact B6n h (B6p a)
def WR {D N:Nat} :bd D N 0:=DN (A9j D) (rP _)
def C7s {D N:Nat} (h:D<=N):bd D N 1:=⟨(D:Int),by rw[tG,g4f],by rw[uA];exact h⟩
def A5w {D N:Nat} {x:Rat} (h:bd D N x) (fr to:Nat->Nat) (b i:Nat):bd D N (Yk fr to b i*x):=by
 unfold Yk;by_cases a:fr i=b<;>by_cases c:to i=b
 . rw[qN a,qN c,show((1:Rat)-1)*x=0 from by grind];exact WR
 . rw[qN a,qG c,show((1:Rat)-0)*x=x from by grind];exact h
 . rw[qG a,qN c,show((0:Rat)-1)*x= -x from by grind];exact B6p h
 . rw[qG a,qG c,show((0:Rat)-0)*x=0 from by grind];exact WR
def WS (q:Rat):bd q.den q.num.natAbs q:=⟨q.num,A9p q,qV _⟩
def C4y {s m k:Nat} {fr to:Nat->Nat} {S H J:Nat->Rat} (Q:m<=20) (P:k<=10) (r:∀i,i<m->qs s (S i)/\qs s (H i)) (y:∀b,b<k->qs s (J b)):
 ∃D M,D≠0/\(nc D).length<=s*50+1/\(nc M).length<=s*52+2/\D<=M/\(∀b c,bd D M (AE m fr to S b c))/\∀b,b<k->bd D M (J b-WX m fr to (λi=>S i*H i) b):=by
 generalize w:(4294967296:Nat)=B;have E:1<B:=ω
 have R:∀n,1<=B^n:=λn=>tP ω
 have lt:∀ {n:Nat},(nc n).length<=s->n<=B^s:=λ{n} hn=>by
  rw[<-w];exact qY (vX (Eu n)) (rR δ hn)
 have len:∀ {n m:Nat},n<=B^m->(nc n).length<=m+1:=λ{n m} hn=>Ds (by rw[w];exact wC hn (zA E (rM m)))
 let l:Nat->Nat:=λi=>(S i).den*(H i).den
 let j:Nat->Nat:=λb=>(J b).den
 have V:0<np l m:=aV (λi=>g0w (S i).den_pos (H i).den_pos) m;have W:0<np j k:=aV (λb=>(J b).den_pos) k;have T:np l m<=B^(s*40):=by
  refine qY (A3b (M:=B^(s*2)) λi a=>?_) ?_
  . rw[(ω:s*2=s+s),tY];exact uM (lt (r i a).1.2) (lt (r i a).2.2)
  . rw[<-yG];exact rR ω (by rw[sN];exact sC _ ω)
 have U:np j k<=B^(s*10):=by
  refine qY (A3b (M:=B^s) λb o=>lt (y b o).2) ?_;rw[<-yG];exact rR ω (sC _ P)
 have u:np l m*np j k<=B^(s*50):=by
  rw[(ω:s*50=s*40+s*10),tY];exact uM T U
 generalize t:np l m*np j k=D at u;have X:0<D:=t▸g0w V W;have up:∀ {d N e:Nat} {x:Rat},bd d N x->D=d*e->N<=B^(s*2)->bd D (B^(s*2)*D) x:=λ{d N e x} h g hN=>by
  have v:=C3g h e;rw[<-g]at v;refine DN v (uM hN ?_);refine g2a X ⟨d,?_⟩;rw[g,sF]
 have A:∀ {n:Nat},(nc n).length<=s->n<=B^(s*2):=λ{n} h=>qY (lt h) (rR ω ω)
 have I:∀i,i<m->bd D (B^(s*2)*D) (S i):=λi a=>by
  obtain⟨e,g⟩:=QW (f:=l) a;exact up (WS (S i)) (e:=(H i).den*e*np j k) (by rw[<-t,g];show(S i).den*(H i).den*e* _= _;ac_rfl) (A (r i a).1.1)
 have O:∀i,i<m->bd D (B^(s*2)*D) (S i*H i):=λi a=>by
  obtain⟨e,g⟩:=QW (f:=l) a;exact up (B6o (WS (S i)) (WS (H i))) (e:=e*np j k) (by rw[<-t,g];show(S i).den*(H i).den*e* _= _;ac_rfl) (by
   rw[(ω:s*2=s+s),tY];exact uM (lt (r i a).1.1) (lt (r i a).2.1))
 have F:∀b,b<k->bd D (B^(s*2)*D) (J b):=λb o=>by
  obtain⟨e,g⟩:=QW (f:=j) o;exact up (WS (J b)) (e:=np l m*e) (by rw[<-t,g];show _ *((J b).den*e)= _;ac_rfl) (A (y b o).1)
 have G:B^(s*2)*D<=B^(s*52):=by
  rw[(ω:s*52=s*2+s*50),tY];exact sC _ u
 have Y:D<=B^(s*2)*D:=Nat.le_mul_of_pos_left _ (R _);generalize B^(s*2)*D=M0 at*;have z:∀ {f:Nat->Rat},(∀i,i<m->bd D M0 (f i))->bd D (20*M0) (B8 m f):=λh=>DN (A5y h) (rD _ Q)
 refine⟨D,21*M0,ω,len u,?_,ω,λb c=>?_,λb o=>?_⟩
 . refine len (m:=s*52+1) ?_;rw[rY,sF];exact uM G ω
 . refine DN (z λi a=>?_) ω;rw[show S i*(Yk fr to b i*Yk fr to c i)=Yk fr to b i*(Yk fr to c i*S i)from by grind];exact A5w (A5w (I i a) _ _ _ _) _ _ _ _
 . refine DN (C7t (F b o) (z λi a=>A5w (O i a) _ _ _ _)) ω
def nK {N:Iq} (c:Lb N) (b:∀e∈N.2,Dm e.2.2.1/\Dm e.2.2.2) {i:Nat} (d:i<N.2.length):qs S0 (Fh N.2 i)/\qs S0 (Sb N.2 i):=by
 have a:N.2.getD i dB∈N.2:=C1 d;exact⟨Bo (b _ a).1 (c.2.2 _ a).1 δ,Bo (b _ a).2 (c.2.2 _ a).2 δ⟩
def C9h {N:Iq} {k:Nat} {J:Nat->Rat} (a:Lb N) (j:∀e∈N.2,Dm e.2.2.1/\Dm e.2.2.2) (n:k<=10) (l:∀b,b<k->qs S0 (J b)):
 ∃D M,D≠0/\(nc D).length<=6659/\(nc M).length<=6659/\D<=M/\(∀b c,bd D M (fF N.2 b c))/\∀b,b<k->bd D M (J b-Pn N.2 (λi=>Fh N.2 i*Sb N.2 i) b):=by
 obtain⟨D,M,d,f,g,h⟩:=C4y (fr:=W8 N.2) (to:=W7 N.2) a.2.1 n (λi hi=>nK a j hi) l;exact⟨D,M,d,qY f δ,qY g δ,h⟩
def C9f {R C D M:Nat} {A:Nat->Nat->Rat} (n:R<=10) (l:D≠0) (g:(nc D).length<=6659) (k:(nc M).length<=6659) (h:∀i j,i<R->j<C->bd D M (A i j)):Zh R C A KT:=by
 have o:R*(6659+1)+1<=KT:=by
  have e:KT=70000:=rfl;rw[e];omega
 generalize 6659=t at*;exact λr s c a b d f=>G8 (C9e l (qY n δ) g k h r s c a b d f) o
structure Leh (X Y w x y u0 u1 u2 v0 v1 v2:Int) (ev:Bool):Prop where
 yx:y<=x
 y0:0<=y
 x0:0<x
 u10:0<=u1
 u20:0<=u2
 v10:0<=v1
 v20:1<=v2
 uv2:u2<=v2
 ex:x=if ev then v1*Y-u1*X else u1*X-v1*Y
 ey:y=if ev then u2*X-v2*Y else v2*Y-u2*X
 idX:x*v2+y*v1=X
 idY:x*u2+y*u1=Y
 det:u1*v2-u2*v1=if ev then -1 else 1
 /--At the start,or with what the cofactors before need. -/
 back:(u0=0/\u1=1/\v0=0/\v1=0/\ev=false/\u2=0/\v2=1)\/(0<=u0/\0<=v0/\u1<=v1/\v1<=x/\u0<=w/\v0<=w/\w-x>=v0+v1/\(v0=0\/u0<=v0)/\1<=v1/\
  w=(if ev then u0*X-v0*Y else v0*Y-u0*X)/\(u0*v1-u1*v0=if ev then 1 else -1))
def Leh.start {X Y:Int} (b:0<=Y) (h:Y<=X) (a:0<X):Leh X Y 0 X Y 0 1 0 0 0 1 false where
 yx:=h
 y0:=b
 x0:=a
 u10:=δ
 u20:=δ
 v10:=δ
 v20:=δ
 uv2:=δ
 ex:=by simp
 ey:=by simp
 idX:=ω
 idY:=ω
 det:=by simp
 back:= .inl ⟨rfl,rfl,rfl,rfl,rfl,rfl,rfl⟩
def Leh.step {X Y w x y u0 u1 a v0 v1 v2:Int} {ev:Bool} (h:Leh X Y w x y u0 u1 a v0 v1 v2 ev) (c1:v2<=y) (G:v1+v2<=x-y):Leh X Y x y (x%y) u1 a (u1+x/y*a) v1 v2 (v1+x/y*v2) (!ev):=by
 have E:=h.v20;have j:0<y:=ω
 have z:1<=x/y:=by
  rw[g2p j];have:=h.yx;omega
 have B:=g2v x (b:=y) ω;have D:=zZ x j;have H:x=y*(x/y)+x%y:=(yP x y).symm;have i:x%y=x-x/y*y:=by rw[g2q (x/y)];omega
 have u:=h.idX;have v:=h.idY;have k:=h.det;have d:=h.ex;have f:=h.ey;have n:=h.u20;have l:=h.u10;have F:=h.v10;have o:=h.uv2;generalize x/y=q at*;have A:0<=q*a:=tU ω n;have J:1*v2<=q*v2:=sM z ω;have I:q*a<=q*v2:=uF o ω;refine⟨xC D,B,j,n,Int.add_nonneg l A,ω,ω,?_,?_,?_,?_,?_,?_, .inr ⟨l,F,o,c1,?_,ω,ω,?_,E,?_,?_⟩⟩
 . rcases h.back with⟨_,c,_,g,_,r,s⟩ | ⟨_,_,c,_⟩
   . subst r s;omega
   . omega
 . cases ev<;>simpa using f
 . rw[i];cases ev
   . simp only[g1n,wN,wB,yF]at d f|-;rw[d,f];grind
   . simp only[zP,wN,wB,yF]at d f|-;rw[d,f];grind
 . rw[i, <-u];grind
 . rw[i, <-v];grind
 . have t:a*(v1+q*v2)-(u1+q*a)*v2= -(u1*v2-a*v1):=by
    grind
   rw[t,k];cases ev<;>simp
 . rcases h.back with⟨_,c,_,g,_⟩ | ⟨_,_,c,_⟩<;>omega
 . rcases h.back with⟨_,c,_,g,_⟩ | ⟨_,_,c,_⟩
   . exact .inl g
   . exact .inr c
 . cases ev<;>simpa using d
 . rw[k];cases ev<;>simp
def Leh.apply {X Y w x y u0 u1 D v0 v1 v2:Int} {ev:Bool} (h:Leh X Y w x y u0 u1 D v0 v1 v2 ev) (l:v0≠0) {P α a A B:Int} (I:0<P) (j:0<=α) (J:α<P) (k:0<=a) (M:a<P) (d:A=X*P+α) (f:B=Y*P+a):
 ∃A' B':Int,A'=(if ev then u0*A-v0*B else v0*B-u0*A)/\B'=(if ev then v1*B-u1*A else u1*A-v1*B)/\0<=B'/\B'<=A'/\A=v1*A'+v0*B'/\B=u1*A'+u0*B'/\1<=v0/\1<=v1/\0<=u0/\0<=u1:=by
 rcases h.back with⟨_,_,o,_⟩ | ⟨n,G,E,R,O,Q,H,z,F,c,det⟩
 . exact absurd o l
 have N:u0<=v0:=z.resolve_left l;have i:=h.u10;refine⟨_,_,rfl,rfl,?_,?_,?_,?_,ω,F,n,i⟩
 . --the second combination is not negative
   have b:=h.ex;have g:0<=(x-v1)*P:=tU ω ω;have r:0<=u1*α:=tU i j;have s:v1*a<=v1*P:=uF ω ω;have t:0<=v1*a:=tU ω k;have u:u1*α<=u1*P:=uF ω i;have v:u1*P<=v1*P:=sM E ω;rw[Int.sub_mul]at g;cases ev
   . simp only[wB,yF]at b|-;have:u1*A-v1*B=x*P+u1*α-v1*a:=by
      rw[d,f,b];grind
     omega
   . simp only[wN]at b|-;have:v1*B-u1*A=x*P+v1*a-u1*α:=by
      rw[d,f,b];grind
     omega
 . have b:=h.ex;have g:0<=(w-x-(v0+v1))*P:=tU ω ω;have r:0<=(u0+u1)*α:=tU ω j;have s:(v0+v1)*a<=(v0+v1)*P:=uF ω ω;have t:0<=(v0+v1)*a:=tU ω k;have u:(u0+u1)*α<=(u0+u1)*P:=uF ω ω;have v:(u0+u1)*P<=(v0+v1)*P:=sM ω ω;rw[Int.sub_mul]at g;cases ev
   . simp only[wB,yF]at b c|-;have:v0*B-u0*A-(u1*A-v1*B)=(w-x)*P+(v0+v1)*a-(u0+u1)*α:=by
      rw[d,f,b,c];grind
     omega
   . simp only[wN]at b c|-;have:u0*A-v0*B-(v1*B-u1*A)=(w-x)*P+(u0+u1)*α-(v0+v1)*a:=by
      rw[d,f,b,c];grind
     omega
 . cases ev
   . simp only[wB,yF]at det|-;have:v1*(v0*B-u0*A)+v0*(u1*A-v1*B)= -(u0*v1-u1*v0)*A:=by
      grind
     rw[this,det];omega
   . simp only[wN]at det|-;have:v1*(u0*A-v0*B)+v0*(v1*B-u1*A)=(u0*v1-u1*v0)*A:=by
      grind
     rw[this,det];omega
 . cases ev
   . simp only[wB,yF]at det|-;have:u1*(v0*B-u0*A)+u0*(u1*A-v1*B)= -(u0*v1-u1*v0)*B:=by
      grind
     rw[this,det];omega
   . simp only[wN]at det|-;have:u1*(u0*A-v0*B)+u0*(v1*B-u1*A)=(u0*v1-u1*v0)*B:=by
      grind
     rw[this,det];omega
def B8g {A B A' B' u0 u1 v0 v1 s t p q:Int} (a:A=v1*A'+v0*B') (b:B=u1*A'+u0*B') (c:A'=s*A+t*B) (d:B'=p*A+q*B):Int.gcd A B=Int.gcd A' B':=by
 apply Nat.dvd_antisymm
 . apply Int.dvd_gcd
   . rw[c];exact g3m (vB (g0p ..)) (vB (g0e ..))
   . rw[d];exact g3m (vB (g0p ..)) (vB (g0e ..))
 . apply Int.dvd_gcd
   . rw[a];exact g3m (vB (g0p ..)) (vB (g0e ..))
   . rw[b];exact g3m (vB (g0p ..)) (vB (g0e ..))
def EU {s:Nat} (a:s<=32):4294967296=2^s*2^(32-s):=by
 rw[<-tY,(ω:s+(32-s)=32)]
def Mq (n:Nat):4294967296^n=2^(32*n):=by
 rw[show(4294967296:Nat)=2^32 from rfl, <-yG]
def C6m {a low lo H P s:Nat} (b:0<P) (f:a=low+lo*P+H*(P*4294967296)) (g:low<P) (c:s<=31):a*2^s/(P*4294967296)=H*2^s+lo/2^(32-s):=by
 have c:0<P*4294967296:=g0w b δ;have d:0<2^s:=tP δ;have e:a*2^s=(low+lo*P)*2^s+H*2^s*(P*4294967296):=by
  rw[f,uV,g0d H]
 rw[e,yR _ _ c,vV];congr 1;have c:P*4294967296=P*2^(32-s)*2^s:=by rw[sN,sF (2^(32-s)), <-EU ω]
 rw[c,g0n _ _ d, <-vW,yR _ _ b,uN g,sG]
def B4v {a s m:Nat} (h:s<=m):a*2^s/2^m=a/2^(m-s):=by
 have b:0<2^s:=tP δ
 conv=>lhs;rw[(ω:m=m-s+s),tY,g0n _ _ b]
def nQ (l:Wf) (i:Nat) (h:i<=l.length):nv l=nv (l.take i)+4294967296^i*nv (l.drop i):=by
 conv=>lhs;rw[<-uS i l,Sm,qZ,tF h]
def V6 {l:Wf} (h:A7 l) (i:Nat):nv (l.take i)<4294967296^i:=by
 have a:=Hr (l:=l.take i) λx hx=>h x (rW hx)
 refine rJ a (rR δ ?_);rw[qZ];exact g2x ..
def Vs (l:Wf) {n:Nat} (h:l.length<=n+1):nv l=nv (l.take n)+4294967296^n*dg l n:=by
 conv=>lhs;rw[<-qW h,J3]
def B0y (l:Wf) {n:Nat} (h:l.length<=n+2):nv l=nv (l.take n)+4294967296^n*(dg l (n+1)*4294967296+dg l n):=by
 rw[Vs l (n:=n+1) h,J3,rY,sY,sF (dg l (n+1)), <-sN];omega
def B0z (l:Wf) {n:Nat} (h:l.length<=n+3):nv l=nv (l.take n)+4294967296^n*((dg l (n+2)*4294967296+dg l (n+1))*4294967296+dg l n):=by
 rw[B0y l (n:=n+1) h,J3,rY];generalize 4294967296^n=P;grind
def B0o {a:Wf} (b:A7 a) {n:Nat} (c:a.length=n+1) {s:Nat} (d:s+L2 (dg a n)<=32):nv a*2^s<4294967296^(n+1):=by
 have c:=Vs a (n:=n) ω;have c:=V6 b n;have b:=lT (dg a n);have c:nv a<4294967296^n*2^L2 (dg a n):=by
  have:4294967296^n*(dg a n+1)<=4294967296^n*2^L2 (dg a n):=sC _ b;rw[sY,xG]at this;omega
 have b:nv a*2^s<4294967296^n*2^L2 (dg a n)*2^s:=xE c (tP δ);rw[sN, <-tY]at b;have c:2^(L2 (dg a n)+s)<=2^32:=rR δ ω;have d:=sC (4294967296^n) c;rw[rY];exact rJ b d
def jG {n:Nat} (h:n≠0):Og (nc n):=by
 have a:(nc n).length≠0:=λa=>h (AF.1 (qT a))
 unfold Og;intro a;have b:=K5 n;have e:=Vs (nc n) (n:=(nc n).length-1) ω;have c:dg (nc n) ((nc n).length-1)=0:=by unfold dg;rw[a];rfl
 rw[c,wU,tS,F7]at e;have a:=V6 b ((nc n).length-1);rw[<-e]at a;have:=Ds a;omega
def SK {l:Wf} (a:A7 l) (h:Og l):dg l (l.length-1)≠0:=by
 unfold Og at h;have:=Ac a (i:=l.length-1);rw[this]at h;omega
def cJ {l:Wf} (b:A7 l) (h:Og l):nv l≠0:=by
 have a:=SK b h;have b:l.length≠0:=λe=>by
  rw[qT e]at a;simp[dg]at a
 have e:=Vs l (n:=l.length-1) ω;have b:0<4294967296^(l.length-1):=tP δ;have b:=sC (4294967296^(l.length-1)) (sX a);omega
def B0p {V low P x:Nat} (h:V=low+P*x) (a:low<P):x*P<=V/\V<(x+1)*P:=by
 rw[uV,xH,sF x,h];omega
def C8g {w v:Wf} (c:A7 w) (a:A7 v) {n:Nat} (b:v.length=n+2) (d:w.length=n+3) (h:dg v (n+1)≠0) (g:nv w<nv v*4294967296):eN (nv w) (nv v) (dg v (n+1)) (dg v n) (dg w (n+2)*4294967296+dg w (n+1)) (dg w n) (4294967296^n):=by
 have ev:=B0y v (n:=n) ω;have b:=B0z w (n:=n) ω;have d:=V6 a n;have f:=V6 c n;have i:=N8 a (n+1);have i:=N8 a n;have a:=N8 c n;exact⟨tP δ,sX h,ω,ω,ω,(B0p ev d).1,(B0p ev d).2,(B0p b f).1,(B0p b f).2,g⟩
def B7j {l:Wf} (h:A7 l) (i:Nat):dg l i=nv l/4294967296^i%4294967296:=by
 have d:0<4294967296^i:=tP δ;by_cases a:i<l.length
 . have e:=nQ l (i+1) ω;rw[J3]at e;have a:=V6 h i;have c:=N8 h i;have b:nv l=nv (l.take i)+(dg l i+4294967296*nv (l.drop (i+1)))*4294967296^i:=by
    rw[e,rY];generalize 4294967296^i=P;grind
   rw[b,yR _ _ d,uN a,sG,zG,uC ω]
 . rw[Qu ω];have a:=Hr h;have c:4294967296^l.length<=4294967296^i:=rR δ ω;rw[uN ω]
def C3i {l:Wf} (h:A7 l) (i:Nat):dg l (i/32)/2^(i%32)%2=nv l/2^i%2:=by
 rw[B7j h,Mq];have e:i=32*(i/32)+i%32:=ω
 have a:(4294967296:Nat)=2^(i%32)*2^(32-i%32):=EU ω
 conv=>rhs;rw[e,tY, <-vW]
 generalize nv l/2^(32*(i/32))=x;rw[a,Nat.mod_mul_right_div_self];have a:2^(32-i%32)=2*2^(31-i%32):=by rw[<-Nat.pow_succ'];congr 1;omega
 rw[a,Nat.mod_mul_right_mod]
def B6q {a b i:Nat} (j:b≠0):a/2^i=2*(a/2^(i+1))+a/2^i%2/\
 a/2^i/b=2*(a/2^(i+1)/b)+(if b<=2*(a/2^(i+1)%b)+a/2^i%2 then 1 else 0)/\
 a/2^i%b=2*(a/2^(i+1)%b)+a/2^i%2-(if b<=2*(a/2^(i+1)%b)+a/2^i%2 then b else 0):=by
 have k:a/2^(i+1)=a/2^i/2:=by rw[rY,vW]
 have f:a/2^i=2*(a/2^(i+1))+a/2^i%2:=by rw[k];omega
 refine⟨f,?_⟩;have s:a/2^i%2<2:=wL _ δ;generalize a/2^i%2=d at*;generalize a/2^(i+1)=h at*;rw[f];have n:=xA h b;have t:=wL h (sX j);generalize h%b=r at*;generalize h/b=q at*;have l:2*h+d=b*(2*q)+(2*r+d):=by rw[<-n];grind
 rw[l,g2y (sX j),g2z];by_cases c:b<=2*r+d
 . rw[qN c,qN c];have o:2*r+d=b+(2*r+d-b):=ω
   have g:(2*r+d)/b=1:=Nat.div_eq_of_lt_le ω ω;refine⟨by rw[g],?_⟩;have:=xA (2*r+d) b;rw[g]at this;omega
 . rw[qG c,qG c,uN ω,uC ω];exact⟨rfl,ω⟩
def C5r {q:Wf} (a:A7 q) {M i:Nat} (d:nv q=M*2^(i+1)) (f:i/32<q.length):∃b:Nat,dg q (i/32)=b*2^(i%32+1)/\nv (q.set (i/32) ((dg q (i/32)+2^(i%32):Nat):Int))=(2*M+1)*2^i:=by
 have e:i=32*(i/32)+i%32:=ω
 have c:dg q (i/32)=(M*2^(i%32+1))%4294967296:=by
  rw[B7j a,d,Mq];congr 1;have a:i+1=32*(i/32)+(i%32+1):=ω
  rw[a,tY,g0m,yD _ (tP δ)]
 refine⟨M%2^(31-i%32),?_,?_⟩
 . rw[c];have a:(4294967296:Nat)=2^(31-i%32)*2^(i%32+1):=by
    rw[<-tY,(ω:31-i%32+(i%32+1)=32)]
   conv=>lhs;rw[a]
   rw[Nat.mul_mod_mul_right]
 . have c:=Lc (l:=q) (k:=i/32) (v:=((dg q (i/32)+2^(i%32):Nat):Int)) f;rw[qJ,d,Mq,sY]at c;have a:2^(32*(i/32))*2^(i%32)=2^i:=by rw[<-tY, <-e]
   rw[a]at c;have a:(2*M+1)*2^i=M*2^(i+1)+2^i:=by rw[rY];grind
   rw[a];omega
def QB {l:Wf} (h:A7 l) (i:Nat):dg l i=nv l/4294967296^i%4294967296:=by
 have d:0<4294967296^i:=tP δ;have a:=N8 h i;have f:=V6 h i;rcases sD i l.length with a|a
 . have b:=nQ l (i+1) a;rw[J3,rY]at b;have c:nv l=nv (l.take i)+(dg l i+nv (l.drop (i+1))*4294967296)*4294967296^i:=by rw[b];grind
   rw[c,yR _ _ d,uN f,sG,Nat.add_mul_mod_self_right,uC ω]
 . rw[Qu a];have b:=Hr h;have b:4294967296^l.length<=4294967296^i:=rR δ a;rw[uN ω]
def B4w {l:Wf} (h:A7 l) (i:Nat) {s:Nat} (a:s<=31):nv l/2^s/4294967296^i%4294967296=(dg l i+dg l (i+1)*4294967296)/2^s%4294967296:=by
 have d:0<2^s:=tP δ;have a:nv l/2^s/4294967296^i=nv l/4294967296^i/2^s:=by rw[vW,vW,sF]
 have b:dg l i+dg l (i+1)*4294967296=nv l/4294967296^i%(4294967296*4294967296):=by
  rw[Nat.mod_mul, <-QB h i,vW, <-rY, <-QB h (i+1),sF]
 rw[a,b];generalize nv l/4294967296^i=W;have c:W=W%(4294967296*4294967296)+2^s*(4294967296*(2^(32-s)*(W/(4294967296*4294967296)))):=by
  have a:=Nat.mod_add_div W (4294967296*4294967296);have b:=EU (s:=s) ω
  conv=>lhs;rw[<-a]
  congr 1
  calc 4294967296*4294967296*(W/(4294967296*4294967296))=4294967296*(4294967296*(W/(4294967296*4294967296))):=sN ..
   _=(2^s*2^(32-s))*(4294967296*(W/(4294967296*4294967296))):=by rw[<-b]
   _= _:=by rw[sN,g0m (2^(32-s))]
 conv=>lhs;rw[c,g3s _ _ d,zG]
def kE {l:Wf} (h:A7 l) {k s:Nat} :nv l/2^(32*k+s)=nv (l.drop k)/2^s:=by
 rw[tY, <-Mq, <-vW];congr 1;have b:0<4294967296^k:=tP δ;rcases sD l.length k with a|a
 . rw[sI ω];have c:=Hr h;have c:4294967296^l.length<=4294967296^k:=rR δ ω;rw[uN ω];rfl
 . have e:=nQ l k a;have a:=V6 h k;rw[e,g3s _ _ b,uN a,sG]
def A6a {n k:Nat} (h:n<2^k):L2 n<=k:=by
 rcases vR n with a|a
 . rw[a,DT];omega
 . have a:=(DR (n:=n) ω).1;rcases sD k (L2 n)with a|a
   . have:2^k<=2^(L2 n-1):=rR δ ω;omega
   . exact a
def B2k {n:Nat} (h:n≠0):L2 n=L2 (n/2)+1:=by
 rcases sD n 2 with a|a
 . have:n=1:=ω
   subst this;decide+kernel
 . have:=LJ (n:=n) (k:=1) a;rwa[Nat.pow_one]at this
def A9k {l:Wf} (h:A7 l):L2 (nv l)<=32*l.length:=by
 refine A6a ?_;rw[<-Mq];exact Hr h
def B6t {n:Nat} (h:n≠0):L2 n=L2 (dg (nc n) ((nc n).length-1))+32*((nc n).length-1):=by
 have a:(nc n).length≠0:=λh0=>h (AF.1 (qT h0))
 have a:4294967296^((nc n).length-1)<=n:=B9v ω;have b:=Eu n;have c:0<4294967296^((nc n).length-1):=tP δ;rw[QB (K5 n),F7,Mq,uC]
 . exact LJ (by rw[<-Mq];exact a)
 . rw[<-Mq,tX c,sF, <-rY,(ω:((nc n).length-1).succ=(nc n).length)];exact b
def B2h {z:Int} (a:0<=z) (b:z<4294967296):(BitVec.ofInt 32 z&&&BitVec.ofInt 32 1).toNat=z.toNat%2:=by
 rw[BitVec.toNat_and,yH,yH,(δ:((1:Int)%((2^32:Nat):Int)).toNat=1),Nat.and_one_is_mod];rw[(ω:z%((2^32:Nat):Int)=z)]
def C0h {d b s:Nat} (a:d=b*2^(s+1)) (g:d<4294967296) (c:s<=31):(BitVec.ofInt 32 (d:Int) |||BitVec.ofInt 32 ((2^s:Nat):Int)).toNat=d+2^s/\d+2^s<4294967296:=by
 have h:2^s<=2^31:=rR δ c;have e:(BitVec.ofInt 32 (d:Int) |||BitVec.ofInt 32 ((2^s:Nat):Int)).toNat=d+2^s:=by
  rw[BitVec.toNat_or,yH,yH];rw[(ω:((d:Int)%((2^32:Nat):Int)).toNat=d)];generalize f:2^s=z at*;rw[(ω:((z:Int)%((2^32:Nat):Int)).toNat=z),a, <-g5k];exact(g0x (by rw[<-f];exact zA δ ω) b).symm
 exact⟨e,by have:=(BitVec.ofInt 32 (d:Int) |||BitVec.ofInt 32 ((2^s:Nat):Int)).isLt;omega⟩
def mG (l:Wf) (j i:Nat):dg (l.drop j) i=dg l (j+i):=by
 unfold dg;simp[List.getD,xM]
def EA {l:Wf} {k i:Nat} (h:i<k):dg (l.take k) i=dg l i:=by
 unfold dg;simp[List.getD,wS,h]
def Kb {l:Wf} (h:A7 l) (k:Nat):nv (l.take k)=nv l%4294967296^k:=by
 rcases sD k l.length with a|a
 . have e:=nQ l k ω;rw[e,zG,uC (V6 h k)]
 . rw[qW a,uC];exact rJ (Hr h) (rR δ a)
def A3c {l:Wf} (h:A7 l) (j:Nat):nv (l.drop j)=nv l/4294967296^j:=by
 have:=kE h (k:=j) (s:=0);rw[tS,g1j,g3t, <-Mq]at this;exact this.symm
def D1a {u v:Wf} (d:A7 u) (f:A7 v) {j n:Nat} (c:n+2<=v.length) (a:nv v<4294967296^(n+2)) (k:dg v (n+1)≠0) (b:j+n+3<=u.length) (g:nv u<nv v*4294967296^(j+1)):eN (nv u/4294967296^j) (nv v) (dg v (n+1)) (dg v n) (dg u (j+n+2)*4294967296+dg u (j+n+1)) (dg u (j+n)) (4294967296^n):=by
 have c:0<4294967296^j:=tP δ;have b:nv u/4294967296^j<nv v*4294967296:=by
  rw[tX c,sN,sF 4294967296, <-rY];exact g
 have g:nv u/4294967296^j<4294967296^(n+3):=by
  rw[rY _ (n+2)];exact rJ b (rD _ (vX a))
 have i:A7 (v.take (n+2)):=λx hx=>f x (rW hx)
 have c:A7 (u.drop j):=λx hx=>d x (vQ hx)
 have l:A7 ((u.drop j).take (n+3)):=λx hx=>c x (rW hx)
 have ev:nv (v.take (n+2))=nv v:=by rw[Kb f,uC a]
 have a:nv ((u.drop j).take (n+3))=nv u/4294967296^j:=by rw[Kb c,A3c d,uC g]
 have h:=C8g (w:=(u.drop j).take (n+3)) (v:=v.take (n+2)) l i (n:=n) (by rw[qZ];omega) (by rw[qZ,sU];omega) (by rw[EA ω];exact k) (by rw[ev,a];exact b);rw[ev,a,EA ω,EA ω,EA ω,EA ω,EA ω,mG,mG,mG]at h;exact h
def B5c {o b U Pk P c a D x s t v:Nat} (h:o+P*(D*x)=U+Pk*c) (k:b+Pk*t=o+Pk*s) (g:t+4294967296*a=s+(D*v+c)) {Pi:Nat} (f:Pk=P*Pi):b+P*(D*(x+Pi*v))=U+Pk*4294967296*a:=by
 subst f;have d:=sA ((P*Pi)* ·) g;simp only[sY]at d|-;have i:P*(D*(Pi*v))=P*Pi*(D*v):=by grind
 have j:P*Pi*(4294967296*a)=P*Pi*4294967296*a:=by grind
 omega
def B2a {o b U Pk P c a x s t v:Nat} (h:o+Pk*c=U+P*x) (k:b+Pk*t=o+Pk*s) (g:s+4294967296*a=c+(t+v)) {Pi:Nat} (f:Pk=P*Pi):b+Pk*4294967296*a=U+P*(x+Pi*v):=by
 subst f;have d:=sA ((P*Pi)* ·) g;simp only[sY]at d|-;have i:P*(Pi*v)=P*Pi*v:=by grind
 have j:P*Pi*(4294967296*a)=P*Pi*4294967296*a:=by grind
 omega
def B6w {D v c t:Nat} (b:D<4294967296) (f:v<4294967296) (d:c<=D):D*v+c<=18446744069414584320/\(D*v+c)/4294967296+(if t<(D*v+c)%4294967296 then 1 else 0)<=D:=by
 have a:D*v<=D*4294967295:=sC _ ω;generalize D*v=p at*;split<;>omega
def B6m {B U P V e M a y z g t r o:Nat} (f:0<P) (i:0<V) (j:a+P*((e+1)*V)=U+M*B) (w:a<M*B) (v:e+1<=U/P/V+1) (A:y+M*g=a+P*V) (D:z+M*t=y+M*r) (l:t+g=r+B*o) (x:o<=1) (E:z<M*B):U/P/V=e/\z+P*(e*V)=U:=by
 have s:U/P/V<e+1:=by
  rw[tX i,tX f,sF];omega
 have b:U/P/V=e:=ω
 have u:P*(e*V)<=U:=by
  rw[<-b,sF];exact qY (rD _ (zL _ _)) (zL _ _)
 have k:P*((e+1)*V)=P*(e*V)+P*V:=by rw[uV,xH,sY]
 rw[k]at j;have c:M*t+M*g=M*r+M*B*o:=by rw[<-sY,l,sY,sN]
 have n:o=1:=by
  rcases sD o 1 with h|h
  . have d:o=0:=ω
    subst d;simp only[wU,tS]at c;omega
  . omega
 subst n;rw[xG]at c;exact⟨b,ω⟩
def D1w (m:Nat):4294967296^(m+2)*4294967296=4294967296^(m+3):=(rY (n:=4294967296) (m:=m+2)).symm
end Go.Proofs.YtknoakmaeleclaaGreat
