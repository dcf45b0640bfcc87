/- Part. -/
import Derived.WalkKit
import Derived.ProofKit
import Derived.OpenShut
import Derived.Carry
import Derived.ChangeSlices
import Derived.ChangeSame
import Derived.Test.YtiflhbllbgajeaaGreatKAD
set_option linter.all false
namespace Go.Proofs.YtiflhbllbgajeaaGreat
open Go.Vc Go.Gw
def Ot (n:Nat) (f g:Nat->Rat):B7 n (fun i=>f i-g i)=B7 n f-B7 n g:=by
 induction n with
 |zero=>rw[B7,B7,B7];decide+kernel
 |succ n a=>rw[B7,B7,B7,a];grind
def A0r {n:Nat} {f:Nat->Rat} (h:∀i,i<n->0<=f i):0<=B7 n f:=by
 induction n with
 |zero=>exact Rat.le_refl
 |succ n a=>
  rw[B7];exact Rat.add_nonneg (a fun i b=>h i (by omega)) (h n (by omega))
def A9x {n:Nat} {f:Nat->Rat} (h:∀i,i<n->0<=f i) (d:B7 n f=0):∀i,i<n->f i=0:=by
 induction n with
 |zero=>intro i a;omega
 |succ n j=>
  rw[B7]at d;have k:=A0r (n:=n) fun i a=>h i (by omega)
  have l:=h n (by omega);have c:f n=0:=by grind
  have b:B7 n f=0:=by grind
  intro i a;by_cases g:i=n
  . subst g;exact c
  . exact j (fun i a=>h i (by omega)) b i (by omega)
def IQ (fr to:Nat->Nat) (b i:Nat):Rat:=(if fr i=b then 1 else 0)-(if to i=b then 1 else 0)
def GG (m:Nat) (fr to:Nat->Nat) (f:Nat->Rat) (b:Nat):Rat:=B7 m fun i=>IQ fr to b i*f i
variable {n m:Nat} {fr to:Nat->Nat}
def Ul {φ:Nat->Rat} {a:Nat} (h:a<n):B7 n (fun b=>(if a=b then 1 else 0)*φ b)=φ a:=by
 rw[O4 h fun i _ c=>by rw[qL (Ne.symm c),sZ],qP rfl,wU]
def A5p {φ:Nat->Rat} {i:Nat} (a:fr i<n) (c:to i<n):B7 n (fun b=>IQ fr to b i*φ b)=φ (fr i)-φ (to i):=by
 rw[B6 (g:=fun b=>(if fr i=b then 1 else 0)*φ b-(if to i=b then 1 else 0)*φ b) fun b _=>by unfold IQ;grind,Ot,Ul a,Ul c]
def C7c {φ D:Nat->Rat} (h:∀i,i<m->fr i<n/\to i<n):B7 m (fun i=>D i*(φ (fr i)-φ (to i)))=B7 n (fun b=>φ b*GG m fr to D b):=by
 rw[B6 (g:=fun i=>B7 n fun b=>D i*(IQ fr to b i*φ b)) fun i a=>by rw[Dy,A5p (h i a).1 (h i a).2],Jw];refine B6 fun b _=> ?_
 unfold GG;rw[<-Dy];exact B6 fun i _=>by grind
def A6r {φ D s:Nat->Rat} (h:∀i,i<m->fr i<n/\to i<n) (j:∀i,i<m->0<s i) (g:∀i,i<m->D i=s i*(φ (fr i)-φ (to i))) (l:∀b,b<n->φ b=0\/GG m fr to D b=0):∀i,i<m->φ (fr i)-φ (to i)=0:=by
 have k:B7 m (fun i=>D i*(φ (fr i)-φ (to i)))=0:=by
  rw[C7c h];exact X6 fun b d=>by rcases l b d with e|e<;>rw[e]<;>grind
 have o:∀x:Rat,0<=x*x:=fun x=>by
  rcases(Rat.le_total (a:=0) (b:=x))with h|h
  . exact g3c h h
  . have d:0<= -x:=by grind
    have:=g3c d d;grind
 have:=A9x (f:=fun i=>D i*(φ (fr i)-φ (to i))) (fun i c=>by
  show 0<=D i*(φ (fr i)-φ (to i));rw[g i c,wO];exact g3c (Rat.le_of_lt (j i c)) (o _)) k
 intro i c;have e:=this i c;rw[g i c,wO]at e;rcases g0e.1 e with e|e
 . have:=j i c;rw[e]at this;exact absurd this (g3l)
 . rcases g0e.1 e with e|e<;>exact e
def flw (fr to:Nat->Nat) (s h θ:Nat->Rat) (i:Nat):Rat:=s i*(θ (fr i)-θ (to i)+h i)
def A5u (f g:Nat->Rat) (b:Nat):GG m fr to (fun i=>f i-g i) b=GG m fr to f b-GG m fr to g b:=by
 unfold GG;rw[<-Ot];exact B6 fun i _=>by grind
def B8e (f g:Nat->Rat) (w:Rat) (b:Nat):GG m fr to (fun i=>f i+w*g i) b=GG m fr to f b+w*GG m fr to g b:=by
 unfold GG;rw[<-Dy, <-Ax];exact B6 fun i _=>by grind
def Tp {f g:Nat->Rat} (h:∀i,i<m->f i=g i) (b:Nat):GG m fr to f b=GG m fr to g b:=B6 fun i a=>by rw[h i a]
def A8r {s h θ θ':Nat->Rat} (a:∀i,i<m->fr i<n/\to i<n) (d:∀i,i<m->0<s i) (c:∀b,b<n->GG m fr to (flw fr to s h θ) b=GG m fr to (flw fr to s h θ') b):∀i,i<m->flw fr to s h θ i=flw fr to s h θ' i:=by
 have:=A6r (φ:=fun b=>θ b-θ' b) (D:=fun i=>flw fr to s h θ i-flw fr to s h θ' i) a d (fun i _=>by unfold flw;grind) fun b a=> .inr (by rw[A5u,c b a];grind)
 intro i a;have e:=this i a;unfold flw;have:θ (fr i)-θ (to i)=θ' (fr i)-θ' (to i):=by grind
 rw[this]
def ZE {f:Nat->Rat} {lab:Nat->Nat} (a:∀i,i<m->fr i<n/\to i<n) (c:∀i,i<m->lab (fr i)=lab (to i)) (t:Nat):B7 n (fun b=>(if lab b=t then 1 else 0)*GG m fr to f b)=0:=by
 rw[<-C7c a];exact X6 fun i a=>by rw[c i a];grind
variable {n m k:Nat} {fr to:Nat->Nat} {s:Nat->Rat}
def RG (m:Nat) (fr to:Nat->Nat) (s:Nat->Rat) (b c:Nat):Rat:=B7 m fun i=>s i*(IQ fr to b i*IQ fr to c i)
def A6g (h:∀i,i<m->fr i<n/\to i<n) (θ:Nat->Rat) (b:Nat):B7 n (fun c=>RG m fr to s b c*θ c)=GG m fr to (fun i=>s i*(θ (fr i)-θ (to i))) b:=by
 rw[B6 (g:=fun c=>B7 m fun i=>s i*IQ fr to b i*(IQ fr to c i*θ c)) fun c _=>by
  unfold RG;rw[<-SL];exact B6 fun i _=>by grind,Jw]
 refine B6 fun i a=> ?_
 rw[Dy,A5p (h i a).1 (h i a).2];grind
def Qb (k:Nat) (o:Nat->Nat) (x:Nat->Rat) (b:Nat):Rat:=B7 k fun c=>if o c=b then x c else 0
def WL {o:Nat->Nat} (g:∀a c,a<k->c<k->o a=o c->a=c) (x:Nat->Rat) {c:Nat} (b:c<k):Qb k o x (o c)=x c:=by
 unfold Qb;rw[O4 b fun a d f=>qL fun e=>f (g a c d b e),qP rfl]
def Ns {o:Nat->Nat} (x:Nat->Rat) {b:Nat} (h:∀c,c<k->o c≠b):Qb k o x b=0:=X6 fun c a=>qL (h c a)
def A6f {o:Nat->Nat} (h:∀a,a<k->o a<n) (x:Nat->Rat) (b:Nat):B7 n (fun c=>RG m fr to s b c*Qb k o x c)=B7 k fun c=>RG m fr to s b (o c)*x c:=by
 rw[B6 (g:=fun c=>B7 k fun a=>RG m fr to s b c*(if o a=c then x a else 0)) fun c _=>by unfold Qb;rw[Dy],Jw];refine B6 fun a d=> ?_
 rw[O4 (h a d) fun c _ f=>by rw[qL (Ne.symm f),uX],qP rfl]
def A0m {o lab:Nat->Nat} (j:∀i,i<m->fr i<n/\to i<n) (u:∀i,i<m->0<s i) (h:∀a,a<k->o a<n) (g:∀a c,a<k->c<k->o a=o c->a=c)
 (r:∀φ:Nat->Rat,(∀i,i<m->φ (fr i)=φ (to i))->∀b,b<n->φ b=φ (lab b)) (v:∀b,b<n->∀a,a<k->o a≠lab b):nonsing k fun a c=>RG m fr to s (o a) (o c):=by
 intro x w c f;have t:=A6r (φ:=Qb k o x) (D:=fun i=>s i*(Qb k o x (fr i)-Qb k o x (to i))) j u (fun _ _=>rfl) fun b hbn=>by
  by_cases l:∃a,a<k/\o a=b
  . obtain⟨a,d,rfl⟩:=l;refine .inr ?_;rw[<-A6g j,A6f h];exact w a d
  . exact .inl (Ns x fun a d e=>l ⟨a,d,e⟩)
 rw[<-WL g x f,r (Qb k o x) (fun i g=>by have:=t i g;grind) (o c) (h c f)];exact Ns x fun a d=>v (o c) (h c f) a d
def B6q {lab:Nat->Nat} {F J:Nat->Rat} (c:∀b,b<n->lab b≠b->F b=J b) (f:∀t,B7 n (fun b=>(if lab b=t then 1 else 0)*F b)=0) (hJ:∀t,t<n->B7 n (fun b=>(if lab b=t then 1 else 0)*J b)=0):∀b,b<n->F b=J b:=by
 intro t a;by_cases d:lab t=t
 . have e:B7 n (fun b=>(if lab b=t then 1 else 0)*(F b-J b))=0:=by
    rw[B6 (g:=fun b=>(if lab b=t then 1 else 0)*F b-(if lab b=t then 1 else 0)*J b) fun b _=>by grind,Ot,f,hJ t a];grind
   rw[O4 a fun b f h=> ?_,qP d]at e
   . grind
   . by_cases h:lab b=t
     . rw[c b f (by omega)];grind
     . rw[qL h,sZ]
 . exact c t a d
def B6h {o lab:Nat->Nat} {h J right x:Nat->Rat} (g:∀i,i<m->fr i<n/\to i<n) (y:∀a,a<k->o a<n)
 (r:∀b,b<n->lab b≠b->∃a,a<k/\o a=b) (w:∀i,i<m->lab (fr i)=lab (to i)) (A:∀a,a<k->B7 k (fun c=>RG m fr to s (o a) (o c)*x c)=right a)
 (z:∀a,a<k->right a=J (o a)-GG m fr to (fun i=>s i*h i) (o a)) (l:∀t,t<n->B7 n (fun b=>(if lab b=t then 1 else 0)*J b)=0):∀b,b<n->GG m fr to (flw fr to s h (Qb k o x)) b=J b:=by
 refine B6q (lab:=lab) (fun b u v=> ?_) (fun t=>ZE g w t) l;obtain⟨a,f,rfl⟩:=r b u v;have d:=A a f;rw[<-A6f y,A6g g,z a f]at d;have j:GG m fr to (flw fr to s h (Qb k o x)) (o a)=GG m fr to (fun i=>s i*(Qb k o x (fr i)-Qb k o x (to i))+1*(s i*h i)) (o a):=Tp (fun i _=>by unfold flw;grind) _;rw[j,B8e,d];grind
abbrev Pz:=Int×Int×C0×C0
abbrev Hj:=Int×List Pz
def dB:Pz:=(0,0,((false,[]),[]),((false,[]),[]))
def W8 (E:List Pz) (i:Nat):Nat:=(E.getD i dB).1.toNat
def W9 (E:List Pz) (i:Nat):Nat:=(E.getD i dB).2.1.toNat
def Gz (E:List Pz) (i:Nat):Rat:=rv (E.getD i dB).2.2.1
def Tl (E:List Pz) (i:Nat):Rat:=rv (E.getD i dB).2.2.2
def nY (n:Int) (e:Pz):Prop:=0<=e.1/\e.1<n/\0<=e.2.1/\e.2.1<n/\e.1≠e.2.1/\0<rv e.2.2.1
instance (n:Int) (e:Pz):Decidable (nY n e):=by unfold nY;infer_instance
def E2 (N:Hj):Prop:=0<=N.1/\N.1<=16384/\N.2.length<=16384/\∀e∈N.2,nY N.1 e
instance (N:Hj):Decidable (E2 N):=by unfold E2;infer_instance
def Nh (E:List Pz):List Ln:=E.map fun e=>(e.1,e.2.1)
def J4 (N:Hj) (b:Nat):Nat:=(D9 (K7 N.1 (Nh N.2)) (b:Int)).toNat
def Hr (E:List Pz) (b c:Nat):Rat:=RG E.length (W8 E) (W9 E) (Gz E) b c
def Ke (E:List Pz) (f:Nat->Rat) (b:Nat):Rat:=GG E.length (W8 E) (W9 E) f b
def PX (E:List Pz) (t:Nat->Rat) (i:Nat):Rat:=flw (W8 E) (W9 E) (Gz E) (Tl E) t i
abbrev K2:Nat:=4294967296
abbrev K3:Nat:=4294968296
abbrev K4:Nat:=100000000000
def O3 (l:List C0) (i:Nat):Rat:=rv (l.getD i zr)
def Dq (s:Xr) (x:List C0):Prop:=∀t,t<s.length->B7 s.length (fun b=>(if s.getD b 0=(t:Int)then 1 else 0)*O3 x b)=0
instance (s:Xr) (x:List C0):Decidable (Dq s x):=by unfold Dq;infer_instance
def szN (k:Nat) (E:List Pz):Prop:=∀e∈E,sz k e.2.2.1/\sz k e.2.2.2
def N5 (N:Hj):Prop:=N.1<=7/\N.2.length<=9/\szN 2 N.2
def B3u (N:Hj):Prop:=E2 N/\1<=N.1/\N.1<=6/\N.2.length<=9/\∀e∈N.2,Qc e.2.2.1/\Qc e.2.2.2
def Hl (E:List Pz) (G:Nat->Nat->Rat) (l b:Nat):Rat:=Gz E l*(G (W8 E l) b-G (W9 E l) b)
def Kl (N:Hj) (G:Nat->Nat->Rat):Prop:=∀b,b<N.1.toNat->(∀c,c<N.1.toNat->J4 N c=c->G c b=0)/\∀c,c<N.1.toNat->Ke N.2 (fun l=>Hl N.2 G l b) c=(if b=c then 1 else 0)-(if J4 N b=c then 1 else 0)
def shF (E:List Pz) (G:Nat->Nat->Rat) (l k:Nat):Rat:=Gz E k*(Hl E G l (W9 E k)-Hl E G l (W8 E k)+if k=l then 1 else 0)
abbrev TFV:=Xr×Dn×Dn
def Ph (f:TFV):Prop:=D1 f.2.1/\D1 f.2.2/\f.2.2.1=f.2.1.1/\f.2.2.2.1=f.2.1.1/\f.2.1.2.1=(f.1.length:Int)
instance (f:TFV):Decidable (Ph f):=by unfold Ph;infer_instance
def IU (n:Nat) (f:Nat->Rat):List C0:=(List.range n).map fun i=>rc (f i)
end Go.Proofs.YtiflhbllbgajeaaGreat
namespace Go.Gw
open Go Go.RowKit Go.ChangeShapes Go.WideShapes Go.ChangeAt
section
variable {H:Type} {enc:TypeId×Value->H} {P:Program}
def JE (g:laidOutB P=true) {W W':World} {sp:Nat->Bool} (f:T8 W W'):∀(ts:List TypeId) (vs:List Value) (c:List (DataW H)) (b:List MemPlace),
 (∀t∈ts,P.readableRec t=true/\t<P.types.size)->DataW.TrodAll enc P W 0 (fun _=>true) true ts vs c b->(∀x∈b,x.block<W.heap.size)->(∀x∈b,sp x.block=true)->DataW.TrodAll enc P W' 0 sp true ts vs c b
 | [],vs,c,b,_,h,_,_=>by
  cases vs<;>cases c<;>simp[DataW.TrodAll]at h⊢;exact h
 |t::ts,vs,c,b,d,k,h,i=>by
  obtain⟨v,o,r,j,p,q,rfl,rfl,rfl,l,n⟩:=trodAll_cons k;refine trodAll_cons_mk ?_ (JE g f ts o j q (fun x a=>d x (by simp[a])) n (fun x a=>h x (by simp[a])) (fun x a=>i x (by simp[a])));exact WideElems.Trod_stays g (d t (by simp)).1 (d t (by simp)).2 l (fun x a=>f.same (h x (by simp[a]))) (fun x a=>i x (by simp[a]))
def B6a (w:laidOutB P=true) {f:Func} {s:ChangeSpec} {W W':World} {args:Array Value} {b o:List (DataW H)} {a:List MemPlace} {n:TypeId}
 (d:DataW.Whole enc P f.params.toList s.vars false W args.toList b o a) (l:s.vars= []) (z:f.resultTypes= #[n]) (A:P.underlying n=some .bool)
 (g:s.fn H b= {results:= [.lit (.bool true)],args:=b}) (y:∀t∈f.params.toList,P.readableRec t=true/\t<P.types.size) (i:T8 W W'):
 s.post enc P f false true false false W args (.bool true) W':=by
 have j:∀p∈a,p.block<W.heap.size:=fun p hp=>d.lt p hp
 have v:=d;obtain⟨p,q,u,h,k,_,_⟩:=d;rw[l]at h;obtain⟨rfl,rfl⟩:=trodVars_none h;rw[vV]at k;subst k;refine⟨b,[],a,[],a,[],v, ?_, ?_, ?_, ?_,fun r=>by cases r⟩
 . rw[vV,g,z];exact trodAll_mk1 (shut_bool A _)
 . rw[vV,g];exact JE w i _ _ _ _ y u j (fun x c=>by simpa using j x c)
 . rw[vV,g,l];rfl
 . refine World.keptBut_mono ?_ (i.frame (· ∈a));intro x c;exact⟨c, .inr (.inl c)⟩
end
end Go.Gw
namespace Go.Vc
open Go Go.RowKit Go.Gw Go.ChangeShapes Go.WideShapes Go.ChangeAt
def pK (P:Program):Nat->TypeId->Ty->Bool
 |0,_,_=>false
 |n+1,T,a=>match P.underlying T with
  |some (.int k)=>(match a with| .int k'=>decide (k=k') | _=>false)
  |some .bool=>(match a with| .bool=>true| _=>false)
  |some .string=>(match a with| .str=>true| _=>false)
  |some (.slice e)=>(match a with| .sl t=>pK P n e t&&Nat.beq (P.cellsOf e) t.size&&Nat.ble 1 t.size| _=>false)
  |some (.struct b)=>kZ P (pK P n) b.toList 0 a&&Nat.beq (P.cellsOf T) a.size
  |some (.array k e)=>kX (pK P n e) (P.cellsOf e) k a&&Nat.beq (P.cellsOf T) a.size
  | _=>false
section
variable {H:Type} {α:Type} {enc:TypeId×Value->H} {P:Program} {W:World}
def cells?_at {b:Nat} {a:Addr} {n:Nat} {cs:List Value} (h:W.cells? b a n=some cs):cs.length=n/\K9 W a cs:=by
 obtain⟨_,d,c⟩:=World.cells?_some h;exact⟨d,fun j v b=>by have:=c j (by have:=IR b;omega);rw[this];exact b⟩
def B0j {a:Addr} {v:Value} (h:W.cell? a=some v):a.spot=none:=by
 unfold World.cell? at h;split at h
 . cases b:a.spot with
   |none=>rfl
   |some _=>simp[b]at h
 . cases h
def YN {R:List Value->α->Prop} {b o sz:Nat} :∀(len:Nat),(∀i,i<len->∃a y,a.length=sz/\K9 W ⟨b,o+i*sz,none⟩ a/\R a y)->∃a l,l.length=len/\a.length=len*sz/\K9 W ⟨b,o,none⟩ a/\G7 R a l
 |0,_=>⟨[],[],rfl,by simp,fun j v c=>by simp at c,rfl⟩
 |len+1,h=>by
  obtain⟨a,l,r,f,s,t⟩:=YN (R:=R) (b:=b) (o:=o) (sz:=sz) len (fun i hi=>h i (by omega));obtain⟨d,y,g,k,n⟩:=h len (by omega);refine⟨a++d,l++ [y],by simp[r],by rw[rN,f,g,uP],fun j v c=> ?_,t.append ⟨d,[],by simp,n,rfl⟩⟩;rw[List.getElem?_append]at c;split at c
  . exact s j v c
  . rename_i u;have:=k _ v c;rw[L9]at this⊢;rw[f]at this u;rw[show o+len*sz+(j-len*sz)=o+j from by omega]at this;exact this
def A6d {n:Nat} {r:TypeId->Ty->Bool} {Z:Nat->Prop} {cs:List Value} (c:∀ {T:TypeId} {ty:Ty} {cs:List Value} {x:DataW H×List MemPlace},r T ty=true->DataW.trod enc P W 0 (fun _=>true) true n T cs=some x->∃y,C7 ty W Z cs y):
 ∀ {b:List Field} {off:Nat} {ty:Ty},kZ P r b off ty=true->(∀f∈b,∃x,DataW.trod enc P W 0 (fun _=>true) true n f.type ((cs.drop f.offset).take (P.cellsOf f.type))=some x)->cs.length=off+ty.size->∃y,C7 ty W Z (cs.drop off) y
 | [],off,ty,h,d,a=>by
  cases ty<;>simp[kZ]at h;exact⟨(),by rw[sD (by simp[Ty.size]at a;omega)];rfl⟩
 | [f],off,ty,h,d,i=>by
  have a:(Nat.beq f.offset off&&r f.type ty&&Nat.beq (P.cellsOf f.type) ty.size)=true:=by cases ty<;>exact h
  simp only[qC]at a;obtain⟨x,d⟩:=d f (by simp);obtain⟨y,g⟩:=c a.1.2 d;rw[qE a.1.1,qE a.2,qX (by rw[sN];omega)]at g;exact⟨y,g⟩
 |f::v::b,off,ty,h,d,o=>by
  cases ty<;>simp only[kZ]at h<;>try cases h
  rename_i a u;simp only[qC]at h;obtain⟨⟨⟨i,j⟩,k⟩,l⟩:=h;obtain⟨x,s⟩:=d f (by simp);obtain⟨y,g⟩:=c j s;rw[qE i,qE k]at g;obtain⟨z,t⟩:=A6d c l (fun q hq=>d q (qM _ hq)) (by rw[o];simp only[Ty.size];omega);exact⟨(y,z),(cs.drop off).take a.size,cs.drop (off+a.size),by rw[<-vT,uG],g,t⟩
def A6b {n:Nat} {r:TypeId->Ty->Bool} {Z:Nat->Prop} {cs:List Value} {e:TypeId} {sz:Nat} (c:∀ {T:TypeId} {ty:Ty} {cs:List Value} {x:DataW H×List MemPlace},r T ty=true->DataW.trod enc P W 0 (fun _=>true) true n T cs=some x->∃y,C7 ty W Z cs y):
 ∀ {k i:Nat} {ty:Ty},kX (r e) sz k ty=true->(∀j,j<k->∃x,DataW.trod enc P W 0 (fun _=>true) true n e ((cs.drop ((i+j)*sz)).take sz)=some x)->cs.length=i*sz+ty.size->∃y,C7 ty W Z (cs.drop (i*sz)) y
 |0,i,ty,h,b,a=>by
  cases ty<;>simp[kX]at h;exact⟨(),by rw[sD (by simp[Ty.size]at a;omega)];rfl⟩
 |1,i,ty,h,a,f=>by
  have b:(r e ty&&Nat.beq ty.size sz)=true:=by cases ty<;>exact h
  simp only[qC]at b;obtain⟨x,a⟩:=a 0 (by omega);rw[tD]at a;obtain⟨y,d⟩:=c b.1 a;have:=qE b.2;rw[qX (by rw[sN];omega)]at d;exact⟨y,d⟩
 |k+2,i,ty,h,g,u=>by
  cases ty<;>simp only[kX]at h<;>try cases h
  rename_i a v;simp only[qC]at h;obtain⟨⟨s,b⟩,t⟩:=h;obtain⟨x,l⟩:=g 0 (by omega);rw[tD]at l;obtain⟨y,d⟩:=c s l;have b:=qE b;have d:C7 a W Z ((cs.drop (i*sz)).take a.size) y:=by rw[b];exact d
  have f:(i+1)*sz=i*sz+a.size:=by rw[uP,b]
  obtain⟨z,o⟩:=A6b c (i:=i+1) t (fun j hj=>by
   have:=g (j+1) (by omega);rw[show i+(j+1)=i+1+j from by omega]at this;exact this) (by rw[u,f];simp only[Ty.size];omega)
  rw[f]at o;exact⟨(y,z),(cs.drop (i*sz)).take a.size,cs.drop (i*sz+a.size),by rw[<-vT,uG],d,o⟩
def WS:∀ {m n:Nat} {T:TypeId} {ty:Ty} {cs:List Value} {x:DataW H×List MemPlace},pK P m T ty=true->DataW.trod enc P W 0 (fun _=>true) true n T cs=some x->∃y,C7 ty W (fun b=>b<W.heap.size) cs y
 |0,_,_,_,_,_,h,_=>by cases h
 |m+1,n,T,ty,cs,x,h,c=>by
  simp only[pK]at h;split at h
  . rename_i a4 a;cases ty<;>simp only at h<;>try cases h
    rename_i af;have:=qA h;subst this;obtain⟨ab,e,_,J⟩:=DataW.trod_int a c;exact⟨ab,e,by simp only[Lit.wf,qC,rT]at J;exact J⟩
  . rename_i a;cases ty<;>simp only at h<;>try cases h
    obtain⟨b,e,_⟩:=DataW.trod_bool a c;exact⟨b,e⟩
  . rename_i a;cases ty<;>simp only at h<;>try cases h
    obtain⟨a8,e,_⟩:=DataW.trod_string a c;exact⟨a8,e⟩
  . rename_i e a;cases ty<;>simp only at h<;>try cases h
    rename_i t;simp only[qC]at h;have a0:=qE h.1.2;rcases DataW.trod_slice a c with⟨s,_⟩ | ⟨k,len,A,YM,ag,q,G,s,_,_,ad,E,ac,X,_⟩
    . exact⟨[],none,0,s,qZ _,rM _,fun _=>rfl, .inl rfl⟩
    . by_cases O:len=0
      . subst O;exact⟨[],some k,A,s,rM _,E,fun g=>(by cases g), .inl rfl⟩
      . have F:∀i,i<len->∃d y,d.length=t.size/\K9 W (k.add (i*t.size)) d/\C7 t W (fun b=>b<W.heap.size) d y:=fun i r=>by
         have D:=X i r;rw[qO (by omega),a0]at D;obtain⟨d,V,Y⟩:=g1s.1 D;obtain⟨B,u⟩:=cells?_at V;obtain⟨y,a3⟩:=WS (m:=m) h.1.1 Y;exact⟨d,y,B,u,a3⟩
        obtain⟨M,ai,B,u,_⟩:=F 0 (by omega);have ae:=qT h.2;obtain⟨a9,a1⟩:=B8g (l:=M) (i:=0) (by omega);have v:=u 0 a9 a1;have Q:(k.add (0*t.size)).add 0=k:=by simp[Addr.add]
        rw[Q]at v;have I:=B0j v;obtain⟨b,o,ah⟩:=k;simp only at I;subst I;have U:b<W.heap.size:=block_lt_of_cell v;obtain⟨d,l,a5,_,a6,a7⟩:=YN (R:=C7 t W (fun b=>b<W.heap.size)) (b:=b) (o:=o) (sz:=t.size) len (fun i r=>by
         obtain⟨d,y,V,D,Y⟩:=F i r;rw[L9]at D;exact⟨d,y,V,D,Y⟩)
        exact⟨l,some ⟨b,o,none⟩,A,by rw[s,a5],by omega,E,fun g=>(by cases g), .inr ⟨b,o,d,rfl,U,a6,a7⟩⟩
  . rename_i N a;simp only[qC]at h;obtain⟨aa,q,G,_,z,a2,w⟩:=DataW.trod_struct a c;have:=A6d (enc:=enc) (P:=P) (W:=W) (n:=q) (Z:=fun b=>b<W.heap.size) (cs:=cs) (fun g c=>WS (m:=m) g c) h.1 (fun f hf'=>by
     obtain⟨i,r,V⟩:=g3i hf';have Y:i<N.size:=by simpa using r
     have D:=w i f (by rw[tY Y];simpa using V);rw[qO (by omega)]at D;exact⟨_,D⟩) (by rw[z,qE h.2];omega)
    simpa using this
  . rename_i a4 e a;simp only[qC]at h;obtain⟨aa,q,G,_,z,a2,w⟩:=DataW.trod_array a c;have:=A6b (enc:=enc) (P:=P) (W:=W) (n:=q) (Z:=fun b=>b<W.heap.size) (cs:=cs) (e:=e) (i:=0) (fun g c=>WS (m:=m) g c) h.1 (fun j hj=>by
     have D:=w j hj;rw[qO (by omega)]at D;rw[sF];exact⟨_,D⟩) (by rw[z,qE h.2];omega)
    simpa using this
  . cases h
end
def iB (c:Bool) (A B:Prop):Prop:=(c=true->A)/\(c=false->B)
def C1z (P:Program) (T:TypeId) (a:Bool):Bool:=match P.underlying T with
 |some (.struct _)=>a
 |some (.array _ _)=>false
 | _=> !a
def jP (P:Program):List TypeId->List AM->Bool
 | [],[]=>true
 |T::b, .val a c::as=>pK P 40 T c&&C1z P T a&&jP P b as
 | _,_=>false
section
variable {H:Type} {enc:TypeId×Value->H} {P:Program} {W:World}
def B5p {m:Nat} {T:TypeId} {ty:Ty} {a:Bool} {r:Reach} {b0:Nat} {v:Value} {d:DataW H} {p:List MemPlace} (h:pK P m T ty=true) (f:C1z P T a=true) (g:Value.okWide P W r b0 T v) (j:DataW.Trod enc P W 0 (fun _=>true) true T v d p):
 ∃y,Cd a ty W (fun b=>b<W.heap.size) v y:=by
 obtain⟨n,j⟩:=j;obtain⟨y,i⟩:=WS h j;refine⟨y, ?_⟩;cases m with
 |zero=>cases h
 |succ m=>
  simp only[pK]at h;unfold C1z at f;split at h
  . rename_i o c;simp only[c,rO]at f;obtain⟨n,rfl⟩:=okWide_int c g;subst f;exact i
  . rename_i c;simp only[c,rO]at f;obtain⟨n,rfl⟩:=okWide_bool c g;subst f;exact i
  . rename_i c;simp only[c,rO]at f;obtain⟨n,rfl⟩:=okWide_string c g;subst f;exact i
  . rename_i e c;simp only[c,rO]at f;obtain⟨s,t,u,rfl⟩:=okWide_slice c g;subst f;exact i
  . rename_i l c;simp only[c]at f;obtain⟨k,rfl,_⟩:=okWide_struct c g;subst f;exact⟨k.toList,by simp,i⟩
  . rename_i c;simp only[c]at f;cases f
  . cases h
def iE {r:Reach} {b0:Nat} :∀ {ts:List TypeId} {as:List AM} {vs:List Value} {a:List (DataW H)} {c:List MemPlace},jP P ts as=true->DataW.TrodAll enc P W 0 (fun _=>true) true ts vs a c->(∀(j:Nat) (t:TypeId) (v:Value),ts[j]? =some t->vs[j]? =some v->Value.okWide P W r b0 t v)->∃x,Ap P W (fun b=>b<W.heap.size) as vs x
 | [],[],vs,a,c,_,h,_=>by
  cases vs with
  |nil=>exact⟨(),rfl⟩
  |cons _ _=>cases a<;>exact h.elim
 | [],_:: _,_,_,_,h,_,_=>by cases h
 | _:: _,[],_,_,_,h,_,_=>by cases h
 |T::ts, .row _ _:: _,_,_,_,h,_,_=>by cases h
 |T::ts, .box _ _:: _,_,_,_,h,_,_=>by cases h
 |T::ts, .fn _ _ _:: _,_,_,_,h,_,_=>by cases h
 |T::ts, .rows _ _ _:: _,_,_,_,h,_,_=>by cases h
 |T::ts, .val o A::as,vs,a,c,h,i,d=>by
  simp only[jP,qC]at h;obtain⟨v,n,s,w,p,q,rfl,rfl,rfl,f,g⟩:=trodAll_cons i;obtain⟨y,k⟩:=B5p h.1.1 h.1.2 (d 0 T v rfl rfl) f;obtain⟨z,l⟩:=iE h.2 g (fun j t u ht hu=>d (j+1) t u (by simpa using ht) (by simpa using hu));exact⟨(y,z),v,n,rfl,k,l⟩
def lF (as:List AM):A6:= {args:=as,res:= [.val false .bool],pre:=fun _=>True,post:=fun _ r=>r.1=true}
def A9b {f:FuncId} {as:List AM} {vs:List Value} {x:A2 as} (c:Bw as=true) (g:A7 P f (lF as)) (h:Ap P W (fun b=>b<W.heap.size) as vs x):Gw.fE P f vs W fun v W'=>v= .bool true/\T8 W W':=by
 refine(g W _ vs x (fun _ h=>h) h (by show Dis W (Q5 as vs);rw[FV c];trivial) trivial).mono fun v l ⟨j,r,o,us,Zn,hpost,_,hv,_,hrep,_⟩=>⟨?_,j.ext (fun b ⟨u,hu,_⟩=>by rw[show Q5 (lF as).args vs= []from FV c vs]at hu;cases hu)⟩
 obtain⟨u,k,e,a,_,d⟩:=hrep;rw[show k= []from d]at e;subst e;have a: [u]= [Value.bool r.1]:=a;have i:r.1=true:=hpost;rw[i]at a;rw[hv];simpa[Yt]using a
def pU {f:FuncId} {s:A6} (h:∀x,¬s.pre x):A7 P f s:=fun _ _ _ x _ _ _ a=>absurd a (h x)
def A1:Ki P []:=fun _ _ h=>by cases h
def A0 {f:FuncId} {s:A6} {l:H8} (c:A7 P f s) (d:Ki P l) (i:s.inl=none:=by rfl):Ki P ((f,s)::l):=fun g t h=>by
 unfold Hp at h;cases a:Nat.beq f g with
 |true=>
  rw[a]at h;obtain rfl:=qE a;obtain rfl:s=t:=by simpa using h
  exact⟨c,fun j b=>by rw[i]at b;cases b⟩
 |false=>rw[a]at h;exact d g t h
def Gj {f:FuncId} {run:Inl} {l:H8} (b:TC P f run) (c:Ki P l):Ki P ((f,Hq run)::l):=fun g t h=>by
 unfold Hp at h;cases a:Nat.beq f g with
 |true=>
  rw[a]at h;obtain rfl:=qE a;obtain rfl:Hq run=t:=by simpa using h
  exact⟨fun _ _ _ _ _ _ _ d=>d.elim,fun r i=>by cases i;exact b⟩
 |false=>rw[a]at h;exact c g t h
def Jp:A5d P []:=fun _ h=>by cases h
def V6 {d:Nat} {sp:H8} {an:An} {l:List (Nat×H8×An)} (b:Ki P sp) (c:A5d P l):A5d P ((d,sp,an)::l):=fun x a=>by
 rcases qI.1 a with rfl|a
 . exact b
 . exact c x a
end
open Go Go.RowKit Go.Gw
def GY (g:FuncId) (t:Ty) (e:TypeId) (φ:t.den->t.den->Int) (_:Nat) (b:St) (ss:List SV) (k:St->List SV->Prop):Prop:=
 match ss with
 | [⟨false,[.row q]⟩,⟨false,[.fn a []]⟩]=>bif Nat.beq a g then(match DL b t e q with
  |some l=>l.length<=100000/\∀a:List t.den,(Ty.sl t).wf a->a.Perm l->a.Pairwise (fun c d=>¬φ d c<0)->k (addM [.row t e] (a,()) [q] (dropM b [q])) []
  |none=>False)else False
 | _=>False
def B0i (g:FuncId) (t:Ty) (e:TypeId) (φ:t.den->t.den->Int) {a:St} {d:Nat} {ss:List SV} {k k':St->List SV->Prop} (h:GY g t e φ d a ss k) (f:∀b c,C4 a b->k b c->k' b c):GY g t e φ d a ss k':=by
 unfold GY at h⊢;split at h
 . obtain⟨a,h⟩:=B9 h;rw[a,qV];split at h
   . exact⟨h.1,fun i c a b=>f _ _ ((C4.dropM _ _).trans (C4.addM _ _ _ _)) (h.2 i c a b)⟩
   . exact h.elim
 . exact h.elim
def WW (g:FuncId) (t:Ty) (e:TypeId) (φ:t.den->t.den->Int):Inl:= {run:=GY g t e φ,step:=B0i g t e φ}
def Cr (t:Ty) (e:TypeId) (φ:t.den->t.den->Int):A6:=
 { args:= [.row t e],res:= [],shared:=true,pre:=fun _=>True,post:=fun _ _=>True,mpost:=fun(x:List t.den×Unit) _ (o:List t.den×Unit)=>o.1.Perm x.1/\o.1.Pairwise fun a b=>¬φ b a<0}
def A5h (P:Program) (f g:FuncId) (t:Ty) (e:TypeId) (φ:t.den->t.den->Int):Prop:=
 ∀(w:World) (Z:Nat->Prop) (v:Value) (l:List t.den),(∀b,Z b->b<w.heap.size)->fD P w Z (.row t e) v l->l.length<=100000->C1c P f (Cr t e φ) [v, .func (.func g) #[] #[]] w Z (l,())
def bL {P:Program} {tys:List (Nat×TI)} {f g:FuncId} {t:Ty} {e:TypeId} {φ:t.den->t.den->Int} (y:A5h P f g t e φ):TC P f (WW g t e φ):=by
 refine {go:= ?_};intro aj ai k E A Z B H a5 vs a4 aa n Y ab b;replace b:GY g t e φ H k a5 a4:=b;unfold GY at b;split at b
 . rename_i q D;obtain⟨O,w⟩:=B9 b;clear b;obtain rfl:=qE O;split at w
   . rename_i ac a;obtain⟨Q,V⟩:=w;obtain⟨a7,af,rfl,I,a8,ag,rfl,J,rfl⟩:=Y;have h:a7=B q:=by
      obtain⟨u,G,h,i,l⟩:=I;cases h;exact i
     have i:a8= .func (.func D) #[] #[]:=by
      obtain⟨u,G,h,i,l⟩:=J;cases h;exact i
     subst h i;have F:=n.locs q;have j:∃d,∃c,∃l':List d.den,k.L q= .row d c l':=by
      unfold DL at a;split at a
      . exact⟨_,_,_,by assumption⟩
      . cases a
     obtain⟨d,c,z,j⟩:=j;unfold DL at a;rw[j]at a F;simp only at a;split at a
     . rename_i a1;subst a1;cases v:Nat.beq c e with
       |false=>simp[v]at a
       |true=>
        simp only[v,qV,rG]at a;obtain rfl:=qE v;subst a;obtain⟨a9,T,N,M⟩:=F;have W:fD P A Z (.row d c) (B q) z:=⟨a9,T,N,fun l u=>(M l u).2⟩;have X:=y A Z (B q) z n.zlt W Q;have R:live (k.L q):=by rw[j];trivial
        have a3:lz A k [q] B Z true=Z:=by funext l;simp[lz]
        have:=fL (cx:=⟨P,tys⟩) (s:=Cr d c φ) (x:=(z,())) (vs:= [B q, .func (.func D) #[] #[]]) (mu:= [q]) n (by rw[show(Cr d c φ).shared=true from rfl,a3];exact X) rfl
         ⟨⟨rfl,fun l u=>by rw[j];exact u⟩,trivial⟩ (by simp) (fun ad G=>by simp at G;subst G;exact R)
        refine Gw.fE.mono this fun ae ah ⟨_,r,o,a6,_,how,_,hmp,hv,Z',B',h3,h4,_⟩=> ?_
        obtain⟨U,a0⟩:=hmp rfl;have a2:a6= []:=h4;subst a2;exact⟨_,Z',B',[],[],h3,hv,rfl,fun s y=>(by cases y),V o.1 how.1 U a0⟩
     . cases a
   . exact w.elim
 . exact b.elim
def TH (P:Program) (as:List (Bool×Ty)) (c:Bool) (r a:Ty) (φ:a.den->Aj as->r.den):List SV->Option SV
 | [⟨false,[.val b n]⟩]=>if h:b=a then some ⟨false,[.fv P as c r (fun _=>True) (φ (h▸n))]⟩else none
 | _=>none
def B3p (P:Program) (as:List (Bool×Ty)) (b:Bool) (r a:Ty) (φ:a.den->Aj as->r.den):Inl:=
 { run:=fun _ f c k=>match TH P as b r a φ c with
    |some sv=>k f [sv]
    |none=>False
   res:=TH P as b r a φ
   step:=fun {f i c k j} h g=>by
    cases d:TH P as b r a φ c with
    |none=>rw[d]at h;exact h.elim
    |some sv=>rw[d]at h;exact g _ _ (C4.refl _) h}
def C9i (P:Program) (f:FuncId) (as:List (Bool×Ty)) (d:Bool) (r a:Ty) (φ:a.den->Aj as->r.den):Prop:=
 ∀(w:World) (Z:Nat->Prop) (v:Value) (n:a.den),C7 a w Z [v] n->Gw.fE P f [v] w fun u c=>T8 w c/\∃Zn:Nat->Prop,(∀b,Zn b->Z b\/(w.heap.size<=b/\b<c.heap.size))/\A1u P c Zn u as d r (fun _=>True) (φ n)
def A1u.mono {P:Program} {w:World} {Z Z':Nat->Prop} {v:Value} {as:List (Bool×Ty)} {d:Bool} {r:Ty} {a:Aj as->Prop} {φ:Aj as->r.den} (h:A1u P w Z v as d r a φ) (f:∀b,Z b->Z' b):A1u P w Z' v as d r a φ:=
 RC.mono (B:=fun _=>v) (B':=fun _=>v) (n:=0) (c:= .fv P as d r a φ) f (fun _ _=>rfl) (fun _ _=>rfl) trivial h
def B3q {P:Program} {f:FuncId} {as:List (Bool×Ty)} {i:Bool} {r a:Ty} {φ:a.den->Aj as->r.den} (l:C9i P f as i r a φ):TC P f (B3p P as i r a φ):=by
 have res:∀ {x:Zn} {u:World} {j:St} {E:G8} {w:World} {Z:Nat->Prop} {B:Nat->Value} {h:List SV} {n:List Value} {sv:SV},C1 x u j E w Z B->Tc w Z B h n->TH P as i r a φ h=some sv->
  Gw.fE P f n w fun v k=>T8 w k/\∃Z':Nat->Prop,(∀b,Z b->Z' b)/\(∀b,Z' b->Z b\/(w.heap.size<=b/\b<k.heap.size))/\RS k Z' B sv v:=by
  intro x u j E w Z B h n sv o s g;unfold TH at g;split at g
  . rename_i N J;split at g
    . rename_i G;subst G;cases g;obtain⟨M,X,rfl,F,rfl⟩:=s;obtain⟨z,W,A,D,R⟩:=F;cases A;refine Gw.fE.mono (l w Z M J D) fun z k ⟨t,Zn,hz,hf⟩=>⟨t,fun b=>Z b\/Zn b,fun _=> .inl,fun b H=>H.elim .inl (hz b), ?_⟩
      exact⟨z,[],rfl,hf.mono fun _=> .inr,rfl⟩
    . cases g
  . cases g
 refine {go:= ?_,res:=res};intro x u j E w Z B Q h n I T o s U d;replace d:(match TH P as i r a φ h with|some sv=>I j [sv] |none=>False):=d;cases c:TH P as i r a φ h with
 |none=>rw[c]at d;exact d.elim
 |some sv=>
  rw[c]at d;refine Gw.fE.mono (res o s c) fun v k ⟨t,Z',hz,hz',hrep⟩=>⟨j,Z',B,[sv],[v],o.more t hz hz',rfl,⟨v,[],rfl,hrep,rfl⟩,fun V l=> ?_,d⟩
  rw[qR]at l;subst l;unfold TH at c;split at c
  . split at c
    . cases c;intro O y;rw[qR]at y;subst y;trivial
    . cases c
  . cases c
end Go.Vc
namespace Go.Proofs.YtiflhbllbgajeaaGreat
def Fc {s:Xr} {k:Nat} {v i:Int} (b:k<s.length):D9 (s.set k v) i=if i.toNat=k then v else D9 s i:=by
 unfold D9;simp only[qF,vE];by_cases h:k=i.toNat
 . subst h;simp[b]
 . rw[qL h,qL (fun a=>h a.symm)]
def UF.le {s:Xr} (h:UF s) {b:Int} (a:0<=b) (c:b<(s.length:Int)):0<=D9 s b/\D9 s b<=b:=by
 have:=h b.toNat (by omega);rw[show((b.toNat:Nat):Int)=b from by omega]at this;exact this
def Xn {s:Xr} (h:UF s):∀(k:Nat) (b:Int),0<=b->b<(s.length:Int)->b.toNat<=k->OG s k b=OG s b.toNat b
 |0,b,a,c,d=>by rw[show b.toNat=0 from by omega]
 |k+1,b,d,f,j=>by
  obtain⟨c,i⟩:=h.le d f;by_cases a:D9 s b=b
  . simp only[OG,qP a];cases g:b.toNat with
    |zero=>rfl
    |succ m=>simp only[OG,qP a]
  . simp only[OG,qL a];have l:D9 s b<b:=by omega
    rw[Xn h k (D9 s b) c (by omega) (by omega)];cases g:b.toNat with
    |zero=>omega
    |succ m=>
     simp only[OG,qL a];rw[Xn h m (D9 s b) c (by omega) (by omega)]
def A7f {s:Xr} (h:UF s) {b:Int} (a:0<=b) (c:b<(s.length:Int)):root s b=if D9 s b=b then b else root s (D9 s b):=by
 obtain⟨d,f⟩:=h.le a c;unfold root;rw[<-Xn h (b.toNat+1) b a c (by omega)];simp only[OG];split
 . rfl
 . exact Xn h _ _ d (by omega) (by omega)
def Dx {s:Xr} (h:UF s) {b:Int} (a:0<=b) (c:b<(s.length:Int)) (d:D9 s b=b):root s b=b:=by rw[A7f h a c,qP d]
def Fh {s:Xr} (h:UF s) {b:Int} (c:0<=b) (d:b<(s.length:Int)):root s (D9 s b)=root s b:=by
 by_cases a:D9 s b=b
 . rw[a]
 . rw[A7f h c d,qL a]
def bB {s:Xr} (h:UF s) {q:Int->Prop} (f:∀b,0<=b->b<(s.length:Int)->D9 s b=b->q b) (g:∀b,0<=b->b<(s.length:Int)->D9 s b<b->0<=D9 s b->q (D9 s b)->q b):∀b,0<=b->b<(s.length:Int)->q b:=by
 have l:∀(k:Nat) (b:Int),b.toNat<=k->0<=b->b<(s.length:Int)->q b:=by
  intro k
  induction k with
  |zero=>
   intro b d a c;obtain⟨d,i⟩:=h.le a c;exact f b a c (by omega)
  |succ k j=>
   intro b d a c;obtain⟨d,i⟩:=h.le a c;by_cases i:D9 s b=b
   . exact f b a c i
   . exact g b a c (by omega) d (j _ (by omega) d (by omega))
 exact fun b a c=>l b.toNat b (qZ _) a c
def mJ {s:Xr} (h:UF s) {b:Int} (a:0<=b) (c:b<(s.length:Int)):0<=root s b/\root s b<=b/\D9 s (root s b)=root s b:=by
 refine bB h (q:=fun b=>0<=root s b/\root s b<=b/\D9 s (root s b)=root s b) (fun b a c d=> ?_) (fun b a c d g f=> ?_) b a c
 . rw[Dx h a c d];exact⟨a,qG _,d⟩
 . rw[Fh h a c]at f;exact⟨f.1,by omega,f.2.2⟩
def A9v {s b:Xr} (h:UF s) (f:UF b) (a:b.length=s.length) (k:∀i:Int,0<=i->i<(s.length:Int)->root s (D9 b i)=root s i) (j:∀i:Int,0<=i->i<(s.length:Int)->D9 b i=i->D9 s i=i):∀i:Int,0<=i->i<(s.length:Int)->root b i=root s i:=by
 intro i a c;refine bB f (q:=fun i=>root b i=root s i) (fun d a c g=> ?_) (fun d a c g l b=> ?_) i a (by omega)
 . rw[Dx f a c g,Dx h a (by omega) (j d a (by omega) g)]
 . rw[<-Fh f a c,b,k d a (by omega)]
def C6g {s:Xr} (h:UF s) {b:Int} (d:0<=b) (f:b<(s.length:Int)):UF (s.set b.toNat (D9 s (D9 s b)))/\∀i:Int,0<=i->i<(s.length:Int)->root (s.set b.toNat (D9 s (D9 s b))) i=root s i:=by
 have a:b.toNat<s.length:=by omega
 obtain⟨c,l⟩:=h.le d f;obtain⟨n,c1⟩:=h.le c (by omega:D9 s b<(s.length:Int));have g:UF (s.set b.toNat (D9 s (D9 s b))):=fun i hi=>by
  rw[qJ]at hi;rw[Fc a];split
  . rename_i e;rw[show((i:Nat):Int)=b from by omega];omega
  . exact h i hi
 refine⟨g,A9v h g (by rw[qJ]) (fun i j k=> ?_) (fun i j k=> ?_)⟩
 . rw[Fc a];split
   . rw[show i=b from by omega,Fh h c (by omega),Fh h d f]
   . exact Fh h j k
 . rw[Fc a];split
   . intro e;have:i=b:=by omega
     subst this;omega
   . exact id
def B4k {s:Xr} (h:UF s) {m M:Int} (l:0<=m) (c:m<=M) (a:M<(s.length:Int)) (k:D9 s m=m) (g:D9 s M=M):
 UF (s.set M.toNat m)/\∀i:Int,0<=i->i<(s.length:Int)->root (s.set M.toNat m) i=if root s i=M then m else root s i:=by
 have f:M.toNat<s.length:=by omega
 have d:UF (s.set M.toNat m):=fun i hi=>by
  rw[qJ]at hi;rw[Fc f];split
  . omega
  . exact h i hi
 have a:(s.set M.toNat m).length=s.length:=qJ;refine⟨d,fun i a c=> ?_⟩;refine bB d (q:=fun i=>root (s.set M.toNat m) i=if root s i=M then m else root s i) (fun b a c hb=> ?_) (fun b a c hb hn hq=> ?_) i a (by omega)
 . rw[Dx d a c hb];rw[Fc f]at hb;split at hb
   . have e:b=M:=by omega
     rw[e,Dx h (by omega) (by omega) g,qP rfl];omega
   . rename_i j;rw[Dx h a (by omega) hb,qL (by omega)]
 . rw[<-Fh d a c,hq];rw[Fc f]at hb⊢;split at hb
   . rename_i e;have e:b=M:=by omega
     have c:b.toNat=M.toNat:=by omega
     rw[qP c,e,Dx h (by omega) (by omega) g,Dx h l (by omega) k,qP rfl];split<;>rfl
   . rename_i j;rw[qL j,Fh h a (by omega)]
open Go.Vc Go.Gw
def lJ {n:Int} {ls:List Ln} :Qd n ls=0↔ZU n ls:=by
 unfold Qd ZU;split
 . constructor
   . intro h;omega
   . intro h;omega
 . split
   . rename_i b a;exact⟨fun _=>⟨by omega,by omega,a⟩,fun _=>rfl⟩
   . rename_i b a;exact⟨fun h=>by omega,fun h=>absurd h.2.2 a⟩
variable {α:Type}
def B4f (q:α->α->Prop) (d:α) (l:List α) (a i j:Nat):Prop:=∀s t,a<=s->s<t->t<=i->t≠j->q (l.getD s d) (l.getD t d)
def OK (d:α) (l:List α) (j:Nat):List α:=(l.set j (l.getD (j-1) d)).set (j-1) (l.getD j d)
def bO {d:α} {l:List α} {j:Nat} (c:0<j) (b:j<l.length) (k:Nat):(OK d l j).getD k d=if k=j then l.getD (j-1) d else if k=j-1 then l.getD j d else l.getD k d:=by
 unfold OK;simp only[qF,vE,qJ];by_cases h:k=j
 . subst h;rw[qL (by omega),qP rfl,qP rfl,qP b];rfl
 . rw[qL h];by_cases a:k=j-1
   . subst a;rw[qP rfl,qP (by omega),qP rfl];rfl
   . rw[qL (by omega),qL (by omega),qL a]
def A4r {d:α} {l:List α} {j:Nat} (a:j<l.length):(OK d l j).Perm l:=by
 have b:j-1<l.length:=by omega
 have:=List.set_set_perm (as:=l) a b;unfold OK;simp only[qF,qO a,qO b];exact this
def A4s {d:α} {l:List α} {j a:Nat} (h:a<=j-1):(OK d l j).take a=l.take a:=by
 unfold OK;rw[yW h,yW (by omega)]
def A4q {d:α} {l:List α} {j b:Nat} (h:j<b):(OK d l j).drop b=l.drop b:=by
 unfold OK;rw[yU (by omega),yU (by omega)]
def A3f {q:α->α->Prop} {d:α} {l:List α} {a i:Nat} (h:∀s t,a<=s->s<t->t<i->q (l.getD s d) (l.getD t d)):B4f q d l a i i:=fun s t b c f g=>h s t b c (by omega)
def A8v {q:α->α->Prop} {d:α} {l:List α} {a i j:Nat} (h:B4f q d l a i j) (c:a<j) (b:j<l.length) (f:j<=i) (n:q (l.getD j d) (l.getD (j-1) d)):B4f q d (OK d l j) a i (j-1):=by
 intro s t g k f c;rw[bO (by omega) b,bO (by omega) b,qL c];by_cases c:t=j
 . rw[qP c,qL (by omega)];by_cases b:s=j-1
   . rw[qP b];exact n
   . rw[qL b];exact h s (j-1) g (by omega) (by omega) (by omega)
 . rw[qL c];by_cases b:s=j
   . rw[qP b];exact h (j-1) t (by omega) (by omega) f c
   . rw[qL b];by_cases b:s=j-1
     . rw[qP b];exact h j t (by omega) (by omega) f c
     . rw[qL b];exact h s t g k f c
def B4g {q:α->α->Prop} {d:α} {l:List α} {a i j:Nat} (h:B4f q d l a i j) (n:∀x y z,q x y->q y z->q x z) (r:j<=i) (c:a<j->q (l.getD (j-1) d) (l.getD j d)):∀s t,a<=s->s<t->t<i+1->q (l.getD s d) (l.getD t d):=by
 intro s t b g o;by_cases f:t=j
 . subst f;by_cases k:s=t-1
   . rw[k];exact c (by omega)
   . exact n _ _ _ (h s (t-1) b (by omega) (by omega) (by omega)) (c (by omega))
 . exact h s t b g (by omega) f
def aR {q:α->α->Prop} {d:α} {l:List α} {a b:Nat} (c:b<=l.length) (h:∀s t,a<=s->s<t->t<b->q (l.getD s d) (l.getD t d)):((l.drop a).take (b-a)).Pairwise q:=by
 rw[tZ];intro i j c f g;rw[qU,sN]at c f;have e:∀k (hk:k<((l.drop a).take (b-a)).length),((l.drop a).take (b-a))[k]=l.getD (a+k) d:=fun k hk=>by
  rw[qU,sN]at hk;rw[g1f,List.getElem_drop,qF,qO (by omega)];rfl
 rw[e i (by rw[qU,sN];omega),e j (by rw[qU,sN];omega)];exact h _ _ (by omega) (by omega) (by omega)
def aS:∀(n:Nat) (f:Nat->Nat),(∀a,a<n+1->f a<n)->∃a b,a<b/\b<n+1/\f a=f b
 |0,f,h=>absurd (h 0 (by omega)) (by omega)
 |n+1,f,h=>by
  by_cases i:∃a,a<n+1/\f a=f (n+1)
  . obtain⟨a,c,g⟩:=i;exact⟨a,n+1,c,by omega,g⟩
  . have d:∀a,a<n+1->f a≠f (n+1):=fun a ha e=>i ⟨a,ha,e⟩
    obtain⟨a,b,c,g,i⟩:=aS n (fun a=>if f a<f (n+1)then f a else f a-1) fun a ha=>by
     have:=h a (by omega);have:=h (n+1) (by omega);have:=d a ha;split<;>omega
    refine⟨a,b,c,by omega, ?_⟩;have c:=d a (by omega);have c:=d b (by omega);split at i<;>split at i<;>omega
def Ft {n:Nat} {q:Nat->Nat} (g:∀a,a<n->q a<n) (f:∀a b,a<n->b<n->q a=q b->a=b) {j:Nat} (d:j<n):∃a,a<n/\q a=j:=
 qQ fun c=>by
  have i:∀a,a<n->q a≠j:=fun a ha e=>c ⟨a,ha,e⟩
  obtain⟨a,b,h,k,c⟩:=aS n (fun a=>if a<n then q a else j) fun a ha=>by
   split
   . rename_i h;exact g a h
   . exact d
  by_cases d:b<n
  . rw[qP d,qP (by omega)]at c;have:=f a b (by omega) d c;omega
  . rw[qL d,qP (by omega)]at c;exact i a (by omega) c
def dot (n:Nat) (u x:Nat->Rat):Rat:=B7 n fun j=>u j*x j
def B8d (n k:Nat) (l:Nat->Rat) (R:Nat->Nat->Rat) (u x:Nat->Rat):B7 n (fun j=>(B7 k (fun m=>l m*R m j)+u j)*x j)=B7 k (fun m=>l m*dot n (R m) x)+dot n u x:=by
 have:(fun j=>(B7 k (fun m=>l m*R m j)+u j)*x j)=fun j=>B7 k (fun m=>l m*(R m j*x j))+u j*x j:=by
  funext j;rw[g2z, <-SL];congr 1;exact B6 fun m _=>wO _ _ _
 rw[this,Ax,Jw];congr 1;exact B6 fun m _=>Dy n (l m) _
def C0j (a b c:Rat):a+b=a+c+(b-c):=by grind
structure MI (n k:Nat) (A:Nat->Nat->Rat) (p q:Nat->Nat) (R Lo:Nat->Nat->Rat):Prop where
 kn:k<=n
 plt:∀m,m<k->p m<n
 qlt:∀m,m<k->q m<n
 pinj:∀a b,a<k->b<k->p a=p b->a=b
 qinj:∀a b,a<k->b<k->q a=q b->a=b
 dec:∀i j,i<n->j<n->A i j=B7 k (fun m=>Lo i m*R (p m) j)+R i j
 zero:∀m i,m<k->i<n->(∀a,a<=m->i≠p a)->R i (q m)=0
 piv:∀m,m<k->R (p m) (q m)≠0
 low:∀a m,a<k->m<k->a<=m->Lo (p a) m=0
def MI.init (n:Nat) (A:Nat->Nat->Rat) (p q:Nat->Nat) (Lo:Nat->Nat->Rat):MI n 0 A p q A Lo:=
 ⟨rM _,fun _ h=>absurd h (uY _),fun _ h=>absurd h (uY _),fun _ _ h=>absurd h (uY _),fun _ _ h=>absurd h (uY _),fun i j _ _=>by rw[B7,tG],fun _ _ h=>absurd h (uY _),fun _ h=>absurd h (uY _),fun _ _ h=>absurd h (uY _)⟩
section
variable {n k:Nat} {A R Lo R' Lo':Nat->Nat->Rat} {p q p' q':Nat->Nat}
def MI.step (h:MI n k A p q R Lo) {r c:Nat} {fac:Nat->Rat} (Y:k<n) (z:r<n) (B:c<n) (E:∀a,a<k->r≠p a) (I:∀a,a<k->c≠q a) (J:R r c≠0)
 (o:∀m,m<k->p' m=p m) (v:p' k=r) (w:∀m,m<k->q' m=q m) (y:q' k=c)
 (Q:∀i,i<n->i≠r->(∀a,a<k->i≠p a)->fac i=R i c/R r c) (G:fac r=0) (H:∀a,a<k->fac (p a)=0)
 (x:∀i j,i<n->j<n->R' i j=R i j-fac i*R r j) (M:∀i m,i<n->m<k->Lo' i m=Lo i m) (F:∀i,i<n->Lo' i k=fac i):MI n (k+1) A p' q' R' Lo':=by
 have O:∀j,j<n->R' r j=R r j:=fun j u=>by rw[x r j z u,G,sZ,tH,wP,rL]
 have N:∀a j,a<k->j<n->R' (p a) j=R (p a) j:=fun a j d u=>by rw[x _ j (h.plt a d) u,H a d,sZ,tH,wP,rL]
 have s:∀m,m<k+1->m<k\/m=k:=fun m b=>by omega
 refine⟨Y,fun m b=> ?_,fun m b=> ?_,fun a l d g f=> ?_,fun a l d g f=> ?_,fun i j t u=> ?_,fun m i b t D=> ?_,fun m b=> ?_,fun a m d b V=> ?_⟩
 . rcases s m b with b|rfl
   . rw[o m b];exact h.plt m b
   . rw[v];exact z
 . rcases s m b with b|rfl
   . rw[w m b];exact h.qlt m b
   . rw[y];exact B
 . rcases s a d with d|rfl<;>rcases s l g with g|rfl
   . rw[o a d,o l g]at f;exact h.pinj a l d g f
   . rw[o a d,v]at f;exact absurd f.symm (E a d)
   . rw[v,o l g]at f;exact absurd f (E l g)
   . rfl
 . rcases s a d with d|rfl<;>rcases s l g with g|rfl
   . rw[w a d,w l g]at f;exact h.qinj a l d g f
   . rw[w a d,y]at f;exact absurd f.symm (I a d)
   . rw[y,w l g]at f;exact absurd f (I l g)
   . rfl
 . have P:B7 k (fun m=>Lo' i m*R' (p' m) j)=B7 k (fun m=>Lo i m*R (p m) j):=B6 fun m b=>by rw[M i m t b,o m b,N m j b u]
   rw[B7,v,O j u,F i t,x i j t u,h.dec i j t u,P];exact C0j _ _ _
 . rcases s m b with b|rfl
   . have T:=h.zero m i b t fun a d=>by have:=D a d;rwa[o a (by omega)]at this
     have U:=h.zero m r b z fun a d=>E a (by omega)
     rw[w m b,x i _ t (h.qlt m b),T,U,uX,tH,wP,rL]
   . have X:i≠r:=by have:=D m (qZ _);rwa[v]at this
     have W:∀a,a<m->i≠p a:=fun a d=>by have:=D a (by omega);rwa[o a d]at this
     rw[y,x i c t B,Q i t X W,xB,wO,g0y _ J,g3d,tH,g3s]
 . rcases s m b with b|rfl
   . rw[o m b,w m b,N m _ b (h.qlt m b)];exact h.piv m b
   . rw[v,y,O c B];exact J
 . rcases s m b with b|rfl
   . rw[o a (by omega),M _ m (h.plt a (by omega)) b];exact h.low a m (by omega) b V
   . rcases s a d with d|rfl
     . rw[o a d,F _ (h.plt a d)];exact H a d
     . rw[v,F r z];exact G
def MI.dot (h:MI n k A p q R Lo) (x:Nat->Rat) {i:Nat} (a:i<n):B7 n (fun j=>A i j*x j)=B7 k (fun m=>Lo i m*dot n (R (p m)) x)+Go.Proofs.YtiflhbllbgajeaaGreat.dot n (R i) x:=by
 rw[<-B8d n k (Lo i) (fun m=>R (p m)) (R i) x];exact B6 fun j b=>by rw[h.dec i j a b]
def MI.stuck (h:MI n k A p q R Lo) {c:Nat} (z:c<n) (B:∀a,a<k->c≠q a) (E:∀i,i<n->(∀a,a<k->i≠p a)->R i c=0):¬nonsing n A:=by
 have G:∀t,t<=k->∃x:Nat->Rat,x c=1/\(∀j,j≠c->(∀m,m<k->j≠q m)->x j=0)/\∀m,k-t<=m->m<k->Go.Proofs.YtiflhbllbgajeaaGreat.dot n (R (p m)) x=0:=by
  intro t
  induction t with
  |zero=>exact fun _=>⟨fun j=>if j=c then 1 else 0,qP rfl,fun j b _=>qL b,fun m f hmk=>by omega⟩
  |succ t F=>
   intro J;obtain⟨x,r,s,l⟩:=F (by omega);have f:k-(t+1)<k:=by omega
   generalize I:k-(t+1)=b at f;have v:∀(u:Nat->Rat) (d:Rat),Go.Proofs.YtiflhbllbgajeaaGreat.dot n u (fun j=>x j+if j=q b then d else 0)=Go.Proofs.YtiflhbllbgajeaaGreat.dot n u x+u (q b)*d:=fun u d=>by
    unfold Go.Proofs.YtiflhbllbgajeaaGreat.dot;rw[B6 (g:=fun j=>u j*x j+u j*if j=q b then d else 0) fun j _=>Rat.mul_add _ _ _,Ax];congr 1;rw[O4 (h.qlt b f) fun j _ o=>by rw[qL o,uX],qP rfl]
   refine⟨fun j=>x j+if j=q b then-(Go.Proofs.YtiflhbllbgajeaaGreat.dot n (R (p b)) x)/R (p b) (q b)else 0, ?_,fun j o hq=> ?_,fun m h1 h2=> ?_⟩
   . show x c+(if c=q b then _ else 0)=1;rw[qL (B b f),r,rL]
   . show x j+(if j=q b then _ else 0)=0;rw[qL (hq b f),s j o hq,rL]
   . rw[v];by_cases w:m=b
     . subst w;have:=h.piv m h2;rw[xB,g4e,wO,g0y _ this,g3d,g3s]
     . rw[l m (by omega) h2,h.zero b (p m) f (h.plt m h2) fun a H e=>by have:=h.pinj m a h2 (by omega) e;omega,sZ,rL]
 obtain⟨x,r,s,l⟩:=G k (qZ _);intro D;have y:∀i,i<n->B7 n (fun j=>A i j*x j)=0:=fun i hi=>by
  rw[h.dot x hi,X6 fun m b=>by rw[l m (by omega) b,uX],tG];by_cases o:∃a,a<k/\i=p a
  . obtain⟨a,f,rfl⟩:=o;exact l a (by omega) f
  . refine X6 fun j F=> ?_
    by_cases v:j=c
    . rw[v,E i hi fun a f e=>o ⟨a,f,e⟩,sZ]
    . by_cases w:∃m,m<k/\j=q m
      . obtain⟨m,b,rfl⟩:=w;rw[h.zero m i b hi fun a f e=>o ⟨a,by omega,e⟩,sZ]
      . rw[s j v fun m b e=>w ⟨m,b,e⟩,uX]
 have:=D x y c z;rw[r]at this;exact absurd this (by decide)
def MI.nonsing (h:MI n n A p q R Lo):nonsing n A:=by
 intro x k;have l:∀a,a<n->Go.Proofs.YtiflhbllbgajeaaGreat.dot n (R (p a)) x=0:=by
  intro a
  induction a using Nat.strongRecOn with
  |ind a r=>
   intro c;have d:=k (p a) (h.plt a c);rw[h.dot x (h.plt a c),X6 fun m g=> ?_,tG]at d
   . exact d
   . by_cases j:m<a
     . rw[r m j g,uX]
     . rw[h.low a m c g (by omega),sZ]
 have o:∀t b,t<n->b=n-1-t->x (q b)=0:=by
  intro t
  induction t using Nat.strongRecOn with
  |ind t r=>
   intro b y i;have c:b<n:=by omega
   have d:=l b c;unfold Go.Proofs.YtiflhbllbgajeaaGreat.dot at d;rw[O4 (h.qlt b c) fun s f g=> ?_]at d
   . exact(g0e.1 d).resolve_left (h.piv b c)
   . obtain⟨m,j,rfl⟩:=Ft h.qlt h.qinj f;by_cases v:m<b
     . rw[h.zero m (p b) j (h.plt b c) fun a u e=>by have:=h.pinj b a c (by omega) e;omega,sZ]
     . have w:m≠b:=fun e=>g (by rw[e])
       rw[r (n-1-m) (by omega) m (by omega) (by omega),uX]
 intro s f;obtain⟨b,i,rfl⟩:=Ft h.qlt h.qinj f;exact o (n-1-b) b (by omega) (by omega)
def MI.prod (h:MI n n A p q R Lo) {a b:Nat} (c:a<n) (d:b<n):A (p a) (q b)=B7 n fun m=>(Lo (p a) m+if m=a then 1 else 0)*R (p m) (q b):=by
 rw[h.dec _ _ (h.plt a c) (h.qlt b d),B6 (f:=fun m=>(Lo (p a) m+if m=a then 1 else 0)*R (p m) (q b)) (g:=fun m=>Lo (p a) m*R (p m) (q b)+(if m=a then 1 else 0)*R (p m) (q b)) fun m _=>g2z _ _ _,Ax];congr 1;rw[O4 c fun m _ i=>by rw[qL i,sZ],qP rfl,wU]
end
def Lab (L:Xr):Prop:=∀i:Int,0<=i->i<(L.length:Int)->0<=D9 L i/\D9 L i<=i/\D9 L (D9 L i)=D9 L i
def Fa (L:Xr) (l:Ln):(Hd L l).length=L.length:=by simp[Hd]
def Wy {L:Xr} {i:Int} (a:0<=i) (b:i<(L.length:Int)):L[i.toNat]? =some (D9 L i):=by
 have:i.toNat<L.length:=by omega
 unfold D9;rw[qF,qO this];rfl
def Fb {L:Xr} {l:Ln} {i:Int} (b:0<=i) (c:i<(L.length:Int)):D9 (Hd L l) i=if D9 L i=max (D9 L l.1) (D9 L l.2)then min (D9 L l.1) (D9 L l.2)else D9 L i:=by
 have a:=Wy (L:=Hd L l) b (by rw[Fa];exact c);unfold Hd at a;rw[vD,Wy b c]at a;simp only[vW,rG]at a;exact a.symm
def Kg (n:Int):(pC n).length=n.toNat:=by simp[pC]
def Qn {n i:Int} (b:0<=i) (a:i<n):D9 (pC n) i=i:=by
 have a:=Wy (L:=pC n) b (by rw[Kg];omega);unfold pC at a;rw[vD,yV (by omega)]at a;simp only[vW,rG]at a;rw[show D9 (pC n) i= _ from a.symm];show((i.toNat:Nat):Int)=i;omega
def A6e (n:Int):Lab (pC n):=fun i a b=>by
 rw[Kg]at b;rw[Qn a (by omega),Qn a (by omega)];omega
def Lab.join {L:Xr} {l:Ln} (h:Lab L) (i:VN L.length l):Lab (Hd L l):=fun j b a=>by
 rw[Fa]at a;obtain⟨c,d,f,g⟩:=i;obtain⟨i,k,n⟩:=h _ c d;obtain⟨c,d,i⟩:=h _ f g;obtain⟨c,d,f⟩:=h j b a;rw[Fb b a];have a:D9 L (min (D9 L l.1) (D9 L l.2))=min (D9 L l.1) (D9 L l.2):=by
  rcases(by omega:min (D9 L l.1) (D9 L l.2)=D9 L l.1\/min (D9 L l.1) (D9 L l.2)=D9 L l.2)with e|e<;>rw[e]<;>assumption
 split
 . rename_i e;refine⟨by omega,by omega, ?_⟩;rw[Fb (by omega) (by omega),a];split<;>rfl
 . rename_i e;refine⟨c,d, ?_⟩;rw[Fb c (by omega),f,qL e]
def A9a (n:Int) (ls:List Ln) (l:Ln):K7 n (ls++ [l])=Hd (K7 n ls) l:=by simp[K7,List.foldl_append]
def Nv (n:Int) (ls:List Ln):(K7 n ls).length=n.toNat:=by
 unfold K7;have:∀(ls:List Ln) (L:Xr),(ls.foldl Hd L).length=L.length:=by
  intro ls
  induction ls with
  |nil=>intro L;rfl
  |cons l ls a=>intro L;rw[yB,a,Fa]
 rw[this,Kg]
def pN {n:Int} {ls:List Ln} (a:0<=n) (h:∀l∈ls,VN n l):Lab (K7 n ls):=by
 unfold K7;have:∀(ls:List Ln) (L:Xr),L.length=n.toNat->(∀l∈ls,VN n l)->Lab L->Lab (ls.foldl Hd L):=by
  intro ls
  induction ls with
  |nil=>intro L _ _ h;exact h
  |cons l ls c=>
   intro L b a h;rw[yB];refine c _ (by rw[Fa];exact b) (fun x c=>a x (by simp[c])) (h.join ?_);have:=a l (by simp);rw[b,show((n.toNat:Nat):Int)=n from by omega];exact this
 exact this ls _ (Kg n) h (A6e n)
def B0m {a:Type} {l:List a} {j:Nat} {d:a} (h:j<l.length):l.take (j+1)=l.take j++ [l.getD j d]:=by
 rw[rP,qO h,qF,qO h];rfl
def A3h {L:Xr} {l:Ln} {u v:Int} (u0:0<=u) (u1:u<(L.length:Int)) (v0:0<=v) (v1:v<(L.length:Int)) (h:D9 L u=D9 L v):D9 (Hd L l) u=D9 (Hd L l) v:=by
 rw[Fb u0 u1,Fb v0 v1,h]
def A8z {L:Xr} {l:Ln} (f:VN L.length l):D9 (Hd L l) l.1=D9 (Hd L l) l.2:=by
 obtain⟨a,b,c,d⟩:=f;rw[Fb a b,Fb c d];split<;>split<;>omega
def YW {n:Int} (b:0<=n) {u v:Int} (u0:0<=u) (u1:u<n) (v0:0<=v) (v1:v<n):∀(ls:List Ln) (L:Xr),L.length=n.toNat->D9 L u=D9 L v->D9 (ls.foldl Hd L) u=D9 (ls.foldl Hd L) v
 | [],_,_,h=>h
 |l::ls,L,a,h=>by
  rw[yB];exact YW b u0 u1 v0 v1 ls _ (by rw[Fa];exact a) (A3h u0 (by omega) v0 (by omega) h)
def gA {n:Int} (f:0<=n) {l:Ln} :∀(ls:List Ln) (L:Xr),L.length=n.toNat->(∀l∈ls,VN n l)->l∈ls->D9 (ls.foldl Hd L) l.1=D9 (ls.foldl Hd L) l.2
 | [],_,_,_,h=>by cases h
 |x::ls,L,a,d,h=>by
  rw[yB];have j:=d x (by simp);rcases qI.1 h with rfl|h
  . obtain⟨b,g,c,i⟩:=j;exact YW f b g c i ls _ (by rw[Fa];exact a) (A8z (by rw[a];exact⟨b,by omega,c,by omega⟩))
  . exact gA f ls _ (by rw[Fa];exact a) (fun y k=>d y (by simp[k])) h
def gM {n:Int} {ls:List Ln} (b:0<=n) (a:∀l∈ls,VN n l) {l:Ln} (h:l∈ls):D9 (K7 n ls) l.1=D9 (K7 n ls) l.2:=gA b ls _ (Kg n) a h
def fZ {a:Type} {n:Int} (s:0<=n) {f:Int->a} :∀(ls:List Ln) (L:Xr),L.length=n.toNat->Lab L->(∀l∈ls,VN n l/\f l.1=f l.2)->(∀i:Int,0<=i->i<n->f (D9 L i)=f i)->∀i:Int,0<=i->i<n->f (D9 (ls.foldl Hd L) i)=f i
 | [],_,_,_,_,h=>h
 |l::ls,L,c,r,d,h=>by
  rw[yB];obtain⟨⟨a,g,b,o⟩,j⟩:=d l (by simp);have k:VN (L.length:Int) l:=by rw[c];exact⟨a,by omega,b,by omega⟩
  refine fZ s ls _ (by rw[Fa];exact c) (r.join k) (fun y s=>d y (by simp[s])) fun i c k=> ?_
  rw[Fb c (by omega)];split
  . rename_i e;have d:=h _ a g;have g:=h _ b o;have b:=h i c k;rcases(by omega:min (D9 L l.1) (D9 L l.2)=D9 L l.1\/min (D9 L l.1) (D9 L l.2)=D9 L l.2)with e1|e1<;>
    rcases(by omega:max (D9 L l.1) (D9 L l.2)=D9 L l.1\/max (D9 L l.1) (D9 L l.2)=D9 L l.2)with a|a
    . rw[e1, <-b,e,a]
    . rw[e1, <-b,e,a,d,g,j]
    . rw[e1, <-b,e,a,d,g,j]
    . rw[e1, <-b,e,a]
  . exact h i c k
def gL {a:Type} {n:Int} {ls:List Ln} (d:0<=n) (b:∀l∈ls,VN n l) {f:Int->a} (c:∀l∈ls,f l.1=f l.2):∀i:Int,0<=i->i<n->f (D9 (K7 n ls) i)=f i:=
 fZ d ls _ (Kg n) (A6e n) (fun l a=>⟨b l a,c l a⟩) fun i d g=>by rw[Qn d g]
def B8q {n:Int} {L:Xr} {l:Ln} (b:0<=n) (a:L.length=n.toNat) (h:VN n l):VN (L.length:Int) l:=by
 rw[a,show((n.toNat:Nat):Int)=n from by omega];exact h
def LG:Xr->Int
 | []=>0
 |a::r=>a+LG r
def bN:∀ {l:Xr} {k:Nat} {v:Int},k<l.length->LG (l.set k v)=LG l-l.getD k 0+v
 | [],_,_,h=>by simp at h
 |a::r,0,v,_=>by simp[LG];omega
 |a::r,k+1,v,h=>by
  have:=bN (l:=r) (k:=k) (v:=v) (by simpa using h);simp only[g3q,LG,this,List.getD_cons_succ];omega
def TZ:∀ {l:Xr},(∀x∈l,0<=x)->0<=LG l
 | [],_=>qG _
 |a::r,h=>by
  have b:=h a (by simp);have b:=TZ (l:=r) fun x hx=>h x (by simp[hx])
  simp only[LG];omega
def B9g {L:Xr} {x:Int} (h:x∈L):∃i:Int,0<=i/\i<(L.length:Int)/\D9 L i=x:=by
 obtain⟨i,b,a⟩:=uA.1 h;refine⟨i,by omega,by omega, ?_⟩;have:=Wy (L:=L) (i:=(i:Int)) (by omega) (by omega);rw[qH,qO b,a]at this;exact(vX this).symm
def lE {A B:Xr} (a:A.length=B.length) (h:∀i:Int,0<=i->i<(A.length:Int)->D9 A i=D9 B i):A=B:=by
 apply vN;intro j;by_cases a:j<A.length
 . have a:=Wy (L:=A) (i:=(j:Int)) (by omega) (by omega);have b:=Wy (L:=B) (i:=(j:Int)) (by omega) (by omega);rw[qH]at a b;rw[a,b,h j (by omega) (by omega)]
 . rw[rQ (by omega),rQ (by omega)]
def pO {n:Int} {ls:List Ln} (c:0<=n) (a:∀l∈ls,VN n l) {L:Xr} (b:L.length=n.toNat) (g:∀i:Int,0<=i->i<n->0<=D9 L i/\D9 L i<=i/\D9 (K7 n ls) (D9 L i)=D9 (K7 n ls) i) (h:∀l∈ls,D9 L l.1=D9 L l.2):L=K7 n ls:=by
 refine lE (by rw[b,Nv]) fun i d k=> ?_
 rw[b]at k;have b:=pN c a;have k:=Nv n ls;obtain⟨k,r,o⟩:=b i d (by omega);have r:=gL c a (f:=fun j=>D9 L j) h i d (by omega);obtain⟨a,d,c⟩:=g _ k (by omega);obtain⟨_,d,_⟩:=b (D9 L (D9 (K7 n ls) i)) a (by omega);rw[o]at c;omega
end Go.Proofs.YtiflhbllbgajeaaGreat
namespace Go.Vc
open Go Go.RowKit Go.Gw
def P7 (o:Oper):List Nat:=(o.after.toList.filter fun e=>Region.binds .any e).map (·.on)
def A7n {c:Type} [DecidableEq c]:∀ {a b:List c},a.Nodup->(∀x∈a,x∈b)->a.length<=b.length
 | [],_,_,_=>rM _
 |x::a,b,c,h=>by
  obtain⟨d,f⟩:=sG.1 c;have c:=h x (rB);have:=A7n (a:=a) (b:=b.erase x) f fun y hy=>(zZ (fun e=>d (by rw[<-e];exact hy))).2 (h y (qM _ hy))
  rw[zB c]at this;have:=zN c;rw[rH];omega
def QZ {l:Array Bool} {j:Nat} (c:j<l.size) (a b:Bool):l.getD j a=l.getD j b:=by
 simp only[uR,tY c,uZ]
def B7r {P:Program} {n:Nat} {all:List Oper} {Q:Exit->G8->World->Prop} (M:fU n all=true) (I:∀i o,all[i]? =some o->∀j∈P7 o,j<i) {Inv:List Nat->G8->World->Prop}
 (T:∀(L:List Nat) (i:Nat) (o:Oper) (E:G8) (w:World),all[i]? =some o->i∉L->(∀j∈P7 o,j∈L)->Inv L E w->J2 P all o (Inv (i::L)) E w)
 (v:∀(L:List Nat) (E:G8) (w:World),(∀i,i<all.length->i∈L)->Inv L E w->Q .normal E w):
 ∀(f:Nat) (listed:Array Bool) (L:List Nat) (a:Act) (E:G8) (w:World),listed.size=all.length->(∀i,i∈L↔listed.getD i false=true)->L.Nodup->L.length+f=all.length->Gw.C7 n a E->Inv L E w->wpAny P .any all.toArray (HR n Q) f listed a w:=by
 have G:∀ {listed:Array Bool} {L:List Nat},listed.size=all.length->(∀i,i∈L↔listed.getD i false=true)->∀i∈L,i<all.length:=fun {listed L} h c i d=>by
  have g:=(c i).1 d;rw[<-h];refine qQ fun k=> ?_
  rw[uR,zK (by omega)]at g;cases g
 intro f
 induction f with
 |zero=>
  intro listed L a E w h c z B A s;have l:∀i,i<all.length->i∈L:=fun i d=>qQ fun t=>by
   have:=A7n (a:=i::L) (b:=List.range all.length) (sG.2 ⟨t,z⟩) fun x g=>by
    rcases qI.1 g with rfl|g
    . exact wS.2 d
    . exact wS.2 (G h c x g)
   rw[rH,zO]at this;omega
  refine⟨List.eq_nil_iff_forall_not_mem.2 fun j u=> ?_,E,A,v L E w l s⟩;obtain⟨k,o,r,_⟩:=mem_ready.1 u;rw[vQ]at r;have y:=(sC.1 r).1;have:=(c j).1 (l j y);rw[QZ (by omega) true false,this]at k;cases k
 |succ f V=>
  intro listed L a E w h c N Z z u;refine⟨fun R=>⟨E,z,v L E w (fun i=> ?_) u⟩,fun i d=> ?_⟩
  . induction i using Nat.strongRecOn with
    | _ i W=>
     intro d;refine qQ fun g=> ?_
     have:i∈Region.ready .any all.toArray listed:=mem_ready.2 ⟨?_,all[i],by rw[vQ,qO d],fun e r hb=> ?_⟩
     . rw[R]at this;cases this
     . cases U:listed.getD i true with
       |false=>rfl
       |true=>exact absurd ((c i).2 (by rw[QZ (by omega) false true];exact U)) g
     . have l:e.on∈P7 all[i]:=sQ.2 ⟨e,wF.2 ⟨g2o.2 r,hb⟩,rfl⟩;have J:=I i _ (qO d) _ l;exact(c _).1 (W _ J (by omega))
  . obtain⟨t,o,k,l⟩:=mem_ready.1 d;rw[vQ]at k;have Y:=(sC.1 k).1;have y:i∉L:=fun g=>by
     have:=(c i).1 g;rw[QZ (by omega) true false,this]at t;cases t
    refine Yb M k (fun A E' X O g=>V _ (i::L) A E' X (by rw[Array.size_setIfInBounds];exact h) (fun j=> ?_) (sG.2 ⟨y,N⟩) (by rw[rH];omega) O g) z (T L i o E w k y (fun j H=> ?_) u)
    . by_cases s:j=i
      . subst s;simp only[qI,true_or,true_iff,uR];rw[Array.getElem?_setIfInBounds_self_of_lt (by omega)];rfl
      . rw[getD_set_ne false (Ne.symm s), <-c j,qI];exact⟨fun B=>B.resolve_left s, .inr⟩
    . obtain⟨e,r,rfl⟩:=sQ.1 H;obtain⟨D,F⟩:=wF.1 r;exact(c _).2 (l e (g2o.1 D) F)
section
variable {za:Zn} {w0:World} {cx:Cx} {sp:H8} {an:An} {n:Nat}
def C1.look {b:St} {E:G8} {w:World} {Z:Nat->Prop} {B:Nat->Value} (h:C1 za w0 b E w Z B) {a:St} (l:∀s,a.S s=b.S s\/a.S s= .dead) (c:∀k,a.L k=b.L k) (j:a.nm=b.nm) (t:a.nm<=a.nx) (g:a.fr= []) (n:b.fr= [])
 (v:∀s,Qf a.nx (a.S s)) (r:∀k,Mw a.nx (a.L k)) (u:∀k,a.nx<=k->a.L k= .none):C1 za w0 a E w Z B:=
 ⟨h.ext,h.zlt,fun s=>by
  rcases l s with e|e
  . rw[e];exact h.slots s
  . rw[e];trivial,fun k=>by rw[c];exact h.locs k,fun k x d=>by rw[c,c];exact h.disj k x d,v,r,u,h.bone,h.zin,⟨j.trans h.nms.1,by rw[<-h.nms.1, <-j];exact t⟩,h.bfix,⟨h.mrk.1,fun k d o f=>by rw[c]at f;exact h.mrk.2 k d o f⟩,by
  have:=h.frs;rw[n]at this;rw[g];exact this,fun y i=>by rw[g]at i;cases i⟩
def B6m {P:Program} {a b:Code} {f:St->Prop} {Q:Exit->G8->World->Prop} {E:G8} {w:World} (k:Gw.Wp P n a (post za w0 ⟨f,fun _ _=>False,fun _=>False⟩) E w) (l:∀g E w Z B,C1 za w0 g E w Z B->f g->Gw.Wp P n b Q E w):Gw.Wp P n (.seq a b) Q E w:=by
 intro c i o;simp only[Af,qC]at c;refine wp_seq (wp_mono (k c.1 i o) ?_);rintro e h t ⟨E',r,s,Z',B',j,d⟩;cases e with
 |normal=>exact l _ _ _ _ _ j d c.2 h r
 | _=>exact d.elim
def B9w {P:Program} {id:Nat} {ops:Array Oper} {Q:Exit->G8->World->Prop} {E:G8} {w:World} (g:P.follows .mixedOrders=true) (f:∀i o,ops.toList[i]? =some o->∀j∈P7 o,j<i) {Inv:List Nat->G8->World->Prop}
 (l:∀(L:List Nat) (i:Nat) (o:Oper) (E:G8) (w:World),ops.toList[i]? =some o->i∉L->(∀j∈P7 o,j∈L)->Inv L E w->J2 P ops.toList o (Inv (i::L)) E w)
 (d:∀(L:List Nat) (E:G8) (w:World),(∀i,i<ops.toList.length->i∈L)->Inv L E w->Q .normal E w) (c:Inv [] E w.drew):Gw.Wp P n (.region id ops true) Q E w:=by
 intro a b k;simp only[Af]at a;have h:ops=ops.toList.toArray:=by simp
 rw[h];refine wp_region_any g ?_;have:=B7r (P:=P) a f l d ops.toList.length (Array.replicate ops.toList.length false) [] b E w.drew (by simp) (fun i=> ?_) xU (by simp) k c
 . simpa using this
 . simp only[rY,false_iff,uR,xQ];split<;>simp
end
def hd1 (a:St) (d:Nat) (v:DV):St:=⟨(d,0,v)::a.sl,a.lc,a.nx,a.ct,a.nm,a.fr⟩
def hdL (a:St) (k:Nat) (l:LC):St:=⟨a.sl,(k,0,l)::a.lc,a.nx,a.ct,a.nm,a.fr⟩
def IP (a:St) (d s:Nat) (v:DV):(hd1 a d v).S s=if s=d then v else a.S s:=by
 show(find (0, .dead) s ((d,0,v)::a.sl)).2= _;simp only[find];by_cases h:s=d
 . subst h;simp
 . rw[D3 (Ne.symm h),qL h];rfl
def A5e (a:St) (k q:Nat) (l:LC):(hdL a k l).L q=if q=k then l else a.L q:=by
 show(find (0, .none) q ((k,0,l)::a.lc)).2= _;simp only[find];by_cases h:q=k
 . subst h;simp
 . rw[D3 (Ne.symm h),qL h];rfl
def B5j {n k:Nat} (a:n<=k):∀ {c:C},Dj n c->dV k c=false
 | .row j,h=>D3 (tS (rF h a))
 | .mp j,h=>D3 (tS (rF h a))
 | .win j _ _ _,h=>D3 (tS (rF h a))
 | .box _ _,_=>rfl
 | .elp _ _ _ _,_=>rfl
 | .val _ _,_=>rfl
 | .pf _ _ _,_=>rfl
 | .fn _ _,_=>rfl
 | .fv _ _ _ _ _ _,_=>rfl
 | .raw _,_=>rfl
 | .dead,_=>rfl
def A3r {n k:Nat} (b:n<=k) {s:SV} (h:Mx n s):s.cs.any (dV k)=false:=by
 rw[wV];intro c a;rw[B5j b (h c a)];simp
def C3s {n k:Nat} (a:n<=k):∀ {d:DV},Qf n d->Yn k d=false
 | .one s,h=>A3r a h
 | .cnd _ _ s,h=>A3r a h
 | .dead,_=>rfl
 | .tup b,h=>by
  show b.any _=false;rw[wV];intro s b;rw[A3r a (h s b)];simp
def C3t {n k:Nat} (b:n<=k):∀ {l:LC},Mw n l->YY k l=false
 | .box _ a,h=>by
  show a.any _=false;rw[wV];intro c a;rw[B5j b (h c a)];simp
 | .none,_=>rfl
 | .row _ _ _,_=>rfl
 | .map _ _ _ _ _,_=>rfl
 | .rows _ _ _ _ _ _,_=>rfl
 | .al _,_=>rfl
 | .sbox _ _ _,_=>rfl
 | .mapE _ _ _ _ _ _ _,_=>rfl
 | .iter _ _ _ _ _ _,_=>rfl
 | .nest _ _ _ _ _ _,_=>rfl
 | .itM _ _ _ _ _ _ _ _,_=>rfl
section
variable {za:Zn} {w0:World} {st:St} {E:G8} {w:World} {Z:Nat->Prop} {B:Nat->Value}
def C1.hd1 (h:C1 za w0 st E w Z B) {d:Nat} {v:DV} (a:st.S d=v):C1 za w0 (hd1 st d v) E w Z B:=by
 have e:∀s,(Vc.hd1 st d v).S s=st.S s:=fun s=>by
  rw[IP];split
  . rename_i h;subst h;exact a.symm
  . rfl
 exact⟨h.ext,h.zlt,fun s=>by rw[e];exact h.slots s,h.locs,h.disj,fun s=>by rw[e];exact h.refs s,h.refl,h.fresh,h.bone,h.zin,h.nms,h.bfix,h.mrk,h.frs,h.frf⟩
def C1.hdL (h:C1 za w0 st E w Z B) {k:Nat} {l:LC} (c:st.L k=l):C1 za w0 (hdL st k l) E w Z B:=by
 have e:∀s,(Vc.hdL st k l).L s=st.L s:=fun s=>by
  rw[A5e];split
  . rename_i h;subst h;exact c.symm
  . rfl
 exact⟨h.ext,h.zlt,h.slots,fun s=>by rw[e];exact h.locs s,fun a b f=>by rw[e,e];exact h.disj a b f,h.refs,fun s=>by rw[e];exact h.refl s,fun s c=>by rw[e];exact h.fresh s c,h.bone,h.zin,h.nms,h.bfix,⟨h.mrk.1,fun a b g d=>by rw[e]at d;exact h.mrk.2 a b g d⟩,h.frs,h.frf⟩
def C1.unrow {d:Nat} {t:Ty} {e:TypeId} {l:List t.den} (h:C1 za w0 (rowS st d t e l) E w Z B) (n:st.nm<=st.nx) (g:st.fr= []) (o:∀s,Qf st.nx (st.S s)) (j:∀k,Mw st.nx (st.L k)) (i:∀k,st.nx<=k->st.L k= .none) (a:∀s,Nu d (st.S s)=false):
 ∃Z',C1 za w0 (Vc.hd1 st d (.one ⟨false,[.val (.sl t) l]⟩)) E w Z' B:=by
 obtain⟨Z',f⟩:=h.settle [.row st.nx];have r:(rowS st d t e l).L st.nx= .row t e l:=by
  show((st.newL (.row t e l)).setS d (one1 (.row st.nx))).L st.nx= _;rw[St.L_setS,St.L_newL,qP rfl]
 have u:(rowS st d t e l).nm=st.nm:=rfl;simp only[Vc.settle,r,u,Nat.ble_eq_true_of_le n,qV]at f;refine⟨Z',f.look (fun s=> .inl ?_) (fun k=> ?_) rfl n g ?_ (fun s=> ?_) j i⟩
 . rw[IP,St.S_freeze];show _=HP st.nx _ (((st.newL (.row t e l)).setS d (one1 (.row st.nx))).S s);rw[St.S_setS,St.S_newL];by_cases c:s=d
   . subst c;rw[qP rfl,qP rfl];simp[HP,kQ,one1,CE]
   . rw[qL c,qL c,a s];simp only[rI];rw[RA (C3s (qZ _) (o s))]
 . rw[St.L_freeze];show st.L k=kP st.nx _ (if k=st.nx then LC.none else(st.newL (.row t e l)).L k);rw[St.L_newL];by_cases b:k=st.nx
   . subst b;rw[qP rfl,i _ (qZ _)];rfl
   . rw[qL b,qL b,gC (C3t (qZ _) (j k))]
 . show(rowS st d t e l).fr.map _= [];show st.fr.map _= [];rw[g];rfl
 . rw[IP];split
   . intro v a;simp only[qR]at a;subst a;trivial
   . exact o s
end
section
variable {za:Zn} {w0:World} {cx:Cx} {sp:H8} {an:An} {n:Nat}
def A9k {f:FuncId} {fn:Func} {c:Code} {s:A6} (a0:cx.P.funcs[f]? =some fn) (a:fn.body=some c) (a2:s.args.length<=fn.ntmps) (a4:Af fn.ntmps c=true) (ab:I1 cx.P cx.tys=true)
 (a1:∀x,awf s.args x->s.pre x->∀(za:Zn) (w0:World) (E:G8) (w:World) (Z:Nat->Prop) (B:Nat->Value),za.b0=0->C1 za w0 (ZD cx.P s.args x) E w Z B->Gw.Wp cx.P fn.ntmps c (post za w0 ⟨fin cx s fn.results.toList x,fun _ _=>False,fin cx s fn.results.toList x⟩) E w):A7 cx.P f s:=by
 intro w Z i x ac I Y a6;have v:i.length=s.args.length:=I.len;generalize k:zn0 w Z s.args i=za;have N:=A6a ac I Y;rw[k]at N;refine BP a0 a (by rw[v];exact a2) a4 (fun E l=>Nx za w (fin cx s fn.results.toList x) E l) ?_ ⟨fun a5 U H=> ?_⟩
 . rintro E l A aa ⟨ah,Z',B',F,h⟩;unfold fin at h;split at h
   . rename_i ss ae;split at h
     . rename_i ag a9;split at h
       . rename_i z R H a3;obtain⟨g,r⟩:=B9 h;simp only[qC]at g;obtain⟨Z0,X⟩:=C1.settleR (rs:=s.res) (ss:=ss) F;obtain⟨Z1,n⟩:=C1.settleM (as:=s.args) (j:=0) X;obtain⟨D,V,W⟩:=DJ ab n aa a9;have a8:(results fn A).run cx.P l= .ok (Yt D) l:=by
          have d:(fn.results.mapM (dU A)).run cx.P l= .ok D.toArray l:=by
           rw[xG];simp[V]
          have e:results fn A=(do let i<-fn.results.mapM (dU A);pure (if F:i.size=1 then i[0]else .tuple i)):=by
           unfold results;congr 1
          rw[e];simp only[Sem.run_bind,d,Result.andThen_ok,Sem.run_pure]
          match D with
          | []=>rfl
          | [u]=>rfl
          |u::ai::z=>rfl
         have Q:s.post x z/\(O6 s.args=true->s.mpost x z R):=by
          unfold C3b at r;cases d:O6 s.args with
          |true=>simp only[d,qV]at r;exact⟨r.1,fun _=>r.2⟩
          |false=>simp only[d,rI]at r;exact⟨r,fun o=>by cases o⟩
         refine⟨_,a8, ?_,z,R,D,(fun b=>s.shared=true/\Z1 b),Q.1,Q.2,rfl,fun b a=> ?_, ?_, ?_⟩
         . have:=F.ext;rw[<-k]at this;exact this
         . rcases n.zin b a.2 with o|o
           . rw[<-k]at o;exact .inr ⟨a.1,o⟩
           . exact .inl ⟨o,n.zlt b a.2⟩
         . refine(Oj n (Zn:=fun b=>s.shared=true/\Z1 b) (fun b a=>a.2) ?_ W H (He g.1.1) g.1.2).1;cases J:s.shared with
           |true=>exact .inl fun b a=>⟨rfl,a⟩
           |false=>rw[J]at g;simp only[vR,qC]at g;exact .inr g.2.1
         . refine Wu (Zn:=fun b=>s.shared=true/\Z1 b) n (j:=0) ?_ (fun m u d=> ?_) (fun m p d b t=> ?_) v a3
           . cases J:s.shared with
             |true=>exact .inl fun b a=>⟨rfl,a⟩
             |false=>rw[J]at g;simp only[vR,qC]at g;exact .inr g.2.2
           . have y:=IR d;rw[U2 v]at y;have:=n.bfix m (by rw[<-k];exact y);rw[sF,this, <-k];show ZR s.args i m=u;simp only[ZR,d,uZ]
           . rw[<-k,sF]at t;rcases t with⟨t,_⟩ | ⟨_,af,O,a⟩
             . have y:=IR (show(E1 s.args i)[m]? =some p.2 by rw[Ny,vD,d];rfl);rw[U2 v]at y;have t:Lt s.args<=m:=t;omega
             . rw[d]at O;cases O;exact a
       . exact h.elim
     . exact h.elim
   . exact h.elim
 . refine wp_mono (a1 x I.awf a6 za w _ _ _ _ (by rw[<-k];rfl) N a5 U H) ?_;rintro e ad l ⟨E',a7,T,Z',B',M,G⟩;refine⟨E',a7, ?_⟩;cases e with
   |normal=>exact⟨T,Z',B',M,G⟩
   |ret=>exact⟨T,Z',B',M,G⟩
   | _=>exact G.elim
end
end Go.Vc
