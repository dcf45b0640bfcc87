/- Part. -/
import Derived.WalkKit
import Derived.ProofKit
import Derived.OpenShut
import Derived.Carry
import Derived.ChangeSlices
import Derived.ChangeSame
import Derived.Test.YtiflhbllbgajeaaGreatKPD
set_option linter.all false
namespace Go.Proofs.YtiflhbllbgajeaaGreat
open Go.Vc Go.Gw
def Sm (n:Nat) (f g:Nat->Rat):C6 n (fun i=>f i-g i)=C6 n f-C6 n g:=by
 induction n with
 |zero=>rw[C6,C6,C6];decide+kernel
 |succ n a=>rw[C6,C6,C6,a];grind
def nK {n:Nat} {f:Nat->Rat} (h:∀i,i<n->0<=f i):0<=C6 n f:=by
 induction n with
 |zero=>exact Rat.le_refl
 |succ n a=>
  rw[C6];exact Rat.add_nonneg (a fun i b=>h i (by omega)) (h n (by omega))
def A6r {n:Nat} {f:Nat->Rat} (h:∀i,i<n->0<=f i) (a:C6 n f=0):∀i,i<n->f i=0:=by
 induction n with
 |zero=>intro i b;omega
 |succ n g=>
  rw[C6]at a;have a:=nK (n:=n) fun i a=>h i (by omega)
  have b:=h n (by omega);have c:f n=0:=by grind
  have b:C6 n f=0:=by grind
  intro i a;by_cases d:i=n
  . subst d;exact c
  . exact g (fun i a=>h i (by omega)) b i (by omega)
def PR (fr to:Nat->Nat) (b i:Nat):Rat:=(if fr i=b then 1 else 0)-(if to i=b then 1 else 0)
def ZT (m:Nat) (fr to:Nat->Nat) (f:Nat->Rat) (b:Nat):Rat:=C6 m fun i=>PR fr to b i*f i
variable {n m:Nat} {fr to:Nat->Nat}
def Jl {φ:Nat->Rat} {a:Nat} (h:a<n):C6 n (fun b=>(if a=b then 1 else 0)*φ b)=φ a:=by
 rw[O8 h fun i _ c=>by rw[qK (Ne.symm c),tK],qR rfl,xV]
def A2k {φ:Nat->Rat} {i:Nat} (a:fr i<n) (c:to i<n):C6 n (fun b=>PR fr to b i*φ b)=φ (fr i)-φ (to i):=by
 rw[B7 (g:=fun b=>(if fr i=b then 1 else 0)*φ b-(if to i=b then 1 else 0)*φ b) fun b _=>by unfold PR;grind,Sm,Jl a,Jl c]
def B7o {φ D:Nat->Rat} (h:∀i,i<m->fr i<n/\to i<n):C6 m (fun i=>D i*(φ (fr i)-φ (to i)))=C6 n (fun b=>φ b*ZT m fr to D b):=by
 rw[B7 (g:=fun i=>C6 n fun b=>D i*(PR fr to b i*φ b)) fun i a=>by rw[Jn,A2k (h i a).1 (h i a).2],Ly];refine B7 fun b _=> ?_
 unfold ZT;rw[<-Jn];exact B7 fun i _=>by grind
def B6l {φ D s:Nat->Rat} (h:∀i,i<m->fr i<n/\to i<n) (g:∀i,i<m->0<s i) (d:∀i,i<m->D i=s i*(φ (fr i)-φ (to i))) (c:∀b,b<n->φ b=0\/ZT m fr to D b=0):∀i,i<m->φ (fr i)-φ (to i)=0:=by
 have j:C6 m (fun i=>D i*(φ (fr i)-φ (to i)))=0:=by
  rw[B7o h];exact Bw fun b k=>by rcases c b k with e|e<;>rw[e]<;>grind
 have k:∀x:Rat,0<=x*x:=fun x=>by
  rcases(Rat.le_total (a:=0) (b:=x))with h|h
  . exact g2y h h
  . have c:0<= -x:=by grind
    have:=g2y c c;grind
 have:=A6r (f:=fun i=>D i*(φ (fr i)-φ (to i))) (fun i c=>by
  show 0<=D i*(φ (fr i)-φ (to i));rw[d i c,wN];exact g2y (Rat.le_of_lt (g i c)) (k _)) j
 intro i c;have e:=this i c;rw[d i c,wN]at e;rcases g0e.1 e with e|e
 . have:=g i c;rw[e]at this;exact absurd this (g3i)
 . rcases g0e.1 e with e|e<;>exact e
def flw (fr to:Nat->Nat) (s h a:Nat->Rat) (i:Nat):Rat:=s i*(a (fr i)-a (to i)+h i)
def B5n (f g:Nat->Rat) (b:Nat):ZT m fr to (fun i=>f i-g i) b=ZT m fr to f b-ZT m fr to g b:=by
 unfold ZT;rw[<-Sm];exact B7 fun i _=>by grind
def B5m (f g:Nat->Rat) (w:Rat) (b:Nat):ZT m fr to (fun i=>f i+w*g i) b=ZT m fr to f b+w*ZT m fr to g b:=by
 unfold ZT;rw[<-Jn, <-Ha];exact B7 fun i _=>by grind
def NP {f g:Nat->Rat} (h:∀i,i<m->f i=g i) (b:Nat):ZT m fr to f b=ZT m fr to g b:=B7 fun i a=>by rw[h i a]
def VY {f:Nat->Rat} {lab:Nat->Nat} (a:∀i,i<m->fr i<n/\to i<n) (c:∀i,i<m->lab (fr i)=lab (to i)) (t:Nat):C6 n (fun b=>(if lab b=t then 1 else 0)*ZT m fr to f b)=0:=by
 rw[<-B7o a];exact Bw fun i a=>by rw[c i a];grind
variable {n m k:Nat} {fr to:Nat->Nat} {s:Nat->Rat}
def NZ (m:Nat) (fr to:Nat->Nat) (s:Nat->Rat) (b c:Nat):Rat:=C6 m fun i=>s i*(PR fr to b i*PR fr to c i)
def A3e (h:∀i,i<m->fr i<n/\to i<n) (a:Nat->Rat) (b:Nat):C6 n (fun c=>NZ m fr to s b c*a c)=ZT m fr to (fun i=>s i*(a (fr i)-a (to i))) b:=by
 rw[B7 (g:=fun c=>C6 m fun i=>s i*PR fr to b i*(PR fr to c i*a c)) fun c _=>by
  unfold NZ;rw[<-OX];exact B7 fun i _=>by grind,Ly]
 refine B7 fun i a=> ?_
 rw[Jn,A2k (h i a).1 (h i a).2];grind
def Qc (k:Nat) (o:Nat->Nat) (x:Nat->Rat) (b:Nat):Rat:=C6 k fun c=>if o c=b then x c else 0
def fY {o:Nat->Nat} (g:∀a c,a<k->c<k->o a=o c->a=c) (x:Nat->Rat) {c:Nat} (b:c<k):Qc k o x (o c)=x c:=by
 unfold Qc;rw[O8 b fun a d f=>qK fun e=>f (g a c d b e),qR rfl]
def Zu {o:Nat->Nat} (x:Nat->Rat) {b:Nat} (h:∀c,c<k->o c≠b):Qc k o x b=0:=Bw fun c a=>qK (h c a)
def A3d {o:Nat->Nat} (h:∀a,a<k->o a<n) (x:Nat->Rat) (b:Nat):C6 n (fun c=>NZ m fr to s b c*Qc k o x c)=C6 k fun c=>NZ m fr to s b (o c)*x c:=by
 rw[B7 (g:=fun c=>C6 k fun a=>NZ m fr to s b c*(if o a=c then x a else 0)) fun c _=>by unfold Qc;rw[Jn],Ly];refine B7 fun a d=> ?_
 rw[O8 (h a d) fun c _ f=>by rw[qK (Ne.symm f),uY],qR rfl]
def nF {o lab:Nat->Nat} (j:∀i,i<m->fr i<n/\to i<n) (d:∀i,i<m->0<s i) (h:∀a,a<k->o a<n) (g:∀a c,a<k->c<k->o a=o c->a=c)
 (r:∀φ:Nat->Rat,(∀i,i<m->φ (fr i)=φ (to i))->∀b,b<n->φ b=φ (lab b)) (u:∀b,b<n->∀a,a<k->o a≠lab b):nonsing k fun a c=>NZ m fr to s (o a) (o c):=by
 intro x v c f;have t:=B6l (φ:=Qc k o x) (D:=fun i=>s i*(Qc k o x (fr i)-Qc k o x (to i))) j d (fun _ _=>rfl) fun b hbn=>by
  by_cases l:∃a,a<k/\o a=b
  . obtain⟨a,d,rfl⟩:=l;refine .inr ?_;rw[<-A3e j,A3d h];exact v a d
  . exact .inl (Zu x fun a d e=>l ⟨a,d,e⟩)
 rw[<-fY g x f,r (Qc k o x) (fun i g=>by have:=t i g;grind) (o c) (h c f)];exact Zu x fun a d=>u (o c) (h c f) a d
def B3q {lab:Nat->Nat} {F J:Nat->Rat} (c:∀b,b<n->lab b≠b->F b=J b) (f:∀t,C6 n (fun b=>(if lab b=t then 1 else 0)*F b)=0) (hJ:∀t,t<n->C6 n (fun b=>(if lab b=t then 1 else 0)*J b)=0):∀b,b<n->F b=J b:=by
 intro t a;by_cases d:lab t=t
 . have e:C6 n (fun b=>(if lab b=t then 1 else 0)*(F b-J b))=0:=by
    rw[B7 (g:=fun b=>(if lab b=t then 1 else 0)*F b-(if lab b=t then 1 else 0)*J b) fun b _=>by grind,Sm,f,hJ t a];grind
   rw[O8 a fun b f h=> ?_,qR d]at e
   . grind
   . by_cases h:lab b=t
     . rw[c b f (by omega)];grind
     . rw[qK h,tK]
 . exact c t a d
def B3k {o lab:Nat->Nat} {h J right x:Nat->Rat} (g:∀i,i<m->fr i<n/\to i<n) (u:∀a,a<k->o a<n)
 (j:∀b,b<n->lab b≠b->∃a,a<k/\o a=b) (f:∀i,i<m->lab (fr i)=lab (to i)) (w:∀a,a<k->C6 k (fun c=>NZ m fr to s (o a) (o c)*x c)=right a)
 (v:∀a,a<k->right a=J (o a)-ZT m fr to (fun i=>s i*h i) (o a)) (d:∀t,t<n->C6 n (fun b=>(if lab b=t then 1 else 0)*J b)=0):∀b,b<n->ZT m fr to (flw fr to s h (Qc k o x)) b=J b:=by
 refine B3q (lab:=lab) (fun b l r=> ?_) (fun t=>VY g f t) d;obtain⟨a,f,rfl⟩:=j b l r;have d:=w a f;rw[<-A3d u,A3e g,v a f]at d;have f:ZT m fr to (flw fr to s h (Qc k o x)) (o a)=ZT m fr to (fun i=>s i*(Qc k o x (fr i)-Qc k o x (to i))+1*(s i*h i)) (o a):=NP (fun i _=>by unfold flw;grind) _;rw[f,B5m,d];grind
abbrev Wv:=Int×Int×D3×D3
abbrev Hq:=Int×List Wv
def dB:Wv:=(0,0,((false,[]),[]),((false,[]),[]))
def Cj (E:List Wv) (i:Nat):Nat:=(E.getD i dB).1.toNat
def Ck (E:List Wv) (i:Nat):Nat:=(E.getD i dB).2.1.toNat
def Un (E:List Wv) (i:Nat):Rat:=rv (E.getD i dB).2.2.1
def brH (E:List Wv) (i:Nat):Rat:=rv (E.getD i dB).2.2.2
def kO (n:Int) (e:Wv):Prop:=0<=e.1/\e.1<n/\0<=e.2.1/\e.2.1<n/\e.1≠e.2.1/\0<rv e.2.2.1
instance (n:Int) (e:Wv):Decidable (kO n e):=by unfold kO;infer_instance
def H2 (N:Hq):Prop:=0<=N.1/\N.1<=16384/\N.2.length<=16384/\∀e∈N.2,kO N.1 e
instance (N:Hq):Decidable (H2 N):=by unfold H2;infer_instance
def KZ (E:List Wv):List Ln:=E.map fun e=>(e.1,e.2.1)
def O1 (N:Hq) (b:Nat):Nat:=(I8 (Ar N.1 (KZ N.2)) (b:Int)).toNat
def FE (E:List Wv) (b c:Nat):Rat:=NZ E.length (Cj E) (Ck E) (Un E) b c
def SE (E:List Wv) (f:Nat->Rat) (b:Nat):Rat:=ZT E.length (Cj E) (Ck E) f b
def flN (E:List Wv) (t:Nat->Rat) (i:Nat):Rat:=flw (Cj E) (Ck E) (Un E) (brH E) t i
abbrev K2:Nat:=4294967296
abbrev K3:Nat:=4294968296
def rat (l:List D3) (i:Nat):Rat:=rv (l.getD i zr)
def C2s (s:List Int) (x:List D3):Prop:=∀t,t<s.length->C6 s.length (fun b=>(if s.getD b 0=(t:Int)then 1 else 0)*rat x b)=0
instance (s:List Int) (x:List D3):Decidable (C2s s x):=by unfold C2s;infer_instance
def szN (k:Nat) (E:List Wv):Prop:=∀e∈E,sz k e.2.2.1/\sz k e.2.2.2
def Bb (N:Hq):Prop:=N.1<=7/\N.2.length<=9/\szN 2 N.2
def B0p (N:Hq):Prop:=H2 N/\1<=N.1/\N.1<=6/\N.2.length<=9/\∀e∈N.2,AA e.2.2.1/\AA e.2.2.2
def Kw (E:List Wv) (G:Nat->Nat->Rat) (l b:Nat):Rat:=Un E l*(G (Cj E l) b-G (Ck E l) b)
def En (N:Hq) (G:Nat->Nat->Rat):Prop:=∀b,b<N.1.toNat->(∀c,c<N.1.toNat->O1 N c=c->G c b=0)/\∀c,c<N.1.toNat->SE N.2 (fun l=>Kw N.2 G l b) c=(if b=c then 1 else 0)-(if O1 N b=c then 1 else 0)
def bL (E:List Wv) (G:Nat->Nat->Rat) (l k:Nat):Rat:=(G (Cj E l) (Cj E k)-G (Ck E l) (Cj E k))-(G (Cj E l) (Ck E k)-G (Ck E l) (Ck E k))
def shF (E:List Wv) (G:Nat->Nat->Rat) (l k:Nat):Rat:=Un E k*(Kw E G l (Ck E k)-Kw E G l (Cj E k)+if k=l then 1 else 0)
abbrev TFV:=List Int×U9×U9
def Qt (f:TFV):Prop:=C2 f.2.1/\C2 f.2.2/\f.2.2.1=f.2.1.1/\f.2.2.2.1=f.2.1.1/\f.2.1.2.1=(f.1.length:Int)
instance (f:TFV):Decidable (Qt f):=by unfold Qt;infer_instance
def TG (n:Nat) (f:Nat->Rat):List D3:=(List.range n).map fun i=>rc (f i)
end Go.Proofs.YtiflhbllbgajeaaGreat
namespace Go.Gw
open Go Go.RowKit Go.ChangeShapes Go.WideShapes Go.ChangeAt
section
variable {H:Type} {enc:TypeId×Value->H} {P:Program}
def GQ (f:laidOutB P=true) {W W':World} {sp:Nat->Bool} (d:R7 W W'):∀(ts:List TypeId) (vs:List Value) (b:List (DataW H)) (a:List MemPlace),
 (∀t∈ts,P.readableRec t=true/\t<P.types.size)->DataW.TrodAll enc P W 0 (fun _=>true) true ts vs b a->(∀x∈a,x.block<W.heap.size)->(∀x∈a,sp x.block=true)->DataW.TrodAll enc P W' 0 sp true ts vs b a
 | [],vs,b,a,_,h,_,_=>by
  cases vs<;>cases b<;>simp[DataW.TrodAll]at h⊢;exact h
 |t::ts,vs,b,a,c,i,g,h=>by
  obtain⟨v,l,a,b,p,q,rfl,rfl,rfl,j,k⟩:=trodAll_cons i;refine trodAll_cons_mk ?_ (GQ f d ts l b q (fun x a=>c x (by simp[a])) k (fun x a=>g x (by simp[a])) (fun x a=>h x (by simp[a])));exact WideElems.Trod_stays f (c t (by simp)).1 (c t (by simp)).2 j (fun x a=>d.same (g x (by simp[a]))) (fun x a=>h x (by simp[a]))
def B3c (o:laidOutB P=true) {f:Func} {s:ChangeSpec} {W W':World} {args:Array Value} {b g:List (DataW H)} {a:List MemPlace} {d:TypeId}
 (c:DataW.Whole enc P f.params.toList s.vars false W args.toList b g a) (k:s.vars= []) (u:f.resultTypes= #[d]) (v:P.underlying d=some .bool)
 (d:s.fn H b= {results:= [.lit (.bool true)],args:=b}) (r:∀t∈f.params.toList,P.readableRec t=true/\t<P.types.size) (h:R7 W W'):
 s.post enc P f false true false false W args (.bool true) W':=by
 have i:∀p∈a,p.block<W.heap.size:=fun p hp=>c.lt p hp
 have n:=c;obtain⟨p,q,l,g,j,_,_⟩:=c;rw[k]at g;obtain⟨rfl,rfl⟩:=trodVars_none g;rw[vT]at j;subst j;refine⟨b,[],a,[],a,[],n, ?_, ?_, ?_, ?_,fun c=>by cases c⟩
 . rw[vT,d,u];exact trodAll_mk1 (shut_bool v _)
 . rw[vT,d];exact GQ o h _ _ _ _ r l i (fun x b=>by simpa using i x b)
 . rw[vT,d,k];rfl
 . refine World.keptBut_mono ?_ (h.frame (· ∈a));intro x b;exact⟨b, .inr (.inl b)⟩
end
end Go.Gw
namespace Go.Vc
open Go Go.RowKit Go.Gw Go.ChangeShapes Go.WideShapes Go.ChangeAt
def mH (P:Program):Nat->TypeId->Ty->Bool
 |0,_,_=>false
 |n+1,T,a=>match P.underlying T with
  |some (.int k)=>(match a with| .int k'=>decide (k=k') | _=>false)
  |some .bool=>(match a with| .bool=>true| _=>false)
  |some .string=>(match a with| .str=>true| _=>false)
  |some (.slice e)=>(match a with| .sl t=>mH P n e t&&Nat.beq (P.cellsOf e) t.size&&Nat.ble 1 t.size| _=>false)
  |some (.struct b)=>gN P (mH P n) b.toList 0 a&&Nat.beq (P.cellsOf T) a.size
  |some (.array k e)=>gL (mH P n e) (P.cellsOf e) k a&&Nat.beq (P.cellsOf T) a.size
  | _=>false
section
variable {H:Type} {α:Type} {enc:TypeId×Value->H} {P:Program} {W:World}
def cells?_at {b:Nat} {a:Addr} {n:Nat} {cs:List Value} (h:W.cells? b a n=some cs):cs.length=n/\J6 W a cs:=by
 obtain⟨_,d,c⟩:=World.cells?_some h;exact⟨d,fun j v b=>by have:=c j (by have:=GF b;omega);rw[this];exact b⟩
def A7d {a:Addr} {v:Value} (h:W.cell? a=some v):a.spot=none:=by
 unfold World.cell? at h;split at h
 . cases b:a.spot with
   |none=>rfl
   |some _=>simp[b]at h
 . cases h
def VF {R:List Value->α->Prop} {b o sz:Nat} :∀(len:Nat),(∀i,i<len->∃a y,a.length=sz/\J6 W ⟨b,o+i*sz,none⟩ a/\R a y)->∃a l,l.length=len/\a.length=len*sz/\J6 W ⟨b,o,none⟩ a/\G1 R a l
 |0,_=>⟨[],[],rfl,by simp,fun j v c=>by simp at c,rfl⟩
 |len+1,h=>by
  obtain⟨a,l,r,f,s,t⟩:=VF (R:=R) (b:=b) (o:=o) (sz:=sz) len (fun i hi=>h i (by omega));obtain⟨d,y,g,k,n⟩:=h len (by omega);refine⟨a++d,l++ [y],by simp[r],by rw[rO,f,g,uN],fun j v c=> ?_,t.append ⟨d,[],by simp,n,rfl⟩⟩;rw[List.getElem?_append]at c;split at c
  . exact s j v c
  . rename_i a;have:=k _ v c;rw[K5]at this⊢;rw[f]at this a;rw[show o+len*sz+(j-len*sz)=o+j from by omega]at this;exact this
def A3a {n:Nat} {r:TypeId->Ty->Bool} {Z:Nat->Prop} {cs:List Value} (c:∀ {T:TypeId} {ty:Ty} {cs:List Value} {x:DataW H×List MemPlace},r T ty=true->DataW.trod enc P W 0 (fun _=>true) true n T cs=some x->∃y,C5 ty W Z cs y):
 ∀ {b:List Field} {off:Nat} {ty:Ty},gN P r b off ty=true->(∀f∈b,∃x,DataW.trod enc P W 0 (fun _=>true) true n f.type ((cs.drop f.offset).take (P.cellsOf f.type))=some x)->cs.length=off+ty.size->∃y,C5 ty W Z (cs.drop off) y
 | [],off,ty,h,d,a=>by
  cases ty<;>simp[gN]at h;exact⟨(),by rw[sC (by simp[Ty.size]at a;omega)];rfl⟩
 | [f],off,ty,h,d,a=>by
  have a:(Nat.beq f.offset off&&r f.type ty&&Nat.beq (P.cellsOf f.type) ty.size)=true:=by cases ty<;>exact h
  simp only[qC]at a;obtain⟨x,d⟩:=d f (by simp);obtain⟨y,g⟩:=c a.1.2 d;rw[qE a.1.1,qE a.2,qV (by rw[sL];omega)]at g;exact⟨y,g⟩
 |f::g::b,off,ty,h,d,l=>by
  cases ty<;>simp only[gN]at h<;>try cases h
  rename_i a b;simp only[qC]at h;obtain⟨⟨⟨g,i⟩,j⟩,k⟩:=h;obtain⟨x,h⟩:=d f (by simp);obtain⟨y,b⟩:=c i h;rw[qE g,qE j]at b;obtain⟨z,g⟩:=A3a c k (fun q hq=>d q (qJ _ hq)) (by rw[l];simp only[Ty.size];omega);exact⟨(y,z),(cs.drop off).take a.size,cs.drop (off+a.size),by rw[<-vR,uD],b,g⟩
def A2y {n:Nat} {r:TypeId->Ty->Bool} {Z:Nat->Prop} {cs:List Value} {e:TypeId} {sz:Nat} (c:∀ {T:TypeId} {ty:Ty} {cs:List Value} {x:DataW H×List MemPlace},r T ty=true->DataW.trod enc P W 0 (fun _=>true) true n T cs=some x->∃y,C5 ty W Z cs y):
 ∀ {k i:Nat} {ty:Ty},gL (r e) sz k ty=true->(∀j,j<k->∃x,DataW.trod enc P W 0 (fun _=>true) true n e ((cs.drop ((i+j)*sz)).take sz)=some x)->cs.length=i*sz+ty.size->∃y,C5 ty W Z (cs.drop (i*sz)) y
 |0,i,ty,h,b,a=>by
  cases ty<;>simp[gL]at h;exact⟨(),by rw[sC (by simp[Ty.size]at a;omega)];rfl⟩
 |1,i,ty,h,a,b=>by
  have b:(r e ty&&Nat.beq ty.size sz)=true:=by cases ty<;>exact h
  simp only[qC]at b;obtain⟨x,a⟩:=a 0 (by omega);rw[tB]at a;obtain⟨y,d⟩:=c b.1 a;have:=qE b.2;rw[qV (by rw[sL];omega)]at d;exact⟨y,d⟩
 |k+2,i,ty,h,g,s=>by
  cases ty<;>simp only[gL]at h<;>try cases h
  rename_i a b;simp only[qC]at h;obtain⟨⟨l,b⟩,o⟩:=h;obtain⟨x,f⟩:=g 0 (by omega);rw[tB]at f;obtain⟨y,d⟩:=c l f;have b:=qE b;have d:C5 a W Z ((cs.drop (i*sz)).take a.size) y:=by rw[b];exact d
  have f:(i+1)*sz=i*sz+a.size:=by rw[uN,b]
  obtain⟨z,b⟩:=A2y c (i:=i+1) o (fun j hj=>by
   have:=g (j+1) (by omega);rw[show i+(j+1)=i+1+j from by omega]at this;exact this) (by rw[s,f];simp only[Ty.size];omega)
  rw[f]at b;exact⟨(y,z),(cs.drop (i*sz)).take a.size,cs.drop (i*sz+a.size),by rw[<-vR,uD],d,b⟩
def TL:∀ {m n:Nat} {T:TypeId} {ty:Ty} {cs:List Value} {x:DataW H×List MemPlace},mH P m T ty=true->DataW.trod enc P W 0 (fun _=>true) true n T cs=some x->∃y,C5 ty W (fun b=>b<W.heap.size) cs y
 |0,_,_,_,_,_,h,_=>by cases h
 |m+1,n,T,ty,cs,x,h,c=>by
  simp only[mH]at h;split at h
  . rename_i F a;cases ty<;>simp only at h<;>try cases h
    rename_i d;have:=qA h;subst this;obtain⟨z,e,_,d⟩:=DataW.trod_int a c;exact⟨z,e,by simp only[Lit.wf,qC,rV]at d;exact d⟩
  . rename_i a;cases ty<;>simp only at h<;>try cases h
    obtain⟨b,e,_⟩:=DataW.trod_bool a c;exact⟨b,e⟩
  . rename_i a;cases ty<;>simp only at h<;>try cases h
    obtain⟨s,e,_⟩:=DataW.trod_string a c;exact⟨s,e⟩
  . rename_i e a;cases ty<;>simp only at h<;>try cases h
    rename_i t;simp only[qC]at h;have D:=qE h.1.2;rcases DataW.trod_slice a c with⟨s,_⟩ | ⟨k,len,w,VE,r,q,B,s,_,_,g,z,d,v,_⟩
    . exact⟨[],none,0,s,qZ _,rM _,fun _=>rfl, .inl rfl⟩
    . by_cases d:len=0
      . subst d;exact⟨[],some k,w,s,rM _,z,fun g=>(by cases g), .inl rfl⟩
      . have A:∀i,i<len->∃d y,d.length=t.size/\J6 W (k.add (i*t.size)) d/\C5 t W (fun b=>b<W.heap.size) d y:=fun i r=>by
         have u:=v i r;rw[qT (by omega),D]at u;obtain⟨d,D,E⟩:=g1p.1 u;obtain⟨v,u⟩:=cells?_at D;obtain⟨y,D⟩:=TL (m:=m) h.1.1 E;exact⟨d,y,v,u,D⟩
        obtain⟨D,E,v,u,_⟩:=A 0 (by omega);have v:=qQ h.2;obtain⟨G,E⟩:=B5p (l:=D) (i:=0) (by omega);have v:=u 0 G E;have u:(k.add (0*t.size)).add 0=k:=by simp[Addr.add]
        rw[u]at v;have u:=A7d v;obtain⟨b,o,D⟩:=k;simp only at u;subst u;have u:b<W.heap.size:=block_lt_of_cell v;obtain⟨d,l,v,_,D,E⟩:=VF (R:=C5 t W (fun b=>b<W.heap.size)) (b:=b) (o:=o) (sz:=t.size) len (fun i r=>by
         obtain⟨d,y,t,k,G⟩:=A i r;rw[K5]at k;exact⟨d,y,t,k,G⟩)
        exact⟨l,some ⟨b,o,none⟩,w,by rw[s,v],by omega,z,fun g=>(by cases g), .inr ⟨b,o,d,rfl,u,D,E⟩⟩
  . rename_i s a;simp only[qC]at h;obtain⟨w,q,B,_,k,v,d⟩:=DataW.trod_struct a c;have:=A3a (enc:=enc) (P:=P) (W:=W) (n:=q) (Z:=fun b=>b<W.heap.size) (cs:=cs) (fun g c=>TL (m:=m) g c) h.1 (fun f hf'=>by
     obtain⟨i,r,t⟩:=g3f hf';have u:i<s.size:=by simpa using r
     have r:=d i f (by rw[tX u];simpa using t);rw[qT (by omega)]at r;exact⟨_,r⟩) (by rw[k,qE h.2];omega)
    simpa using this
  . rename_i F e a;simp only[qC]at h;obtain⟨w,q,B,_,k,v,d⟩:=DataW.trod_array a c;have:=A2y (enc:=enc) (P:=P) (W:=W) (n:=q) (Z:=fun b=>b<W.heap.size) (cs:=cs) (e:=e) (i:=0) (fun g c=>TL (m:=m) g c) h.1 (fun j hj=>by
     have a:=d j hj;rw[qT (by omega)]at a;rw[sE];exact⟨_,a⟩) (by rw[k,qE h.2];omega)
    simpa using this
  . cases h
end
def iB (c:Bool) (A B:Prop):Prop:=(c=true->A)/\(c=false->B)
def B9a (P:Program) (T:TypeId) (a:Bool):Bool:=match P.underlying T with
 |some (.struct _)=>a
 |some (.array _ _)=>false
 | _=> !a
def fA (P:Program):List TypeId->List AM->Bool
 | [],[]=>true
 |T::b, .val a c::as=>mH P 40 T c&&B9a P T a&&fA P b as
 | _,_=>false
section
variable {H:Type} {enc:TypeId×Value->H} {P:Program} {W:World}
def B2p {m:Nat} {T:TypeId} {ty:Ty} {a:Bool} {r:Reach} {b0:Nat} {v:Value} {d:DataW H} {p:List MemPlace} (h:mH P m T ty=true) (f:B9a P T a=true) (g:Value.okWide P W r b0 T v) (c:DataW.Trod enc P W 0 (fun _=>true) true T v d p):
 ∃y,Bd a ty W (fun b=>b<W.heap.size) v y:=by
 obtain⟨n,c⟩:=c;obtain⟨y,i⟩:=TL h c;refine⟨y, ?_⟩;cases m with
 |zero=>cases h
 |succ m=>
  simp only[mH]at h;unfold B9a at f;split at h
  . rename_i k c;simp only[c,rP]at f;obtain⟨n,rfl⟩:=okWide_int c g;subst f;exact i
  . rename_i c;simp only[c,rP]at f;obtain⟨n,rfl⟩:=okWide_bool c g;subst f;exact i
  . rename_i c;simp only[c,rP]at f;obtain⟨n,rfl⟩:=okWide_string c g;subst f;exact i
  . rename_i e c;simp only[c,rP]at f;obtain⟨j,k,l,rfl⟩:=okWide_slice c g;subst f;exact i
  . rename_i j c;simp only[c]at f;obtain⟨j,rfl,_⟩:=okWide_struct c g;subst f;exact⟨j.toList,by simp,i⟩
  . rename_i c;simp only[c]at f;cases f
  . cases h
def dL {r:Reach} {b0:Nat} :∀ {ts:List TypeId} {as:List AM} {vs:List Value} {a:List (DataW H)} {c:List MemPlace},fA P ts as=true->DataW.TrodAll enc P W 0 (fun _=>true) true ts vs a c->(∀(j:Nat) (t:TypeId) (v:Value),ts[j]? =some t->vs[j]? =some v->Value.okWide P W r b0 t v)->∃x,Y9 P W (fun b=>b<W.heap.size) as vs x
 | [],[],vs,a,c,_,h,_=>by
  cases vs with
  |nil=>exact⟨(),rfl⟩
  |cons _ _=>cases a<;>exact h.elim
 | [],_:: _,_,_,_,h,_,_=>by cases h
 | _:: _,[],_,_,_,h,_,_=>by cases h
 |T::ts, .row _ _:: _,_,_,_,h,_,_=>by cases h
 |T::ts, .box _ _:: _,_,_,_,h,_,_=>by cases h
 |T::ts, .fn _ _ _:: _,_,_,_,h,_,_=>by cases h
 |T::ts, .rows _ _ _:: _,_,_,_,h,_,_=>by cases h
 |T::ts, .val g i::as,vs,a,c,h,f,d=>by
  simp only[fA,qC]at h;obtain⟨v,g,i,k,p,q,rfl,rfl,rfl,a,c⟩:=trodAll_cons f;obtain⟨y,f⟩:=B2p h.1.1 h.1.2 (d 0 T v rfl rfl) a;obtain⟨z,a⟩:=dL h.2 c (fun j t u ht hu=>d (j+1) t u (by simpa using ht) (by simpa using hu));exact⟨(y,z),v,g,rfl,f,a⟩
def gV (as:List AM):A7:= {args:=as,res:= [.val false .bool],pre:=fun _=>True,post:=fun _ r=>r.1=true}
def A5x {f:FuncId} {as:List AM} {vs:List Value} {x:A2 as} (a:Ax as=true) (c:A8 P f (gV as)) (h:Y9 P W (fun b=>b<W.heap.size) as vs x):Gw.bO P f vs W fun v W'=>v= .bool true/\R7 W W':=by
 refine(c W _ vs x (fun _ h=>h) h (by show Dis W (O7 as vs);rw[CZ a];trivial) trivial).mono fun v d ⟨c,r,o,us,Zn,hpost,_,hv,_,hrep,_⟩=>⟨?_,c.ext (fun b ⟨u,hu,_⟩=>by rw[show O7 (gV as).args vs= []from CZ a vs]at hu;cases hu)⟩
 obtain⟨u,d,e,a,_,c⟩:=hrep;rw[show d= []from c]at e;subst e;have a: [u]= [Value.bool r.1]:=a;have c:r.1=true:=hpost;rw[c]at a;rw[hv];simpa[Xc]using a
def mP {f:FuncId} {s:A7} (h:∀x,¬s.pre x):A8 P f s:=fun _ _ _ x _ _ _ a=>absurd a (h x)
def A1:Jd P []:=fun _ _ h=>by cases h
def A0 {f:FuncId} {s:A7} {l:H1} (c:A8 P f s) (d:Jd P l) (i:s.inl=none:=by rfl):Jd P ((f,s)::l):=fun g t h=>by
 unfold Gj at h;cases a:Nat.beq f g with
 |true=>
  rw[a]at h;obtain rfl:=qE a;obtain rfl:s=t:=by simpa using h
  exact⟨c,fun j b=>by rw[i]at b;cases b⟩
 |false=>rw[a]at h;exact d g t h
def Fc {f:FuncId} {run:Inl} {l:H1} (b:PO P f run) (c:Jd P l):Jd P ((f,Gl run)::l):=fun g t h=>by
 unfold Gj at h;cases a:Nat.beq f g with
 |true=>
  rw[a]at h;obtain rfl:=qE a;obtain rfl:Gl run=t:=by simpa using h
  exact⟨fun _ _ _ _ _ _ _ d=>d.elim,fun r i=>by cases i;exact b⟩
 |false=>rw[a]at h;exact c g t h
def Ij:A1z P []:=fun _ h=>by cases h
def T5 {d:Nat} {sp:H1} {an:An} {l:List (Nat×H1×An)} (b:Jd P sp) (c:A1z P l):A1z P ((d,sp,an)::l):=fun x a=>by
 rcases qG.1 a with rfl|a
 . exact b
 . exact c x a
end
end Go.Vc
namespace Go.Vc
open Go Go.RowKit Go.Gw
def EL (g:FuncId) (t:Ty) (e:TypeId) (φ:t.den->t.den->Int) (_:Nat) (b:St) (ss:List SV) (k:St->List SV->Prop):Prop:=
 match ss with
 | [⟨false,[.row q]⟩,⟨false,[.fn a []]⟩]=>bif Nat.beq a g then(match BB b t e q with
  |some l=>l.length<=100000/\∀a:List t.den,(Ty.sl t).wf a->a.Perm l->a.Pairwise (fun c d=>¬φ d c<0)->k (addM [.row t e] (a,()) [q] (dropM b [q])) []
  |none=>False)else False
 | _=>False
def A7c (g:FuncId) (t:Ty) (e:TypeId) (φ:t.den->t.den->Int) {a:St} {d:Nat} {ss:List SV} {k k':St->List SV->Prop} (h:EL g t e φ d a ss k) (f:∀b c,C1 a b->k b c->k' b c):EL g t e φ d a ss k':=by
 unfold EL at h⊢;split at h
 . obtain⟨a,h⟩:=B4 h;rw[a,qS];split at h
   . exact⟨h.1,fun i c a b=>f _ _ ((C1.dropM _ _).trans (C1.addM _ _ _ _)) (h.2 i c a b)⟩
   . exact h.elim
 . exact h.elim
def TP (g:FuncId) (t:Ty) (e:TypeId) (φ:t.den->t.den->Int):Inl:= {run:=EL g t e φ,step:=A7c g t e φ}
def Bq (t:Ty) (e:TypeId) (φ:t.den->t.den->Int):A7:=
 { args:= [.row t e],res:= [],shared:=true,pre:=fun _=>True,post:=fun _ _=>True,mpost:=fun(x:List t.den×Unit) _ (o:List t.den×Unit)=>o.1.Perm x.1/\o.1.Pairwise fun a b=>¬φ b a<0}
def A2d (P:Program) (f g:FuncId) (t:Ty) (e:TypeId) (φ:t.den->t.den->Int):Prop:=
 ∀(w:World) (Z:Nat->Prop) (v:Value) (l:List t.den),(∀b,Z b->b<w.heap.size)->bN P w Z (.row t e) v l->l.length<=100000->B8g P f (Bq t e φ) [v, .func (.func g) #[] #[]] w Z (l,())
def YD {P:Program} {tys:List (Nat×TI)} {f g:FuncId} {t:Ty} {e:TypeId} {φ:t.den->t.den->Int} (u:A2d P f g t e φ):PO P f (TP g t e φ):=by
 refine {go:= ?_};intro v n i E w Z B d h vs a j k c l b;replace b:EL g t e φ d i h a:=b;unfold EL at b;split at b
 . rename_i q y;obtain⟨a,n⟩:=B4 b;clear b;obtain rfl:=qE a;split at n
   . rename_i l a;obtain⟨D,G⟩:=n;obtain⟨d,v,rfl,h,l,z,rfl,j,rfl⟩:=c;have c:d=B q:=by
      obtain⟨z,A,c,d,v⟩:=h;cases c;exact d
     have d:l= .func (.func y) #[] #[]:=by
      obtain⟨l,v,c,d,h⟩:=j;cases c;exact d
     subst c d;have l:=k.locs q;have h:∃d,∃c,∃l':List d.den,i.L q= .row d c l':=by
      unfold BB at a;split at a
      . exact⟨_,_,_,by assumption⟩
      . cases a
     obtain⟨d,c,v,h⟩:=h;unfold BB at a;rw[h]at a l;simp only at a;split at a
     . rename_i j;subst j;cases j:Nat.beq c e with
       |false=>simp[j]at a
       |true=>
        simp only[j,qS,rD]at a;obtain rfl:=qE j;subst a;obtain⟨I,F,A,z⟩:=l;have H:bN P w Z (.row d c) (B q) v:=⟨I,F,A,fun j l=>(z j l).2⟩;have A:=u w Z (B q) v k.zlt H D;have z:live (i.L q):=by rw[h];trivial
        have D:lz w i [q] B Z true=Z:=by funext j;simp[lz]
        have:=bW (cx:=⟨P,tys⟩) (s:=Bq d c φ) (x:=(v,())) (vs:= [B q, .func (.func y) #[] #[]]) (mu:= [q]) k (by rw[show(Bq d c φ).shared=true from rfl,D];exact A) rfl
         ⟨⟨rfl,fun j l=>by rw[h];exact l⟩,trivial⟩ (by simp) (fun d c=>by simp at c;subst c;exact z)
        refine Gw.bO.mono this fun v c ⟨_,r,o,i,_,how,_,hmp,hv,Z',B',h3,h4,_⟩=> ?_
        obtain⟨c,d⟩:=hmp rfl;have h:i= []:=h4;subst h;exact⟨_,Z',B',[],[],h3,hv,rfl,fun s u=>(by cases u),G o.1 how.1 c d⟩
     . cases a
   . exact n.elim
 . exact b.elim
def PU (P:Program) (as:List (Bool×Ty)) (c:Bool) (r a:Ty) (φ:a.den->Y4 as->r.den):List SV->Option SV
 | [⟨false,[.val b n]⟩]=>if h:b=a then some ⟨false,[.fv P as c r (fun _=>True) (φ (h▸n))]⟩else none
 | _=>none
def B0k (P:Program) (as:List (Bool×Ty)) (b:Bool) (r a:Ty) (φ:a.den->Y4 as->r.den):Inl:=
 { run:=fun _ d c k=>match PU P as b r a φ c with
    |some sv=>k d [sv]
    |none=>False
   res:=PU P as b r a φ
   step:=fun {d g c k i} h f=>by
    cases d:PU P as b r a φ c with
    |none=>rw[d]at h;exact h.elim
    |some sv=>rw[d]at h;exact f _ _ (C1.refl _) h}
def C6e (P:Program) (f:FuncId) (as:List (Bool×Ty)) (d:Bool) (r a:Ty) (φ:a.den->Y4 as->r.den):Prop:=
 ∀(w:World) (Z:Nat->Prop) (v:Value) (n:a.den),C5 a w Z [v] n->Gw.bO P f [v] w fun u c=>R7 w c/\∃Zn:Nat->Prop,(∀b,Zn b->Z b\/(w.heap.size<=b/\b<c.heap.size))/\oQ P c Zn u as d r (fun _=>True) (φ n)
def oQ.mono {P:Program} {w:World} {Z Z':Nat->Prop} {v:Value} {as:List (Bool×Ty)} {d:Bool} {r:Ty} {a:Y4 as->Prop} {φ:Y4 as->r.den} (h:oQ P w Z v as d r a φ) (f:∀b,Z b->Z' b):oQ P w Z' v as d r a φ:=
 RC.mono (B:=fun _=>v) (B':=fun _=>v) (n:=0) (c:= .fv P as d r a φ) f (fun _ _=>rfl) (fun _ _=>rfl) trivial h
def B0l {P:Program} {f:FuncId} {as:List (Bool×Ty)} {g:Bool} {r a:Ty} {φ:a.den->Y4 as->r.den} (j:C6e P f as g r a φ):PO P f (B0k P as g r a φ):=by
 have res:∀ {t:Zn} {s:World} {h:St} {E:G2} {w:World} {Z:Nat->Prop} {B:Nat->Value} {d:List SV} {k:List Value} {sv:SV},B8 t s h E w Z B->Re w Z B d k->PU P as g r a φ d=some sv->
  Gw.bO P f k w fun v i=>R7 w i/\∃Z':Nat->Prop,(∀b,Z b->Z' b)/\(∀b,Z' b->Z b\/(w.heap.size<=b/\b<i.heap.size))/\RS i Z' B sv v:=by
  intro t s h E w Z B d k sv l n c;unfold PU at c;split at c
  . rename_i o z;split at c
    . rename_i o;subst o;cases c;obtain⟨A,o,rfl,y,rfl⟩:=n;obtain⟨u,F,o,x,D⟩:=y;cases o;refine Gw.bO.mono (j w Z A z x) fun u i ⟨o,Zn,hz,hf⟩=>⟨o,fun b=>Z b\/Zn b,fun _=> .inl,fun b x=>x.elim .inl (hz b), ?_⟩
      exact⟨u,[],rfl,hf.mono fun _=> .inr,rfl⟩
    . cases c
  . cases c
 refine {go:= ?_,res:=res};intro t s h E w Z B u d k b x l n y c;replace c:(match PU P as g r a φ d with|some sv=>b h [sv] |none=>False):=c;cases b:PU P as g r a φ d with
 |none=>rw[b]at c;exact c.elim
 |some sv=>
  rw[b]at c;refine Gw.bO.mono (res l n b) fun v i ⟨o,Z',hz,hz',hrep⟩=>⟨h,Z',B,[sv],[v],l.more o hz hz',rfl,⟨v,[],rfl,hrep,rfl⟩,fun s j=> ?_,c⟩
  rw[qP]at j;subst j;unfold PU at b;split at b
  . split at b
    . cases b;intro d c;rw[qP]at c;subst c;trivial
    . cases b
  . cases b
end Go.Vc
namespace Go.Proofs.YtiflhbllbgajeaaGreat
def Vb {s:List Int} {k:Nat} {v i:Int} (a:k<s.length):I8 (s.set k v) i=if i.toNat=k then v else I8 s i:=by
 unfold I8;simp only[qF,vZ];by_cases h:k=i.toNat
 . subst h;simp[a]
 . rw[qK h,qK (fun a=>h a.symm)]
def UF.le {s:List Int} (h:UF s) {b:Int} (a:0<=b) (c:b<(s.length:Int)):0<=I8 s b/\I8 s b<=b:=by
 have:=h b.toNat (by omega);rw[show((b.toNat:Nat):Int)=b from by omega]at this;exact this
def Vp {s:List Int} (h:UF s):∀(k:Nat) (b:Int),0<=b->b<(s.length:Int)->b.toNat<=k->LD s k b=LD s b.toNat b
 |0,b,a,c,d=>by rw[show b.toNat=0 from by omega]
 |k+1,b,a,d,c=>by
  obtain⟨c,f⟩:=h.le a d;by_cases a:I8 s b=b
  . simp only[LD,qR a];cases d:b.toNat with
    |zero=>rfl
    |succ m=>simp only[LD,qR a]
  . simp only[LD,qK a];have f:I8 s b<b:=by omega
    rw[Vp h k (I8 s b) c (by omega) (by omega)];cases d:b.toNat with
    |zero=>omega
    |succ m=>
     simp only[LD,qK a];rw[Vp h m (I8 s b) c (by omega) (by omega)]
def A4b {s:List Int} (h:UF s) {b:Int} (a:0<=b) (c:b<(s.length:Int)):root s b=if I8 s b=b then b else root s (I8 s b):=by
 obtain⟨d,f⟩:=h.le a c;unfold root;rw[<-Vp h (b.toNat+1) b a c (by omega)];simp only[LD];split
 . rfl
 . exact Vp h _ _ d (by omega) (by omega)
def Da {s:List Int} (h:UF s) {b:Int} (a:0<=b) (c:b<(s.length:Int)) (d:I8 s b=b):root s b=b:=by rw[A4b h a c,qR d]
def Ed {s:List Int} (h:UF s) {b:Int} (c:0<=b) (d:b<(s.length:Int)):root s (I8 s b)=root s b:=by
 by_cases a:I8 s b=b
 . rw[a]
 . rw[A4b h c d,qK a]
def XV {s:List Int} (h:UF s) {q:Int->Prop} (f:∀b,0<=b->b<(s.length:Int)->I8 s b=b->q b) (g:∀b,0<=b->b<(s.length:Int)->I8 s b<b->0<=I8 s b->q (I8 s b)->q b):∀b,0<=b->b<(s.length:Int)->q b:=by
 have l:∀(k:Nat) (b:Int),b.toNat<=k->0<=b->b<(s.length:Int)->q b:=by
  intro k
  induction k with
  |zero=>
   intro b d a c;obtain⟨d,i⟩:=h.le a c;exact f b a c (by omega)
  |succ k j=>
   intro b d a c;obtain⟨d,i⟩:=h.le a c;by_cases i:I8 s b=b
   . exact f b a c i
   . exact g b a c (by omega) d (j _ (by omega) d (by omega))
 exact fun b a c=>l b.toNat b (qZ _) a c
def jC {s:List Int} (h:UF s) {b:Int} (a:0<=b) (c:b<(s.length:Int)):0<=root s b/\root s b<=b/\I8 s (root s b)=root s b:=by
 refine XV h (q:=fun b=>0<=root s b/\root s b<=b/\I8 s (root s b)=root s b) (fun b a c d=> ?_) (fun b a c d g f=> ?_) b a c
 . rw[Da h a c d];exact⟨a,qI _,d⟩
 . rw[Ed h a c]at f;exact⟨f.1,by omega,f.2.2⟩
def A6p {s b:List Int} (h:UF s) (f:UF b) (a:b.length=s.length) (k:∀i:Int,0<=i->i<(s.length:Int)->root s (I8 b i)=root s i) (j:∀i:Int,0<=i->i<(s.length:Int)->I8 b i=i->I8 s i=i):∀i:Int,0<=i->i<(s.length:Int)->root b i=root s i:=by
 intro i a c;refine XV f (q:=fun i=>root b i=root s i) (fun d a c g=> ?_) (fun d a c g l b=> ?_) i a (by omega)
 . rw[Da f a c g,Da h a (by omega) (j d a (by omega) g)]
 . rw[<-Ed f a c,b,k d a (by omega)]
def C3e {s:List Int} (h:UF s) {b:Int} (d:0<=b) (f:b<(s.length:Int)):UF (s.set b.toNat (I8 s (I8 s b)))/\∀i:Int,0<=i->i<(s.length:Int)->root (s.set b.toNat (I8 s (I8 s b))) i=root s i:=by
 have a:b.toNat<s.length:=by omega
 obtain⟨c,g⟩:=h.le d f;obtain⟨g,c1⟩:=h.le c (by omega:I8 s b<(s.length:Int));have g:UF (s.set b.toNat (I8 s (I8 s b))):=fun i hi=>by
  rw[qN]at hi;rw[Vb a];split
  . rename_i e;rw[show((i:Nat):Int)=b from by omega];omega
  . exact h i hi
 refine⟨g,A6p h g (by rw[qN]) (fun i j k=> ?_) (fun i j k=> ?_)⟩
 . rw[Vb a];split
   . rw[show i=b from by omega,Ed h c (by omega),Ed h d f]
   . exact Ed h j k
 . rw[Vb a];split
   . intro e;have:i=b:=by omega
     subst this;omega
   . exact id
def B1g {s:List Int} (h:UF s) {m M:Int} (l:0<=m) (c:m<=M) (a:M<(s.length:Int)) (k:I8 s m=m) (g:I8 s M=M):
 UF (s.set M.toNat m)/\∀i:Int,0<=i->i<(s.length:Int)->root (s.set M.toNat m) i=if root s i=M then m else root s i:=by
 have f:M.toNat<s.length:=by omega
 have d:UF (s.set M.toNat m):=fun i hi=>by
  rw[qN]at hi;rw[Vb f];split
  . omega
  . exact h i hi
 have a:(s.set M.toNat m).length=s.length:=qN;refine⟨d,fun i a c=> ?_⟩;refine XV d (q:=fun i=>root (s.set M.toNat m) i=if root s i=M then m else root s i) (fun b a c hb=> ?_) (fun b a c hb hn hq=> ?_) i a (by omega)
 . rw[Da d a c hb];rw[Vb f]at hb;split at hb
   . have e:b=M:=by omega
     rw[e,Da h (by omega) (by omega) g,qR rfl];omega
   . rename_i j;rw[Da h a (by omega) hb,qK (by omega)]
 . rw[<-Ed d a c,hq];rw[Vb f]at hb⊢;split at hb
   . rename_i e;have e:b=M:=by omega
     have c:b.toNat=M.toNat:=by omega
     rw[qR c,e,Da h (by omega) (by omega) g,Da h l (by omega) k,qR rfl];split<;>rfl
   . rename_i j;rw[qK j,Ed h a (by omega)]
end Go.Proofs.YtiflhbllbgajeaaGreat
namespace Go.Proofs.YtiflhbllbgajeaaGreat
open Go.Vc Go.Gw
def A3n {n:Int} {ls:List Ln} :Rw n ls=0↔B2e n ls:=by
 unfold Rw B2e;split
 . constructor
   . intro h;omega
   . intro h;omega
 . split
   . rename_i b a;exact⟨fun _=>⟨by omega,by omega,a⟩,fun _=>rfl⟩
   . rename_i b a;exact⟨fun h=>by omega,fun h=>absurd h.2.2 a⟩
variable {α:Type}
def B1b (q:α->α->Prop) (d:α) (l:List α) (a i j:Nat):Prop:=∀s t,a<=s->s<t->t<=i->t≠j->q (l.getD s d) (l.getD t d)
def LG (d:α) (l:List α) (j:Nat):List α:=(l.set j (l.getD (j-1) d)).set (j-1) (l.getD j d)
def YF {d:α} {l:List α} {j:Nat} (b:0<j) (a:j<l.length) (k:Nat):(LG d l j).getD k d=if k=j then l.getD (j-1) d else if k=j-1 then l.getD j d else l.getD k d:=by
 unfold LG;simp only[qF,vZ,qN];by_cases h:k=j
 . subst h;rw[qK (by omega),qR rfl,qR rfl,qR a];rfl
 . rw[qK h];by_cases a:k=j-1
   . subst a;rw[qR rfl,qR (by omega),qR rfl];rfl
   . rw[qK (by omega),qK (by omega),qK a]
def A1o {d:α} {l:List α} {j:Nat} (a:j<l.length):(LG d l j).Perm l:=by
 have b:j-1<l.length:=by omega
 have:=List.set_set_perm (as:=l) a b;unfold LG;simp only[qF,qT a,qT b];exact this
def A1p {d:α} {l:List α} {j a:Nat} (h:a<=j-1):(LG d l j).take a=l.take a:=by
 unfold LG;rw[yU h,yU (by omega)]
def A1n {d:α} {l:List α} {j b:Nat} (h:j<b):(LG d l j).drop b=l.drop b:=by
 unfold LG;rw[yT (by omega),yT (by omega)]
def A0c {q:α->α->Prop} {d:α} {l:List α} {a i:Nat} (h:∀s t,a<=s->s<t->t<i->q (l.getD s d) (l.getD t d)):B1b q d l a i i:=fun s t b c f g=>h s t b c (by omega)
def A5q {q:α->α->Prop} {d:α} {l:List α} {a i j:Nat} (h:B1b q d l a i j) (c:a<j) (b:j<l.length) (f:j<=i) (n:q (l.getD j d) (l.getD (j-1) d)):B1b q d (LG d l j) a i (j-1):=by
 intro s t g k f c;rw[YF (by omega) b,YF (by omega) b,qK c];by_cases c:t=j
 . rw[qR c,qK (by omega)];by_cases b:s=j-1
   . rw[qR b];exact n
   . rw[qK b];exact h s (j-1) g (by omega) (by omega) (by omega)
 . rw[qK c];by_cases b:s=j
   . rw[qR b];exact h (j-1) t (by omega) (by omega) f c
   . rw[qK b];by_cases b:s=j-1
     . rw[qR b];exact h j t (by omega) (by omega) f c
     . rw[qK b];exact h s t g k f c
def B1c {q:α->α->Prop} {d:α} {l:List α} {a i j:Nat} (h:B1b q d l a i j) (n:∀x y z,q x y->q y z->q x z) (r:j<=i) (c:a<j->q (l.getD (j-1) d) (l.getD j d)):∀s t,a<=s->s<t->t<i+1->q (l.getD s d) (l.getD t d):=by
 intro s t b g o;by_cases f:t=j
 . subst f;by_cases k:s=t-1
   . rw[k];exact c (by omega)
   . exact n _ _ _ (h s (t-1) b (by omega) (by omega) (by omega)) (c (by omega))
 . exact h s t b g (by omega) f
def XM {q:α->α->Prop} {d:α} {l:List α} {a b:Nat} (c:b<=l.length) (h:∀s t,a<=s->s<t->t<b->q (l.getD s d) (l.getD t d)):((l.drop a).take (b-a)).Pairwise q:=by
 rw[tY];intro i j c f g;rw[qW,sL]at c f;have e:∀k (hk:k<((l.drop a).take (b-a)).length),((l.drop a).take (b-a))[k]=l.getD (a+k) d:=fun k hk=>by
  rw[qW,sL]at hk;rw[g1d,List.getElem_drop,qF,qT (by omega)];rfl
 rw[e i (by rw[qW,sL];omega),e j (by rw[qW,sL];omega)];exact h _ _ (by omega) (by omega) (by omega)
def XN:∀(n:Nat) (f:Nat->Nat),(∀a,a<n+1->f a<n)->∃a b,a<b/\b<n+1/\f a=f b
 |0,f,h=>absurd (h 0 (by omega)) (by omega)
 |n+1,f,h=>by
  by_cases i:∃a,a<n+1/\f a=f (n+1)
  . obtain⟨a,c,g⟩:=i;exact⟨a,n+1,c,by omega,g⟩
  . have d:∀a,a<n+1->f a≠f (n+1):=fun a ha e=>i ⟨a,ha,e⟩
    obtain⟨a,b,c,g,i⟩:=XN n (fun a=>if f a<f (n+1)then f a else f a-1) fun a ha=>by
     have:=h a (by omega);have:=h (n+1) (by omega);have:=d a ha;split<;>omega
    refine⟨a,b,c,by omega, ?_⟩;have c:=d a (by omega);have c:=d b (by omega);split at i<;>split at i<;>omega
def Gk {n:Nat} {q:Nat->Nat} (g:∀a,a<n->q a<n) (f:∀a b,a<n->b<n->q a=q b->a=b) {j:Nat} (d:j<n):∃a,a<n/\q a=j:=
 qU fun c=>by
  have i:∀a,a<n->q a≠j:=fun a ha e=>c ⟨a,ha,e⟩
  obtain⟨a,b,h,k,c⟩:=XN n (fun a=>if a<n then q a else j) fun a ha=>by
   split
   . rename_i h;exact g a h
   . exact d
  by_cases d:b<n
  . rw[qR d,qR (by omega)]at c;have:=f a b (by omega) d c;omega
  . rw[qK d,qR (by omega)]at c;exact i a (by omega) c
def dot (n:Nat) (u x:Nat->Rat):Rat:=C6 n fun j=>u j*x j
def B5l (n k:Nat) (l:Nat->Rat) (R:Nat->Nat->Rat) (u x:Nat->Rat):C6 n (fun j=>(C6 k (fun m=>l m*R m j)+u j)*x j)=C6 k (fun m=>l m*dot n (R m) x)+dot n u x:=by
 have:(fun j=>(C6 k (fun m=>l m*R m j)+u j)*x j)=fun j=>C6 k (fun m=>l m*(R m j*x j))+u j*x j:=by
  funext j;rw[g2v, <-OX];congr 1;exact B7 fun m _=>wN _ _ _
 rw[this,Ha,Ly];congr 1;exact B7 fun m _=>Jn n (l m) _
def B7j (a b c:Rat):a+b=a+c+(b-c):=by grind
structure JK (n k:Nat) (A:Nat->Nat->Rat) (p q:Nat->Nat) (R Lo:Nat->Nat->Rat):Prop where
 kn:k<=n
 plt:∀m,m<k->p m<n
 qlt:∀m,m<k->q m<n
 pinj:∀a b,a<k->b<k->p a=p b->a=b
 qinj:∀a b,a<k->b<k->q a=q b->a=b
 dec:∀i j,i<n->j<n->A i j=C6 k (fun m=>Lo i m*R (p m) j)+R i j
 zero:∀m i,m<k->i<n->(∀a,a<=m->i≠p a)->R i (q m)=0
 piv:∀m,m<k->R (p m) (q m)≠0
 low:∀a m,a<k->m<k->a<=m->Lo (p a) m=0
def JK.init (n:Nat) (A:Nat->Nat->Rat) (p q:Nat->Nat) (Lo:Nat->Nat->Rat):JK n 0 A p q A Lo:=
 ⟨rM _,fun _ h=>absurd h (uZ _),fun _ h=>absurd h (uZ _),fun _ _ h=>absurd h (uZ _),fun _ _ h=>absurd h (uZ _),fun i j _ _=>by rw[C6,tF],fun _ _ h=>absurd h (uZ _),fun _ h=>absurd h (uZ _),fun _ _ h=>absurd h (uZ _)⟩
section
variable {n k:Nat} {A R Lo R' Lo':Nat->Nat->Rat} {p q p' q':Nat->Nat}
def JK.step (h:JK n k A p q R Lo) {r c:Nat} {fac:Nat->Rat} (Y:k<n) (z:r<n) (B:c<n) (E:∀a,a<k->r≠p a) (I:∀a,a<k->c≠q a) (J:R r c≠0)
 (o:∀m,m<k->p' m=p m) (v:p' k=r) (w:∀m,m<k->q' m=q m) (y:q' k=c)
 (Q:∀i,i<n->i≠r->(∀a,a<k->i≠p a)->fac i=R i c/R r c) (G:fac r=0) (H:∀a,a<k->fac (p a)=0)
 (x:∀i j,i<n->j<n->R' i j=R i j-fac i*R r j) (M:∀i m,i<n->m<k->Lo' i m=Lo i m) (F:∀i,i<n->Lo' i k=fac i):JK n (k+1) A p' q' R' Lo':=by
 have O:∀j,j<n->R' r j=R r j:=fun j u=>by rw[x r j z u,G,tK,tJ,wO,rN]
 have N:∀a j,a<k->j<n->R' (p a) j=R (p a) j:=fun a j d u=>by rw[x _ j (h.plt a d) u,H a d,tK,tJ,wO,rN]
 have s:∀m,m<k+1->m<k\/m=k:=fun m b=>by omega
 refine⟨Y,fun m b=> ?_,fun m b=> ?_,fun a l d g f=> ?_,fun a l d g f=> ?_,fun i j t u=> ?_,fun m i b t D=> ?_,fun m b=> ?_,fun a m d b V=> ?_⟩
 . rcases s m b with b|rfl
   . rw[o m b];exact h.plt m b
   . rw[v];exact z
 . rcases s m b with b|rfl
   . rw[w m b];exact h.qlt m b
   . rw[y];exact B
 . rcases s a d with d|rfl<;>rcases s l g with g|rfl
   . rw[o a d,o l g]at f;exact h.pinj a l d g f
   . rw[o a d,v]at f;exact absurd f.symm (E a d)
   . rw[v,o l g]at f;exact absurd f (E l g)
   . rfl
 . rcases s a d with d|rfl<;>rcases s l g with g|rfl
   . rw[w a d,w l g]at f;exact h.qinj a l d g f
   . rw[w a d,y]at f;exact absurd f.symm (I a d)
   . rw[y,w l g]at f;exact absurd f (I l g)
   . rfl
 . have P:C6 k (fun m=>Lo' i m*R' (p' m) j)=C6 k (fun m=>Lo i m*R (p m) j):=B7 fun m b=>by rw[M i m t b,o m b,N m j b u]
   rw[C6,v,O j u,F i t,x i j t u,h.dec i j t u,P];exact B7j _ _ _
 . rcases s m b with b|rfl
   . have T:=h.zero m i b t fun a d=>by have:=D a d;rwa[o a (by omega)]at this
     have U:=h.zero m r b z fun a d=>E a (by omega)
     rw[w m b,x i _ t (h.qlt m b),T,U,uY,tJ,wO,rN]
   . have X:i≠r:=by have:=D m (qZ _);rwa[v]at this
     have W:∀a,a<m->i≠p a:=fun a d=>by have:=D a (by omega);rwa[o a d]at this
     rw[y,x i c t B,Q i t X W,wX,wN,g0w _ J,g2z,tJ,g3o]
 . rcases s m b with b|rfl
   . rw[o m b,w m b,N m _ b (h.qlt m b)];exact h.piv m b
   . rw[v,y,O c B];exact J
 . rcases s m b with b|rfl
   . rw[o a (by omega),M _ m (h.plt a (by omega)) b];exact h.low a m (by omega) b V
   . rcases s a d with d|rfl
     . rw[o a d,F _ (h.plt a d)];exact H a d
     . rw[v,F r z];exact G
def JK.dot (h:JK n k A p q R Lo) (x:Nat->Rat) {i:Nat} (a:i<n):C6 n (fun j=>A i j*x j)=C6 k (fun m=>Lo i m*dot n (R (p m)) x)+Go.Proofs.YtiflhbllbgajeaaGreat.dot n (R i) x:=by
 rw[<-B5l n k (Lo i) (fun m=>R (p m)) (R i) x];exact B7 fun j b=>by rw[h.dec i j a b]
def JK.stuck (h:JK n k A p q R Lo) {c:Nat} (w:c<n) (v:∀a,a<k->c≠q a) (z:∀i,i<n->(∀a,a<k->i≠p a)->R i c=0):¬nonsing n A:=by
 have y:∀t,t<=k->∃x:Nat->Rat,x c=1/\(∀j,j≠c->(∀m,m<k->j≠q m)->x j=0)/\∀m,k-t<=m->m<k->Go.Proofs.YtiflhbllbgajeaaGreat.dot n (R (p m)) x=0:=by
  intro t
  induction t with
  |zero=>exact fun _=>⟨fun j=>if j=c then 1 else 0,qR rfl,fun j b _=>qK b,fun m f hmk=>by omega⟩
  |succ t b=>
   intro f;obtain⟨x,r,s,l⟩:=b (by omega);have f:k-(t+1)<k:=by omega
   generalize o:k-(t+1)=b at f;have t:∀(u:Nat->Rat) (d:Rat),Go.Proofs.YtiflhbllbgajeaaGreat.dot n u (fun j=>x j+if j=q b then d else 0)=Go.Proofs.YtiflhbllbgajeaaGreat.dot n u x+u (q b)*d:=fun u d=>by
    unfold Go.Proofs.YtiflhbllbgajeaaGreat.dot;rw[B7 (g:=fun j=>u j*x j+u j*if j=q b then d else 0) fun j _=>Rat.mul_add _ _ _,Ha];congr 1;rw[O8 (h.qlt b f) fun j _ o=>by rw[qK o,uY],qR rfl]
   refine⟨fun j=>x j+if j=q b then-(Go.Proofs.YtiflhbllbgajeaaGreat.dot n (R (p b)) x)/R (p b) (q b)else 0, ?_,fun j o hq=> ?_,fun m h1 h2=> ?_⟩
   . show x c+(if c=q b then _ else 0)=1;rw[qK (v b f),r,rN]
   . show x j+(if j=q b then _ else 0)=0;rw[qK (hq b f),s j o hq,rN]
   . rw[t];by_cases o:m=b
     . subst o;have:=h.piv m h2;rw[wX,g4a,wN,g0w _ this,g2z,g3o]
     . rw[l m (by omega) h2,h.zero b (p m) f (h.plt m h2) fun a o e=>by have:=h.pinj m a h2 (by omega) e;omega,tK,rN]
 obtain⟨x,r,s,l⟩:=y k (qZ _);intro y;have v:∀i,i<n->C6 n (fun j=>A i j*x j)=0:=fun i hi=>by
  rw[h.dot x hi,Bw fun m b=>by rw[l m (by omega) b,uY],tF];by_cases o:∃a,a<k/\i=p a
  . obtain⟨a,f,rfl⟩:=o;exact l a (by omega) f
  . refine Bw fun j l=> ?_
    by_cases l:j=c
    . rw[l,z i hi fun a f e=>o ⟨a,f,e⟩,tK]
    . by_cases t:∃m,m<k/\j=q m
      . obtain⟨m,b,rfl⟩:=t;rw[h.zero m i b hi fun a f e=>o ⟨a,by omega,e⟩,tK]
      . rw[s j l fun m b e=>t ⟨m,b,e⟩,uY]
 have:=y x v c w;rw[r]at this;exact absurd this (by decide)
def JK.nonsing (h:JK n n A p q R Lo):nonsing n A:=by
 intro x d;have f:∀a,a<n->Go.Proofs.YtiflhbllbgajeaaGreat.dot n (R (p a)) x=0:=by
  intro a
  induction a using Nat.strongRecOn with
  |ind a g=>
   intro b;have c:=d (p a) (h.plt a b);rw[h.dot x (h.plt a b),Bw fun m d=> ?_,tF]at c
   . exact c
   . by_cases c:m<a
     . rw[g m c d,uY]
     . rw[h.low a m b d (by omega),tK]
 have j:∀t b,t<n->b=n-1-t->x (q b)=0:=by
  intro t
  induction t using Nat.strongRecOn with
  |ind t k=>
   intro b c g;have c:b<n:=by omega
   have d:=f b c;unfold Go.Proofs.YtiflhbllbgajeaaGreat.dot at d;rw[O8 (h.qlt b c) fun l f i=> ?_]at d
   . exact(g0e.1 d).resolve_left (h.piv b c)
   . obtain⟨m,d,rfl⟩:=Gk h.qlt h.qinj f;by_cases o:m<b
     . rw[h.zero m (p b) d (h.plt b c) fun a o e=>by have:=h.pinj b a c (by omega) e;omega,tK]
     . have a:m≠b:=fun e=>i (by rw[e])
       rw[k (n-1-m) (by omega) m (by omega) (by omega),uY]
 intro l f;obtain⟨b,g,rfl⟩:=Gk h.qlt h.qinj f;exact j (n-1-b) b (by omega) (by omega)
def JK.prod (h:JK n n A p q R Lo) {a b:Nat} (c:a<n) (d:b<n):A (p a) (q b)=C6 n fun m=>(Lo (p a) m+if m=a then 1 else 0)*R (p m) (q b):=by
 rw[h.dec _ _ (h.plt a c) (h.qlt b d),B7 (f:=fun m=>(Lo (p a) m+if m=a then 1 else 0)*R (p m) (q b)) (g:=fun m=>Lo (p a) m*R (p m) (q b)+(if m=a then 1 else 0)*R (p m) (q b)) fun m _=>g2v _ _ _,Ha];congr 1;rw[O8 c fun m _ d=>by rw[qK d,tK],qR rfl,xV]
end
end Go.Proofs.YtiflhbllbgajeaaGreat
namespace Go.Proofs.YtiflhbllbgajeaaGreat
def Lab (L:List Int):Prop:=∀i:Int,0<=i->i<(L.length:Int)->0<=I8 L i/\I8 L i<=i/\I8 L (I8 L i)=I8 L i
def Dw (L:List Int) (l:Ln):(Fw L l).length=L.length:=by simp[Fw]
def TE {L:List Int} {i:Int} (a:0<=i) (b:i<(L.length:Int)):L[i.toNat]? =some (I8 L i):=by
 have:i.toNat<L.length:=by omega
 unfold I8;rw[qF,qT this];rfl
def Dy {L:List Int} {l:Ln} {i:Int} (b:0<=i) (c:i<(L.length:Int)):I8 (Fw L l) i=if I8 L i=max (I8 L l.1) (I8 L l.2)then min (I8 L l.1) (I8 L l.2)else I8 L i:=by
 have a:=TE (L:=Fw L l) b (by rw[Dw];exact c);unfold Fw at a;rw[uM,TE b c]at a;simp only[vV,rD]at a;exact a.symm
def Ou (n:Int):(pZ n).length=n.toNat:=by simp[pZ]
def DX {n i:Int} (b:0<=i) (a:i<n):I8 (pZ n) i=i:=by
 have a:=TE (L:=pZ n) b (by rw[Ou];omega);unfold pZ at a;rw[uM,vL (by omega)]at a;simp only[vV,rD]at a;rw[show I8 (pZ n) i= _ from a.symm];show((i.toNat:Nat):Int)=i;omega
def A3c (n:Int):Lab (pZ n):=fun i a b=>by
 rw[Ou]at b;rw[DX a (by omega),DX a (by omega)];omega
def Lab.join {L:List Int} {l:Ln} (h:Lab L) (i:aI L.length l):Lab (Fw L l):=fun j b a=>by
 rw[Dw]at a;obtain⟨c,d,f,g⟩:=i;obtain⟨i,k,n⟩:=h _ c d;obtain⟨c,d,i⟩:=h _ f g;obtain⟨c,d,f⟩:=h j b a;rw[Dy b a];have a:I8 L (min (I8 L l.1) (I8 L l.2))=min (I8 L l.1) (I8 L l.2):=by
  rcases(by omega:min (I8 L l.1) (I8 L l.2)=I8 L l.1\/min (I8 L l.1) (I8 L l.2)=I8 L l.2)with e|e<;>rw[e]<;>assumption
 split
 . rename_i e;refine⟨by omega,by omega, ?_⟩;rw[Dy (by omega) (by omega),a];split<;>rfl
 . rename_i e;refine⟨c,d, ?_⟩;rw[Dy c (by omega),f,qK e]
def A5w (n:Int) (ls:List Ln) (l:Ln):Ar n (ls++ [l])=Fw (Ar n ls) l:=by simp[Ar,List.foldl_append]
def AE (n:Int) (ls:List Ln):(Ar n ls).length=n.toNat:=by
 unfold Ar;have:∀(ls:List Ln) (L:List Int),(ls.foldl Fw L).length=L.length:=by
  intro ls
  induction ls with
  |nil=>intro L;rfl
  |cons l ls a=>intro L;rw[yB,a,Dw]
 rw[this,Ou]
def B1m {n:Int} {ls:List Ln} (a:0<=n) (h:∀l∈ls,aI n l):Lab (Ar n ls):=by
 unfold Ar;have:∀(ls:List Ln) (L:List Int),L.length=n.toNat->(∀l∈ls,aI n l)->Lab L->Lab (ls.foldl Fw L):=by
  intro ls
  induction ls with
  |nil=>intro L _ _ h;exact h
  |cons l ls c=>
   intro L b a h;rw[yB];refine c _ (by rw[Dw];exact b) (fun x c=>a x (by simp[c])) (h.join ?_);have:=a l (by simp);rw[b,show((n.toNat:Nat):Int)=n from by omega];exact this
 exact this ls _ (Ou n) h (A3c n)
def A7g {a:Type} {l:List a} {j:Nat} {d:a} (h:j<l.length):l.take (j+1)=l.take j++ [l.getD j d]:=by
 rw[rQ,qT h,qF,qT h];rfl
def A0e {L:List Int} {l:Ln} {u v:Int} (u0:0<=u) (u1:u<(L.length:Int)) (v0:0<=v) (v1:v<(L.length:Int)) (h:I8 L u=I8 L v):I8 (Fw L l) u=I8 (Fw L l) v:=by
 rw[Dy u0 u1,Dy v0 v1,h]
def A5t {L:List Int} {l:Ln} (f:aI L.length l):I8 (Fw L l) l.1=I8 (Fw L l) l.2:=by
 obtain⟨a,b,c,d⟩:=f;rw[Dy a b,Dy c d];split<;>split<;>omega
def VO {n:Int} (b:0<=n) {u v:Int} (u0:0<=u) (u1:u<n) (v0:0<=v) (v1:v<n):∀(ls:List Ln) (L:List Int),L.length=n.toNat->I8 L u=I8 L v->I8 (ls.foldl Fw L) u=I8 (ls.foldl Fw L) v
 | [],_,_,h=>h
 |l::ls,L,a,h=>by
  rw[yB];exact VO b u0 u1 v0 v1 ls _ (by rw[Dw];exact a) (A0e u0 (by omega) v0 (by omega) h)
def cL {n:Int} (f:0<=n) {l:Ln} :∀(ls:List Ln) (L:List Int),L.length=n.toNat->(∀l∈ls,aI n l)->l∈ls->I8 (ls.foldl Fw L) l.1=I8 (ls.foldl Fw L) l.2
 | [],_,_,_,h=>by cases h
 |x::ls,L,a,d,h=>by
  rw[yB];have j:=d x (by simp);rcases qG.1 h with rfl|h
  . obtain⟨b,g,c,i⟩:=j;exact VO f b g c i ls _ (by rw[Dw];exact a) (A5t (by rw[a];exact⟨b,by omega,c,by omega⟩))
  . exact cL f ls _ (by rw[Dw];exact a) (fun y b=>d y (by simp[b])) h
def A5v {n:Int} {ls:List Ln} (b:0<=n) (a:∀l∈ls,aI n l) {l:Ln} (h:l∈ls):I8 (Ar n ls) l.1=I8 (Ar n ls) l.2:=cL b ls _ (Ou n) a h
def cK {a:Type} {n:Int} (s:0<=n) {f:Int->a} :∀(ls:List Ln) (L:List Int),L.length=n.toNat->Lab L->(∀l∈ls,aI n l/\f l.1=f l.2)->(∀i:Int,0<=i->i<n->f (I8 L i)=f i)->∀i:Int,0<=i->i<n->f (I8 (ls.foldl Fw L) i)=f i
 | [],_,_,_,_,h=>h
 |l::ls,L,c,r,d,h=>by
  rw[yB];obtain⟨⟨a,g,b,o⟩,j⟩:=d l (by simp);have k:aI (L.length:Int) l:=by rw[c];exact⟨a,by omega,b,by omega⟩
  refine cK s ls _ (by rw[Dw];exact c) (r.join k) (fun y s=>d y (by simp[s])) fun i c k=> ?_
  rw[Dy c (by omega)];split
  . rename_i e;have d:=h _ a g;have g:=h _ b o;have b:=h i c k;rcases(by omega:min (I8 L l.1) (I8 L l.2)=I8 L l.1\/min (I8 L l.1) (I8 L l.2)=I8 L l.2)with e1|e1<;>
    rcases(by omega:max (I8 L l.1) (I8 L l.2)=I8 L l.1\/max (I8 L l.1) (I8 L l.2)=I8 L l.2)with a|a
    . rw[e1, <-b,e,a]
    . rw[e1, <-b,e,a,d,g,j]
    . rw[e1, <-b,e,a,d,g,j]
    . rw[e1, <-b,e,a]
  . exact h i c k
def A5u {a:Type} {n:Int} {ls:List Ln} (d:0<=n) (b:∀l∈ls,aI n l) {f:Int->a} (c:∀l∈ls,f l.1=f l.2):∀i:Int,0<=i->i<n->f (I8 (Ar n ls) i)=f i:=
 cK d ls _ (Ou n) (A3c n) (fun l a=>⟨b l a,c l a⟩) fun i d g=>by rw[DX d g]
end Go.Proofs.YtiflhbllbgajeaaGreat
namespace Go.Vc
open Go Go.RowKit Go.Gw
def O0 (o:Oper):List Nat:=(o.after.toList.filter fun e=>Region.binds .any e).map (·.on)
def A4j {c:Type} [DecidableEq c]:∀ {a b:List c},a.Nodup->(∀x∈a,x∈b)->a.length<=b.length
 | [],_,_,_=>rM _
 |x::a,b,c,h=>by
  obtain⟨d,f⟩:=sF.1 c;have c:=h x (rA);have:=A4j (a:=a) (b:=b.erase x) f fun y hy=>(g0a (fun e=>d (by rw[<-e];exact hy))).2 (h y (qJ _ hy))
  rw[yY c]at this;have:=zN c;rw[rJ];omega
def NV {l:Array Bool} {j:Nat} (c:j<l.size) (a b:Bool):l.getD j a=l.getD j b:=by
 simp only[uQ,tX c,vA]
def B4y {P:Program} {n:Nat} {all:List Oper} {Q:Exit->G2->World->Prop} (v:cE n all=true) (u:∀i o,all[i]? =some o->∀j∈O0 o,j<i) {Inv:List Nat->G2->World->Prop}
 (A:∀(L:List Nat) (i:Nat) (o:Oper) (E:G2) (w:World),all[i]? =some o->i∉L->(∀j∈O0 o,j∈L)->Inv L E w->I7 P all o (Inv (i::L)) E w)
 (l:∀(L:List Nat) (E:G2) (w:World),(∀i,i<all.length->i∈L)->Inv L E w->Q .normal E w):
 ∀(f:Nat) (listed:Array Bool) (L:List Nat) (a:Act) (E:G2) (w:World),listed.size=all.length->(∀i,i∈L↔listed.getD i false=true)->L.Nodup->L.length+f=all.length->Gw.C5 n a E->Inv L E w->wpAny P .any all.toArray (FF n Q) f listed a w:=by
 have s:∀ {listed:Array Bool} {L:List Nat},listed.size=all.length->(∀i,i∈L↔listed.getD i false=true)->∀i∈L,i<all.length:=fun {listed L} g c i d=>by
  have h:=(c i).1 d;rw[<-g];refine qU fun k=> ?_
  rw[uQ,zJ (by omega)]at h;cases h
 intro f
 induction f with
 |zero=>
  intro listed L a E w g c y h z r;have k:∀i,i<all.length->i∈L:=fun i d=>qU fun t=>by
   have:=A4j (a:=i::L) (b:=List.range all.length) (sF.2 ⟨t,y⟩) fun x h=>by
    rcases qG.1 h with rfl|h
    . exact vS.2 d
    . exact vS.2 (s g c x h)
   rw[rJ,zO]at this;omega
  refine⟨List.eq_nil_iff_forall_not_mem.2 fun j s=> ?_,E,z,l L E w k r⟩;obtain⟨h,o,r,_⟩:=mem_ready.1 s;rw[vO]at r;have s:=(sB.1 r).1;have:=(c j).1 (k j s);rw[NV (by omega) true false,this]at h;cases h
 |succ f z=>
  intro listed L a E w g c y f t s;refine⟨fun h=>⟨E,t,l L E w (fun i=> ?_) s⟩,fun i d=> ?_⟩
  . induction i using Nat.strongRecOn with
    | _ i r=>
     intro d;refine qU fun f=> ?_
     have:i∈Region.ready .any all.toArray listed:=mem_ready.2 ⟨?_,all[i],by rw[vO,qT d],fun e l hb=> ?_⟩
     . rw[h]at this;cases this
     . cases h:listed.getD i true with
       |false=>rfl
       |true=>exact absurd ((c i).2 (by rw[NV (by omega) false true];exact h)) f
     . have k:e.on∈O0 all[i]:=sP.2 ⟨e,wE.2 ⟨g2j.2 l,hb⟩,rfl⟩;have h:=u i _ (qT d) _ k;exact(c _).1 (r _ h (by omega))
  . obtain⟨r,o,h,k⟩:=mem_ready.1 d;rw[vO]at h;have d:=(sB.1 h).1;have d:i∉L:=fun f=>by
     have:=(c i).1 f;rw[NV (by omega) true false,this]at r;cases r
    refine Wj v h (fun r E' B u f=>z _ (i::L) r E' B (by rw[Array.size_setIfInBounds];exact g) (fun j=> ?_) (sF.2 ⟨d,y⟩) (by rw[rJ];omega) u f) t (A L i o E w h d (fun j g=> ?_) s)
    . by_cases d:j=i
      . subst d;simp only[qG,true_or,true_iff,uQ];rw[Array.getElem?_setIfInBounds_self_of_lt (by omega)];rfl
      . rw[getD_set_ne false (Ne.symm d), <-c j,qG];exact⟨fun h=>h.resolve_left d, .inr⟩
    . obtain⟨e,l,rfl⟩:=sP.1 g;obtain⟨d,f⟩:=wE.1 l;exact(c _).2 (k e (g2j.1 d) f)
section
variable {za:Zn} {w0:World} {cx:Cx} {sp:H1} {an:An} {n:Nat}
def B8.look {b:St} {E:G2} {w:World} {Z:Nat->Prop} {B:Nat->Value} (h:B8 za w0 b E w Z B) {a:St} (g:∀s,a.S s=b.S s\/a.S s= .dead) (c:∀k,a.L k=b.L k) (f:a.nm=b.nm) (l:a.nm<=a.nx) (d:a.fr= []) (i:b.fr= [])
 (o:∀s,Oe a.nx (a.S s)) (j:∀k,Lp a.nx (a.L k)) (n:∀k,a.nx<=k->a.L k= .none):B8 za w0 a E w Z B:=
 ⟨h.ext,h.zlt,fun s=>by
  rcases g s with e|e
  . rw[e];exact h.slots s
  . rw[e];trivial,fun k=>by rw[c];exact h.locs k,fun k a b=>by rw[c,c];exact h.disj k a b,o,j,n,h.bone,h.zin,⟨f.trans h.nms.1,by rw[<-h.nms.1, <-f];exact l⟩,h.bfix,⟨h.mrk.1,fun k b f a=>by rw[c]at a;exact h.mrk.2 k b f a⟩,by
  have:=h.frs;rw[i]at this;rw[d];exact this,fun f a=>by rw[d]at a;cases a⟩
def B3o {P:Program} {a b:Code} {c:St->Prop} {Q:Exit->G2->World->Prop} {E:G2} {w:World} (f:Gw.Wp P n a (post za w0 ⟨c,fun _ _=>False,fun _=>False⟩) E w) (h:∀d E w Z B,B8 za w0 d E w Z B->c d->Gw.Wp P n b Q E w):Gw.Wp P n (.seq a b) Q E w:=by
 intro c d g;simp only[X6,qC]at c;refine wp_seq (wp_mono (f c.1 d g) ?_);rintro e f k ⟨E',i,j,Z',B',g,d⟩;cases e with
 |normal=>exact h _ _ _ _ _ g d c.2 f i
 | _=>exact d.elim
def B6x {P:Program} {id:Nat} {ops:Array Oper} {Q:Exit->G2->World->Prop} {E:G2} {w:World} (g:P.follows .mixedOrders=true) (f:∀i o,ops.toList[i]? =some o->∀j∈O0 o,j<i) {Inv:List Nat->G2->World->Prop}
 (l:∀(L:List Nat) (i:Nat) (o:Oper) (E:G2) (w:World),ops.toList[i]? =some o->i∉L->(∀j∈O0 o,j∈L)->Inv L E w->I7 P ops.toList o (Inv (i::L)) E w)
 (d:∀(L:List Nat) (E:G2) (w:World),(∀i,i<ops.toList.length->i∈L)->Inv L E w->Q .normal E w) (c:Inv [] E w.drew):Gw.Wp P n (.region id ops true) Q E w:=by
 intro a b k;simp only[X6]at a;have h:ops=ops.toList.toArray:=by simp
 rw[h];refine wp_region_any g ?_;have:=B4y (P:=P) a f l d ops.toList.length (Array.replicate ops.toList.length false) [] b E w.drew (by simp) (fun i=> ?_) xS (by simp) k c
 . simpa using this
 . simp only[rY,false_iff,uQ,xN];split<;>simp
end
def hd1 (a:St) (d:Nat) (v:DV):St:=⟨(d,0,v)::a.sl,a.lc,a.nx,a.ct,a.nm,a.fr⟩
def hdL (a:St) (k:Nat) (l:LC):St:=⟨a.sl,(k,0,l)::a.lc,a.nx,a.ct,a.nm,a.fr⟩
def GE (a:St) (d s:Nat) (v:DV):(hd1 a d v).S s=if s=d then v else a.S s:=by
 show(find (0, .dead) s ((d,0,v)::a.sl)).2= _;simp only[find];by_cases h:s=d
 . subst h;simp
 . rw[D2 (Ne.symm h),qK h];rfl
def A2a (a:St) (k q:Nat) (l:LC):(hdL a k l).L q=if q=k then l else a.L q:=by
 show(find (0, .none) q ((k,0,l)::a.lc)).2= _;simp only[find];by_cases h:q=k
 . subst h;simp
 . rw[D2 (Ne.symm h),qK h];rfl
def B2i {n k:Nat} (a:n<=k):∀ {c:C},Cm n c->aH k c=false
 | .row j,h=>D2 (tT (rB h a))
 | .mp j,h=>D2 (tT (rB h a))
 | .win j _ _ _,h=>D2 (tT (rB h a))
 | .box _ _,_=>rfl
 | .elp _ _ _ _,_=>rfl
 | .val _ _,_=>rfl
 | .pf _ _ _,_=>rfl
 | .fn _ _,_=>rfl
 | .fv _ _ _ _ _ _,_=>rfl
 | .raw _,_=>rfl
 | .dead,_=>rfl
def A0p {n k:Nat} (b:n<=k) {s:SV} (h:Lq n s):s.cs.any (aH k)=false:=by
 rw[wR];intro c a;rw[B2i b (h c a)];simp
def C0v {n k:Nat} (a:n<=k):∀ {d:DV},Oe n d->Wy k d=false
 | .one s,h=>A0p a h
 | .cnd _ _ s,h=>A0p a h
 | .dead,_=>rfl
 | .tup b,h=>by
  show b.any _=false;rw[wR];intro s b;rw[A0p a (h s b)];simp
def C0w {n k:Nat} (b:n<=k):∀ {l:LC},Lp n l->VR k l=false
 | .box _ a,h=>by
  show a.any _=false;rw[wR];intro c a;rw[B2i b (h c a)];simp
 | .none,_=>rfl
 | .row _ _ _,_=>rfl
 | .map _ _ _ _ _,_=>rfl
 | .rows _ _ _ _ _ _,_=>rfl
 | .al _,_=>rfl
 | .sbox _ _ _,_=>rfl
 | .mapE _ _ _ _ _ _ _,_=>rfl
 | .iter _ _ _ _ _ _,_=>rfl
 | .nest _ _ _ _ _ _,_=>rfl
 | .itM _ _ _ _ _ _ _ _,_=>rfl
section
variable {za:Zn} {w0:World} {st:St} {E:G2} {w:World} {Z:Nat->Prop} {B:Nat->Value}
def B8.hd1 (h:B8 za w0 st E w Z B) {d:Nat} {v:DV} (a:st.S d=v):B8 za w0 (hd1 st d v) E w Z B:=by
 have e:∀s,(Vc.hd1 st d v).S s=st.S s:=fun s=>by
  rw[GE];split
  . rename_i h;subst h;exact a.symm
  . rfl
 exact⟨h.ext,h.zlt,fun s=>by rw[e];exact h.slots s,h.locs,h.disj,fun s=>by rw[e];exact h.refs s,h.refl,h.fresh,h.bone,h.zin,h.nms,h.bfix,h.mrk,h.frs,h.frf⟩
def B8.hdL (h:B8 za w0 st E w Z B) {k:Nat} {l:LC} (c:st.L k=l):B8 za w0 (hdL st k l) E w Z B:=by
 have e:∀s,(Vc.hdL st k l).L s=st.L s:=fun s=>by
  rw[A2a];split
  . rename_i h;subst h;exact c.symm
  . rfl
 exact⟨h.ext,h.zlt,h.slots,fun s=>by rw[e];exact h.locs s,fun a b d=>by rw[e,e];exact h.disj a b d,h.refs,fun s=>by rw[e];exact h.refl s,fun s c=>by rw[e];exact h.fresh s c,h.bone,h.zin,h.nms,h.bfix,⟨h.mrk.1,fun a b f d=>by rw[e]at d;exact h.mrk.2 a b f d⟩,h.frs,h.frf⟩
def B8.unrow {d:Nat} {t:Ty} {e:TypeId} {l:List t.den} (h:B8 za w0 (rowS st d t e l) E w Z B) (i:st.nm<=st.nx) (c:st.fr= []) (j:∀s,Oe st.nx (st.S s)) (g:∀k,Lp st.nx (st.L k)) (f:∀k,st.nx<=k->st.L k= .none) (a:∀s,Mh d (st.S s)=false):
 ∃Z',B8 za w0 (Vc.hd1 st d (.one ⟨false,[.val (.sl t) l]⟩)) E w Z' B:=by
 obtain⟨Z',b⟩:=h.settle [.row st.nx];have n:(rowS st d t e l).L st.nx= .row t e l:=by
  show((st.newL (.row t e l)).setS d (one1 (.row st.nx))).L st.nx= _;rw[St.L_setS,St.L_newL,qR rfl]
 have o:(rowS st d t e l).nm=st.nm:=rfl;simp only[Vc.settle,n,o,Nat.ble_eq_true_of_le i,qS]at b;refine⟨Z',b.look (fun s=> .inl ?_) (fun k=> ?_) rfl i c ?_ (fun s=> ?_) g f⟩
 . rw[GE,St.S_freeze];show _=FC st.nx _ (((st.newL (.row t e l)).setS d (one1 (.row st.nx))).S s);rw[St.S_setS,St.S_newL];by_cases b:s=d
   . subst b;rw[qR rfl,qR rfl];simp[FC,gD,one1,Zz]
   . rw[qK b,qK b,a s];simp only[rH];rw[NW (C0v (qZ _) (j s))]
 . rw[St.L_freeze];show st.L k=gC st.nx _ (if k=st.nx then LC.none else(st.newL (.row t e l)).L k);rw[St.L_newL];by_cases b:k=st.nx
   . subst b;rw[qR rfl,f _ (qZ _)];rfl
   . rw[qK b,qK b,cN (C0w (qZ _) (g k))]
 . show(rowS st d t e l).fr.map _= [];show st.fr.map _= [];rw[c];rfl
 . rw[GE];split
   . intro c a;simp only[qP]at a;subst a;trivial
   . exact j s
end
section
variable {za:Zn} {w0:World} {cx:Cx} {sp:H1} {an:An} {n:Nat}
def A6e {f:FuncId} {fn:Func} {c:Code} {s:A7} (d:cx.P.funcs[f]? =some fn) (a:fn.body=some c) (g:s.args.length<=fn.ntmps) (h:X6 fn.ntmps c=true) (T:H5 cx.P cx.tys=true)
 (J:∀x,awf s.args x->s.pre x->∀(za:Zn) (w0:World) (E:G2) (w:World) (Z:Nat->Prop) (B:Nat->Value),za.b0=0->B8 za w0 (VW cx.P s.args x) E w Z B->Gw.Wp cx.P fn.ntmps c (post za w0 ⟨fin cx s fn.results.toList x,fun _ _=>False,fin cx s fn.results.toList x⟩) E w):A8 cx.P f s:=by
 intro w Z i x l A b O;have r:i.length=s.args.length:=A.len;generalize k:zn0 w Z s.args i=za;have D:=A2x l A b;rw[k]at D;refine Zo d a (by rw[r];exact g) h (fun E l=>Nx za w (fin cx s fn.results.toList x) E l) ?_ ⟨fun N H z=> ?_⟩
 . rintro E l o R ⟨b,Z',B',y,h⟩;unfold fin at h;split at h
   . rename_i ss b;split at h
     . rename_i b Q;split at h
       . rename_i t G z M;obtain⟨g,b⟩:=B4 h;simp only[qC]at g;obtain⟨Z0,d⟩:=B8.settleR (rs:=s.res) (ss:=ss) y;obtain⟨Z1,n⟩:=B8.settleM (as:=s.args) (j:=0) d;obtain⟨v,F,I⟩:=BA T n R Q;have Q:(results fn o).run cx.P l= .ok (Xc v) l:=by
          have d:(fn.results.mapM (aG o)).run cx.P l= .ok v.toArray l:=by
           rw[xD];simp[F]
          have e:results fn o=(do let i<-fn.results.mapM (aG o);pure (if y:i.size=1 then i[0]else .tuple i)):=by
           unfold results;congr 1
          rw[e];simp only[Sem.run_bind,d,Result.andThen_ok,Sem.run_pure]
          match v with
          | []=>rfl
          | [u]=>rfl
          |u::o::t=>rfl
         have F:s.post x t/\(N3 s.args=true->s.mpost x t G):=by
          unfold C0c at b;cases d:N3 s.args with
          |true=>simp only[d,qS]at b;exact⟨b.1,fun _=>b.2⟩
          |false=>simp only[d,rH]at b;exact⟨b,fun o=>by cases o⟩
         refine⟨_,Q, ?_,t,G,v,(fun b=>s.shared=true/\Z1 b),F.1,F.2,rfl,fun b a=> ?_, ?_, ?_⟩
         . have:=y.ext;rw[<-k]at this;exact this
         . rcases n.zin b a.2 with o|o
           . rw[<-k]at o;exact .inr ⟨a.1,o⟩
           . exact .inl ⟨o,n.zlt b a.2⟩
         . refine(Ms n (Zn:=fun b=>s.shared=true/\Z1 b) (fun b a=>a.2) ?_ I z (Fx g.1.1) g.1.2).1;cases t:s.shared with
           |true=>exact .inl fun b a=>⟨rfl,a⟩
           |false=>rw[t]at g;simp only[vP,qC]at g;exact .inr g.2.1
         . refine Uw (Zn:=fun b=>s.shared=true/\Z1 b) n (j:=0) ?_ (fun m u d=> ?_) (fun m p d b o=> ?_) r M
           . cases t:s.shared with
             |true=>exact .inl fun b a=>⟨rfl,a⟩
             |false=>rw[t]at g;simp only[vP,qC]at g;exact .inr g.2.2
           . have b:=GF d;rw[R8 r]at b;have:=n.bfix m (by rw[<-k];exact b);rw[sE,this, <-k];show WM s.args i m=u;simp only[WM,d,vA]
           . rw[<-k,sE]at o;rcases o with⟨o,_⟩ | ⟨_,n,g,a⟩
             . have b:=GF (show(D4 s.args i)[m]? =some p.2 by rw[Mj,uM,d];rfl);rw[R8 r]at b;have o:Kl s.args<=m:=o;omega
             . rw[d]at g;cases g;exact a
       . exact h.elim
     . exact h.elim
   . exact h.elim
 . refine wp_mono (J x A.awf O za w _ _ _ _ (by rw[<-k];rfl) D N H z) ?_;rintro e h l ⟨E',g,d,Z',B',b,a⟩;refine⟨E',g, ?_⟩;cases e with
   |normal=>exact⟨d,Z',B',b,a⟩
   |ret=>exact⟨d,Z',B',b,a⟩
   | _=>exact a.elim
end
end Go.Vc
