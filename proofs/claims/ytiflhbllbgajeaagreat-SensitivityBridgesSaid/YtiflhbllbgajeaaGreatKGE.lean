/- Part. -/
import Derived.WalkKit
import Derived.ProofKit
import Derived.OpenShut
import Derived.Carry
import Derived.ChangeSlices
import Derived.ChangeSame
import Derived.Test.YtiflhbllbgajeaaGreatKGD
set_option linter.all false
namespace Go.Proofs.YtiflhbllbgajeaaGreat
open Go.Vc Go.Gw
variable {n m k:Nat} {fr to:Nat->Nat} {s:Nat->Rat}
def OU (m:Nat) (fr to:Nat->Nat) (s:Nat->Rat) (b c:Nat):Rat:=C7 m fun i=>s i*(OF fr to b i*OF fr to c i)
def A4i (h:∀i,i<m->fr i<n/\to i<n) (a:Nat->Rat) (b:Nat):C7 n (fun c=>OU m fr to s b c*a c)=WC m fr to (fun i=>s i*(a (fr i)-a (to i))) b:=by
 rw[B8 (g:=fun c=>C7 m fun i=>s i*OF fr to b i*(OF fr to c i*a c)) fun c _=>by
  unfold OU;rw[<-PY];exact B8 fun i _=>by grind,Mf]
 refine B8 fun i a=> ?_
 rw[Ni,A3s (h i a).1 (h i a).2];grind
def Qm (k:Nat) (o:Nat->Nat) (x:Nat->Rat) (b:Nat):Rat:=C7 k fun c=>if o c=b then x c else 0
def gV {o:Nat->Nat} (g:∀a c,a<k->c<k->o a=o c->a=c) (x:Nat->Rat) {c:Nat} (b:c<k):Qm k o x (o c)=x c:=by
 unfold Qm;rw[L6 b fun a d f=>qK fun e=>f (g a c d b e),qQ rfl]
def Zz {o:Nat->Nat} (x:Nat->Rat) {b:Nat} (h:∀c,c<k->o c≠b):Qm k o x b=0:=Ad fun c a=>qK (h c a)
def A4h {o:Nat->Nat} (h:∀a,a<k->o a<n) (x:Nat->Rat) (b:Nat):C7 n (fun c=>OU m fr to s b c*Qm k o x c)=C7 k fun c=>OU m fr to s b (o c)*x c:=by
 rw[B8 (g:=fun c=>C7 k fun a=>OU m fr to s b c*(if o a=c then x a else 0)) fun c _=>by unfold Qm;rw[Ni],Mf];refine B8 fun a d=> ?_
 rw[L6 (h a d) fun c _ f=>by rw[qK (Ne.symm f),uK],qQ rfl]
def oF {o lab:Nat->Nat} (j:∀i,i<m->fr i<n/\to i<n) (d:∀i,i<m->0<s i) (h:∀a,a<k->o a<n) (g:∀a c,a<k->c<k->o a=o c->a=c)
 (r:∀φ:Nat->Rat,(∀i,i<m->φ (fr i)=φ (to i))->∀b,b<n->φ b=φ (lab b)) (u:∀b,b<n->∀a,a<k->o a≠lab b):nonsing k fun a c=>OU m fr to s (o a) (o c):=by
 intro x v c f;have t:=B7v (φ:=Qm k o x) (D:=fun i=>s i*(Qm k o x (fr i)-Qm k o x (to i))) j d (fun _ _=>rfl) fun b hbn=>by
  by_cases l:∃a,a<k/\o a=b
  . obtain⟨a,d,rfl⟩:=l;refine .inr ?_;rw[<-A4i j,A4h h];exact v a d
  . exact .inl (Zz x fun a d e=>l ⟨a,d,e⟩)
 rw[<-gV g x f,r (Qm k o x) (fun i g=>by have:=t i g;grind) (o c) (h c f)];exact Zz x fun a d=>u (o c) (h c f) a d
def B4t {lab:Nat->Nat} {F J:Nat->Rat} (c:∀b,b<n->lab b≠b->F b=J b) (f:∀t,C7 n (fun b=>(if lab b=t then 1 else 0)*F b)=0) (hJ:∀t,t<n->C7 n (fun b=>(if lab b=t then 1 else 0)*J b)=0):∀b,b<n->F b=J b:=by
 intro t a;by_cases d:lab t=t
 . have e:C7 n (fun b=>(if lab b=t then 1 else 0)*(F b-J b))=0:=by
    rw[B8 (g:=fun b=>(if lab b=t then 1 else 0)*F b-(if lab b=t then 1 else 0)*J b) fun b _=>by grind,BH,f,hJ t a];grind
   rw[L6 a fun b f h=> ?_,qQ d]at e
   . grind
   . by_cases h:lab b=t
     . rw[c b f (by omega)];grind
     . rw[qK h,tK]
 . exact c t a d
def B4l {o lab:Nat->Nat} {h J right x:Nat->Rat} (g:∀i,i<m->fr i<n/\to i<n) (u:∀a,a<k->o a<n)
 (j:∀b,b<n->lab b≠b->∃a,a<k/\o a=b) (f:∀i,i<m->lab (fr i)=lab (to i)) (w:∀a,a<k->C7 k (fun c=>OU m fr to s (o a) (o c)*x c)=right a)
 (v:∀a,a<k->right a=J (o a)-WC m fr to (fun i=>s i*h i) (o a)) (d:∀t,t<n->C7 n (fun b=>(if lab b=t then 1 else 0)*J b)=0):∀b,b<n->WC m fr to (flw fr to s h (Qm k o x)) b=J b:=by
 refine B4t (lab:=lab) (fun b l r=> ?_) (fun t=>WX g f t) d;obtain⟨a,f,rfl⟩:=j b l r;have d:=w a f;rw[<-A4h u,A4i g,v a f]at d;have f:WC m fr to (flw fr to s h (Qm k o x)) (o a)=WC m fr to (fun i=>s i*(Qm k o x (fr i)-Qm k o x (to i))+1*(s i*h i)) (o a):=OK (fun i _=>by unfold flw;grind) _;rw[f,B6u,d];grind
abbrev Ws:=Int×Int×D7×D7
abbrev Gl:=Int×List Ws
def dB:Ws:=(0,0,((false,[]),[]),((false,[]),[]))
def Ay (E:List Ws) (i:Nat):Nat:=(E.getD i dB).1.toNat
def Bi (E:List Ws) (i:Nat):Nat:=(E.getD i dB).2.1.toNat
def Jl (E:List Ws) (i:Nat):Rat:=rv (E.getD i dB).2.2.1
def brH (E:List Ws) (i:Nat):Rat:=rv (E.getD i dB).2.2.2
def lO (n:Int) (e:Ws):Prop:=0<=e.1/\e.1<n/\0<=e.2.1/\e.2.1<n/\e.1≠e.2.1/\0<rv e.2.2.1
instance (n:Int) (e:Ws):Decidable (lO n e):=by unfold lO;infer_instance
def G6 (N:Gl):Prop:=0<=N.1/\N.1<=16384/\N.2.length<=16384/\∀e∈N.2,lO N.1 e
instance (N:Gl):Decidable (G6 N):=by unfold G6;infer_instance
def Qw (E:List Ws):List Ln:=E.map fun e=>(e.1,e.2.1)
def O7 (N:Gl) (b:Nat):Nat:=(C2 (G9 N.1 (Qw N.2)) (b:Int)).toNat
def FT (E:List Ws) (b c:Nat):Rat:=OU E.length (Ay E) (Bi E) (Jl E) b c
def QT (E:List Ws) (f:Nat->Rat) (b:Nat):Rat:=WC E.length (Ay E) (Bi E) f b
def flN (E:List Ws) (t:Nat->Rat) (i:Nat):Rat:=flw (Ay E) (Bi E) (Jl E) (brH E) t i
abbrev K2:Nat:=4294967296
abbrev K3:Nat:=4294968296
def rat (l:List D7) (i:Nat):Rat:=rv (l.getD i zr)
def C4o (s:List Int) (x:List D7):Prop:=∀t,t<s.length->C7 s.length (fun b=>(if s.getD b 0=(t:Int)then 1 else 0)*rat x b)=0
instance (s:List Int) (x:List D7):Decidable (C4o s x):=by unfold C4o;infer_instance
def szN (k:Nat) (E:List Ws):Prop:=∀e∈E,sz k e.2.2.1/\sz k e.2.2.2
def Bh (N:Gl):Prop:=N.1<=7/\N.2.length<=9/\szN 2 N.2
def B1q (N:Gl):Prop:=G6 N/\1<=N.1/\N.1<=6/\N.2.length<=9/\∀e∈N.2,AF e.2.2.1/\AF e.2.2.2
def Me (E:List Ws) (G:Nat->Nat->Rat) (l b:Nat):Rat:=Jl E l*(G (Ay E l) b-G (Bi E l) b)
def Cz (N:Gl) (G:Nat->Nat->Rat):Prop:=∀b,b<N.1.toNat->(∀c,c<N.1.toNat->O7 N c=c->G c b=0)/\∀c,c<N.1.toNat->QT N.2 (fun l=>Me N.2 G l b) c=(if b=c then 1 else 0)-(if O7 N b=c then 1 else 0)
def Kk (E:List Ws) (G:Nat->Nat->Rat) (l k:Nat):Rat:=(G (Ay E l) (Ay E k)-G (Bi E l) (Ay E k))-(G (Ay E l) (Bi E k)-G (Bi E l) (Bi E k))
def shF (E:List Ws) (G:Nat->Nat->Rat) (l k:Nat):Rat:=Jl E k*(Me E G l (Bi E k)-Me E G l (Ay E k)+if k=l then 1 else 0)
abbrev TFV:=List Int×Dx×Dx
def Rc (f:TFV):Prop:=F1 f.2.1/\F1 f.2.2/\f.2.2.1=f.2.1.1/\f.2.2.2.1=f.2.1.1/\f.2.1.2.1=(f.1.length:Int)
instance (f:TFV):Decidable (Rc f):=by unfold Rc;infer_instance
def dZ (n:Nat) (f:Nat->Rat):List D7:=(List.range n).map fun i=>rc (f i)
end Go.Proofs.YtiflhbllbgajeaaGreat
namespace Go.Gw
open Go Go.RowKit Go.ChangeShapes Go.WideShapes Go.ChangeAt
section
variable {H:Type} {enc:TypeId×Value->H} {P:Program}
def HI (f:laidOutB P=true) {W W':World} {sp:Nat->Bool} (d:R8 W W'):∀(ts:List TypeId) (vs:List Value) (b:List (DataW H)) (a:List MemPlace),
 (∀t∈ts,P.readableRec t=true/\t<P.types.size)->DataW.TrodAll enc P W 0 (fun _=>true) true ts vs b a->(∀x∈a,x.block<W.heap.size)->(∀x∈a,sp x.block=true)->DataW.TrodAll enc P W' 0 sp true ts vs b a
 | [],vs,b,a,_,h,_,_=>by
  cases vs<;>cases b<;>simp[DataW.TrodAll]at h⊢;exact h
 |t::ts,vs,b,a,c,i,g,h=>by
  obtain⟨v,l,a,b,p,q,rfl,rfl,rfl,j,k⟩:=trodAll_cons i;refine trodAll_cons_mk ?_ (HI f d ts l b q (fun x a=>c x (by simp[a])) k (fun x a=>g x (by simp[a])) (fun x a=>h x (by simp[a])));exact WideElems.Trod_stays f (c t (by simp)).1 (c t (by simp)).2 j (fun x a=>d.same (g x (by simp[a]))) (fun x a=>h x (by simp[a]))
def B4e (o:laidOutB P=true) {f:Func} {s:ChangeSpec} {W W':World} {args:Array Value} {b g:List (DataW H)} {a:List MemPlace} {d:TypeId}
 (c:DataW.Whole enc P f.params.toList s.vars false W args.toList b g a) (k:s.vars= []) (u:f.resultTypes= #[d]) (v:P.underlying d=some .bool)
 (d:s.fn H b= {results:= [.lit (.bool true)],args:=b}) (r:∀t∈f.params.toList,P.readableRec t=true/\t<P.types.size) (h:R8 W W'):
 s.post enc P f false true false false W args (.bool true) W':=by
 have i:∀p∈a,p.block<W.heap.size:=fun p hp=>c.lt p hp
 have n:=c;obtain⟨p,q,l,g,j,_,_⟩:=c;rw[k]at g;obtain⟨rfl,rfl⟩:=trodVars_none g;rw[vV]at j;subst j;refine⟨b,[],a,[],a,[],n, ?_, ?_, ?_, ?_,fun c=>by cases c⟩
 . rw[vV,d,u];exact trodAll_mk1 (shut_bool v _)
 . rw[vV,d];exact HI o h _ _ _ _ r l i (fun x b=>by simpa using i x b)
 . rw[vV,d,k];rfl
 . refine World.keptBut_mono ?_ (h.frame (· ∈a));intro x b;exact⟨b, .inr (.inl b)⟩
end
end Go.Gw
namespace Go.Vc
open Go Go.RowKit Go.Gw Go.ChangeShapes Go.WideShapes Go.ChangeAt
def nC (P:Program):Nat->TypeId->Ty->Bool
 |0,_,_=>false
 |n+1,T,a=>match P.underlying T with
  |some (.int k)=>(match a with| .int k'=>decide (k=k') | _=>false)
  |some .bool=>(match a with| .bool=>true| _=>false)
  |some .string=>(match a with| .str=>true| _=>false)
  |some (.slice e)=>(match a with| .sl t=>nC P n e t&&Nat.beq (P.cellsOf e) t.size&&Nat.ble 1 t.size| _=>false)
  |some (.struct b)=>iM P (nC P n) b.toList 0 a&&Nat.beq (P.cellsOf T) a.size
  |some (.array k e)=>iK (nC P n e) (P.cellsOf e) k a&&Nat.beq (P.cellsOf T) a.size
  | _=>false
section
variable {H:Type} {α:Type} {enc:TypeId×Value->H} {P:Program} {W:World}
def cells?_at {b:Nat} {a:Addr} {n:Nat} {cs:List Value} (h:W.cells? b a n=some cs):cs.length=n/\J4 W a cs:=by
 obtain⟨_,d,c⟩:=World.cells?_some h;exact⟨d,fun j v b=>by have:=c j (by have:=GW b;omega);rw[this];exact b⟩
def A8h {a:Addr} {v:Value} (h:W.cell? a=some v):a.spot=none:=by
 unfold World.cell? at h;split at h
 . cases b:a.spot with
   |none=>rfl
   |some _=>simp[b]at h
 . cases h
def WG {R:List Value->α->Prop} {b o sz:Nat} :∀(len:Nat),(∀i,i<len->∃a y,a.length=sz/\J4 W ⟨b,o+i*sz,none⟩ a/\R a y)->∃a l,l.length=len/\a.length=len*sz/\J4 W ⟨b,o,none⟩ a/\G1 R a l
 |0,_=>⟨[],[],rfl,by simp,fun j v c=>by simp at c,rfl⟩
 |len+1,h=>by
  obtain⟨a,l,r,f,s,t⟩:=WG (R:=R) (b:=b) (o:=o) (sz:=sz) len (fun i hi=>h i (by omega));obtain⟨d,y,g,k,n⟩:=h len (by omega);refine⟨a++d,l++ [y],by simp[r],by rw[rL,f,g,uR],fun j v c=> ?_,t.append ⟨d,[],by simp,n,rfl⟩⟩;rw[List.getElem?_append]at c;split at c
  . exact s j v c
  . rename_i a;have:=k _ v c;rw[K5]at this⊢;rw[f]at this a;rw[show o+len*sz+(j-len*sz)=o+j from by omega]at this;exact this
def A4f {n:Nat} {r:TypeId->Ty->Bool} {Z:Nat->Prop} {cs:List Value} (c:∀ {T:TypeId} {ty:Ty} {cs:List Value} {x:DataW H×List MemPlace},r T ty=true->DataW.trod enc P W 0 (fun _=>true) true n T cs=some x->∃y,C5 ty W Z cs y):
 ∀ {b:List Field} {off:Nat} {ty:Ty},iM P r b off ty=true->(∀f∈b,∃x,DataW.trod enc P W 0 (fun _=>true) true n f.type ((cs.drop f.offset).take (P.cellsOf f.type))=some x)->cs.length=off+ty.size->∃y,C5 ty W Z (cs.drop off) y
 | [],off,ty,h,d,a=>by
  cases ty<;>simp[iM]at h;exact⟨(),by rw[sD (by simp[Ty.size]at a;omega)];rfl⟩
 | [f],off,ty,h,d,a=>by
  have a:(Nat.beq f.offset off&&r f.type ty&&Nat.beq (P.cellsOf f.type) ty.size)=true:=by cases ty<;>exact h
  simp only[qC]at a;obtain⟨x,d⟩:=d f (by simp);obtain⟨y,g⟩:=c a.1.2 d;rw[qE a.1.1,qE a.2,qW (by rw[sL];omega)]at g;exact⟨y,g⟩
 |f::g::b,off,ty,h,d,l=>by
  cases ty<;>simp only[iM]at h<;>try cases h
  rename_i a b;simp only[qC]at h;obtain⟨⟨⟨g,i⟩,j⟩,k⟩:=h;obtain⟨x,h⟩:=d f (by simp);obtain⟨y,b⟩:=c i h;rw[qE g,qE j]at b;obtain⟨z,g⟩:=A4f c k (fun q hq=>d q (qL _ hq)) (by rw[l];simp only[Ty.size];omega);exact⟨(y,z),(cs.drop off).take a.size,cs.drop (off+a.size),by rw[<-vT,uJ],b,g⟩
def A4d {n:Nat} {r:TypeId->Ty->Bool} {Z:Nat->Prop} {cs:List Value} {e:TypeId} {sz:Nat} (c:∀ {T:TypeId} {ty:Ty} {cs:List Value} {x:DataW H×List MemPlace},r T ty=true->DataW.trod enc P W 0 (fun _=>true) true n T cs=some x->∃y,C5 ty W Z cs y):
 ∀ {k i:Nat} {ty:Ty},iK (r e) sz k ty=true->(∀j,j<k->∃x,DataW.trod enc P W 0 (fun _=>true) true n e ((cs.drop ((i+j)*sz)).take sz)=some x)->cs.length=i*sz+ty.size->∃y,C5 ty W Z (cs.drop (i*sz)) y
 |0,i,ty,h,b,a=>by
  cases ty<;>simp[iK]at h;exact⟨(),by rw[sD (by simp[Ty.size]at a;omega)];rfl⟩
 |1,i,ty,h,a,b=>by
  have b:(r e ty&&Nat.beq ty.size sz)=true:=by cases ty<;>exact h
  simp only[qC]at b;obtain⟨x,a⟩:=a 0 (by omega);rw[tC]at a;obtain⟨y,d⟩:=c b.1 a;have:=qE b.2;rw[qW (by rw[sL];omega)]at d;exact⟨y,d⟩
 |k+2,i,ty,h,g,s=>by
  cases ty<;>simp only[iK]at h<;>try cases h
  rename_i a b;simp only[qC]at h;obtain⟨⟨l,b⟩,o⟩:=h;obtain⟨x,f⟩:=g 0 (by omega);rw[tC]at f;obtain⟨y,d⟩:=c l f;have b:=qE b;have d:C5 a W Z ((cs.drop (i*sz)).take a.size) y:=by rw[b];exact d
  have f:(i+1)*sz=i*sz+a.size:=by rw[uR,b]
  obtain⟨z,b⟩:=A4d c (i:=i+1) o (fun j hj=>by
   have:=g (j+1) (by omega);rw[show i+(j+1)=i+1+j from by omega]at this;exact this) (by rw[s,f];simp only[Ty.size];omega)
  rw[f]at b;exact⟨(y,z),(cs.drop (i*sz)).take a.size,cs.drop (i*sz+a.size),by rw[<-vT,uJ],d,b⟩
def UH:∀ {m n:Nat} {T:TypeId} {ty:Ty} {cs:List Value} {x:DataW H×List MemPlace},nC P m T ty=true->DataW.trod enc P W 0 (fun _=>true) true n T cs=some x->∃y,C5 ty W (fun b=>b<W.heap.size) cs y
 |0,_,_,_,_,_,h,_=>by cases h
 |m+1,n,T,ty,cs,x,h,c=>by
  simp only[nC]at h;split at h
  . rename_i F a;cases ty<;>simp only at h<;>try cases h
    rename_i d;have:=qA h;subst this;obtain⟨z,e,_,d⟩:=DataW.trod_int a c;exact⟨z,e,by simp only[Lit.wf,qC,rS]at d;exact d⟩
  . rename_i a;cases ty<;>simp only at h<;>try cases h
    obtain⟨b,e,_⟩:=DataW.trod_bool a c;exact⟨b,e⟩
  . rename_i a;cases ty<;>simp only at h<;>try cases h
    obtain⟨s,e,_⟩:=DataW.trod_string a c;exact⟨s,e⟩
  . rename_i e a;cases ty<;>simp only at h<;>try cases h
    rename_i t;simp only[qC]at h;have D:=qE h.1.2;rcases DataW.trod_slice a c with⟨s,_⟩ | ⟨k,len,w,WF,r,q,B,s,_,_,g,z,d,v,_⟩
    . exact⟨[],none,0,s,qZ _,rK _,fun _=>rfl, .inl rfl⟩
    . by_cases d:len=0
      . subst d;exact⟨[],some k,w,s,rK _,z,fun g=>(by cases g), .inl rfl⟩
      . have A:∀i,i<len->∃d y,d.length=t.size/\J4 W (k.add (i*t.size)) d/\C5 t W (fun b=>b<W.heap.size) d y:=fun i r=>by
         have u:=v i r;rw[qP (by omega),D]at u;obtain⟨d,D,E⟩:=g1v.1 u;obtain⟨v,u⟩:=cells?_at D;obtain⟨y,D⟩:=UH (m:=m) h.1.1 E;exact⟨d,y,v,u,D⟩
        obtain⟨D,E,v,u,_⟩:=A 0 (by omega);have v:=qS h.2;obtain⟨G,E⟩:=B6x (l:=D) (i:=0) (by omega);have v:=u 0 G E;have u:(k.add (0*t.size)).add 0=k:=by simp[Addr.add]
        rw[u]at v;have u:=A8h v;obtain⟨b,o,D⟩:=k;simp only at u;subst u;have u:b<W.heap.size:=block_lt_of_cell v;obtain⟨d,l,v,_,D,E⟩:=WG (R:=C5 t W (fun b=>b<W.heap.size)) (b:=b) (o:=o) (sz:=t.size) len (fun i r=>by
         obtain⟨d,y,t,k,G⟩:=A i r;rw[K5]at k;exact⟨d,y,t,k,G⟩)
        exact⟨l,some ⟨b,o,none⟩,w,by rw[s,v],by omega,z,fun g=>(by cases g), .inr ⟨b,o,d,rfl,u,D,E⟩⟩
  . rename_i s a;simp only[qC]at h;obtain⟨w,q,B,_,k,v,d⟩:=DataW.trod_struct a c;have:=A4f (enc:=enc) (P:=P) (W:=W) (n:=q) (Z:=fun b=>b<W.heap.size) (cs:=cs) (fun g c=>UH (m:=m) g c) h.1 (fun f hf'=>by
     obtain⟨i,r,t⟩:=g3n hf';have u:i<s.size:=by simpa using r
     have r:=d i f (by rw[tZ u];simpa using t);rw[qP (by omega)]at r;exact⟨_,r⟩) (by rw[k,qE h.2];omega)
    simpa using this
  . rename_i F e a;simp only[qC]at h;obtain⟨w,q,B,_,k,v,d⟩:=DataW.trod_array a c;have:=A4d (enc:=enc) (P:=P) (W:=W) (n:=q) (Z:=fun b=>b<W.heap.size) (cs:=cs) (e:=e) (i:=0) (fun g c=>UH (m:=m) g c) h.1 (fun j hj=>by
     have a:=d j hj;rw[qP (by omega)]at a;rw[sF];exact⟨_,a⟩) (by rw[k,qE h.2];omega)
    simpa using this
  . cases h
end
def iB (c:Bool) (A B:Prop):Prop:=(c=true->A)/\(c=false->B)
def C0r (P:Program) (T:TypeId) (a:Bool):Bool:=match P.underlying T with
 |some (.struct _)=>a
 |some (.array _ _)=>false
 | _=> !a
def fV (P:Program):List TypeId->List AM->Bool
 | [],[]=>true
 |T::b, .val a c::as=>nC P 40 T c&&C0r P T a&&fV P b as
 | _,_=>false
section
variable {H:Type} {enc:TypeId×Value->H} {P:Program} {W:World}
def B3r {m:Nat} {T:TypeId} {ty:Ty} {a:Bool} {r:Reach} {b0:Nat} {v:Value} {d:DataW H} {p:List MemPlace} (h:nC P m T ty=true) (f:C0r P T a=true) (g:Value.okWide P W r b0 T v) (c:DataW.Trod enc P W 0 (fun _=>true) true T v d p):
 ∃y,Bj a ty W (fun b=>b<W.heap.size) v y:=by
 obtain⟨n,c⟩:=c;obtain⟨y,i⟩:=UH h c;refine⟨y, ?_⟩;cases m with
 |zero=>cases h
 |succ m=>
  simp only[nC]at h;unfold C0r at f;split at h
  . rename_i k c;simp only[c,rO]at f;obtain⟨n,rfl⟩:=okWide_int c g;subst f;exact i
  . rename_i c;simp only[c,rO]at f;obtain⟨n,rfl⟩:=okWide_bool c g;subst f;exact i
  . rename_i c;simp only[c,rO]at f;obtain⟨n,rfl⟩:=okWide_string c g;subst f;exact i
  . rename_i e c;simp only[c,rO]at f;obtain⟨j,k,l,rfl⟩:=okWide_slice c g;subst f;exact i
  . rename_i j c;simp only[c]at f;obtain⟨j,rfl,_⟩:=okWide_struct c g;subst f;exact⟨j.toList,by simp,i⟩
  . rename_i c;simp only[c]at f;cases f
  . cases h
def eK {r:Reach} {b0:Nat} :∀ {ts:List TypeId} {as:List AM} {vs:List Value} {a:List (DataW H)} {c:List MemPlace},fV P ts as=true->DataW.TrodAll enc P W 0 (fun _=>true) true ts vs a c->(∀(j:Nat) (t:TypeId) (v:Value),ts[j]? =some t->vs[j]? =some v->Value.okWide P W r b0 t v)->∃x,Z8 P W (fun b=>b<W.heap.size) as vs x
 | [],[],vs,a,c,_,h,_=>by
  cases vs with
  |nil=>exact⟨(),rfl⟩
  |cons _ _=>cases a<;>exact h.elim
 | [],_:: _,_,_,_,h,_,_=>by cases h
 | _:: _,[],_,_,_,h,_,_=>by cases h
 |T::ts, .row _ _:: _,_,_,_,h,_,_=>by cases h
 |T::ts, .box _ _:: _,_,_,_,h,_,_=>by cases h
 |T::ts, .fn _ _ _:: _,_,_,_,h,_,_=>by cases h
 |T::ts, .rows _ _ _:: _,_,_,_,h,_,_=>by cases h
 |T::ts, .val g i::as,vs,a,c,h,f,d=>by
  simp only[fV,qC]at h;obtain⟨v,g,i,k,p,q,rfl,rfl,rfl,a,c⟩:=trodAll_cons f;obtain⟨y,f⟩:=B3r h.1.1 h.1.2 (d 0 T v rfl rfl) a;obtain⟨z,a⟩:=eK h.2 c (fun j t u ht hu=>d (j+1) t u (by simpa using ht) (by simpa using hu));exact⟨(y,z),v,g,rfl,f,a⟩
def iV (as:List AM):A6:= {args:=as,res:= [.val false .bool],pre:=fun _=>True,post:=fun _ r=>r.1=true}
def A7b {f:FuncId} {as:List AM} {vs:List Value} {x:A2 as} (a:Bc as=true) (c:A8 P f (iV as)) (h:Z8 P W (fun b=>b<W.heap.size) as vs x):Gw.cK P f vs W fun v W'=>v= .bool true/\R8 W W':=by
 refine(c W _ vs x (fun _ h=>h) h (by show Dis W (O8 as vs);rw[DN a];trivial) trivial).mono fun v d ⟨c,r,o,us,Zn,hpost,_,hv,_,hrep,_⟩=>⟨?_,c.ext (fun b ⟨u,hu,_⟩=>by rw[show O8 (iV as).args vs= []from DN a vs]at hu;cases hu)⟩
 obtain⟨u,d,e,a,_,c⟩:=hrep;rw[show d= []from c]at e;subst e;have a: [u]= [Value.bool r.1]:=a;have c:r.1=true:=hpost;rw[c]at a;rw[hv];simpa[Wy]using a
def nO {f:FuncId} {s:A6} (h:∀x,¬s.pre x):A8 P f s:=fun _ _ _ x _ _ _ a=>absurd a (h x)
def A1:Jo P []:=fun _ _ h=>by cases h
def A0 {f:FuncId} {s:A6} {l:H2} (c:A8 P f s) (d:Jo P l) (i:s.inl=none:=by rfl):Jo P ((f,s)::l):=fun g t h=>by
 unfold Gv at h;cases a:Nat.beq f g with
 |true=>
  rw[a]at h;obtain rfl:=qE a;obtain rfl:s=t:=by simpa using h
  exact⟨c,fun j b=>by rw[i]at b;cases b⟩
 |false=>rw[a]at h;exact d g t h
def Fo {f:FuncId} {run:Inl} {l:H2} (b:QN P f run) (c:Jo P l):Jo P ((f,Gy run)::l):=fun g t h=>by
 unfold Gv at h;cases a:Nat.beq f g with
 |true=>
  rw[a]at h;obtain rfl:=qE a;obtain rfl:Gy run=t:=by simpa using h
  exact⟨fun _ _ _ _ _ _ _ d=>d.elim,fun r i=>by cases i;exact b⟩
 |false=>rw[a]at h;exact c g t h
def Iu:A3i P []:=fun _ h=>by cases h
def T7 {d:Nat} {sp:H2} {an:An} {l:List (Nat×H2×An)} (b:Jo P sp) (c:A3i P l):A3i P ((d,sp,an)::l):=fun x a=>by
 rcases qG.1 a with rfl|a
 . exact b
 . exact c x a
end
end Go.Vc
namespace Go.Vc
open Go Go.RowKit Go.Gw
def EW (g:FuncId) (t:Ty) (e:TypeId) (φ:t.den->t.den->Int) (_:Nat) (b:St) (ss:List SV) (k:St->List SV->Prop):Prop:=
 match ss with
 | [⟨false,[.row q]⟩,⟨false,[.fn a []]⟩]=>bif Nat.beq a g then(match BF b t e q with
  |some l=>l.length<=100000/\∀a:List t.den,(Ty.sl t).wf a->a.Perm l->a.Pairwise (fun c d=>¬φ d c<0)->k (addM [.row t e] (a,()) [q] (dropM b [q])) []
  |none=>False)else False
 | _=>False
def A8g (g:FuncId) (t:Ty) (e:TypeId) (φ:t.den->t.den->Int) {a:St} {d:Nat} {ss:List SV} {k k':St->List SV->Prop} (h:EW g t e φ d a ss k) (f:∀b c,C1 a b->k b c->k' b c):EW g t e φ d a ss k':=by
 unfold EW at h⊢;split at h
 . obtain⟨a,h⟩:=B4 h;rw[a,qT];split at h
   . exact⟨h.1,fun i c a b=>f _ _ ((C1.dropM _ _).trans (C1.addM _ _ _ _)) (h.2 i c a b)⟩
   . exact h.elim
 . exact h.elim
def UL (g:FuncId) (t:Ty) (e:TypeId) (φ:t.den->t.den->Int):Inl:= {run:=EW g t e φ,step:=A8g g t e φ}
def Cb (t:Ty) (e:TypeId) (φ:t.den->t.den->Int):A6:=
 { args:= [.row t e],res:= [],shared:=true,pre:=fun _=>True,post:=fun _ _=>True,mpost:=fun(x:List t.den×Unit) _ (o:List t.den×Unit)=>o.1.Perm x.1/\o.1.Pairwise fun a b=>¬φ b a<0}
def A3m (P:Program) (f g:FuncId) (t:Ty) (e:TypeId) (φ:t.den->t.den->Int):Prop:=
 ∀(w:World) (Z:Nat->Prop) (v:Value) (l:List t.den),(∀b,Z b->b<w.heap.size)->cJ P w Z (.row t e) v l->l.length<=100000->B9u P f (Cb t e φ) [v, .func (.func g) #[] #[]] w Z (l,())
def ZD {P:Program} {tys:List (Nat×TI)} {f g:FuncId} {t:Ty} {e:TypeId} {φ:t.den->t.den->Int} (u:A3m P f g t e φ):QN P f (UL g t e φ):=by
 refine {go:= ?_};intro v n i E w Z B d h vs a j k c l b;replace b:EW g t e φ d i h a:=b;unfold EW at b;split at b
 . rename_i q y;obtain⟨a,n⟩:=B4 b;clear b;obtain rfl:=qE a;split at n
   . rename_i l a;obtain⟨D,G⟩:=n;obtain⟨d,v,rfl,h,l,z,rfl,j,rfl⟩:=c;have c:d=B q:=by
      obtain⟨z,A,c,d,v⟩:=h;cases c;exact d
     have d:l= .func (.func y) #[] #[]:=by
      obtain⟨l,v,c,d,h⟩:=j;cases c;exact d
     subst c d;have l:=k.locs q;have h:∃d,∃c,∃l':List d.den,i.L q= .row d c l':=by
      unfold BF at a;split at a
      . exact⟨_,_,_,by assumption⟩
      . cases a
     obtain⟨d,c,v,h⟩:=h;unfold BF at a;rw[h]at a l;simp only at a;split at a
     . rename_i j;subst j;cases j:Nat.beq c e with
       |false=>simp[j]at a
       |true=>
        simp only[j,qT,rD]at a;obtain rfl:=qE j;subst a;obtain⟨I,F,A,z⟩:=l;have H:cJ P w Z (.row d c) (B q) v:=⟨I,F,A,fun j l=>(z j l).2⟩;have A:=u w Z (B q) v k.zlt H D;have z:live (i.L q):=by rw[h];trivial
        have D:lz w i [q] B Z true=Z:=by funext j;simp[lz]
        have:=cR (cx:=⟨P,tys⟩) (s:=Cb d c φ) (x:=(v,())) (vs:= [B q, .func (.func y) #[] #[]]) (mu:= [q]) k (by rw[show(Cb d c φ).shared=true from rfl,D];exact A) rfl
         ⟨⟨rfl,fun j l=>by rw[h];exact l⟩,trivial⟩ (by simp) (fun d c=>by simp at c;subst c;exact z)
        refine Gw.cK.mono this fun v c ⟨_,r,o,i,_,how,_,hmp,hv,Z',B',h3,h4,_⟩=> ?_
        obtain⟨c,d⟩:=hmp rfl;have h:i= []:=h4;subst h;exact⟨_,Z',B',[],[],h3,hv,rfl,fun s u=>(by cases u),G o.1 how.1 c d⟩
     . cases a
   . exact n.elim
 . exact b.elim
def QV (P:Program) (as:List (Bool×Ty)) (c:Bool) (r a:Ty) (φ:a.den->Y8 as->r.den):List SV->Option SV
 | [⟨false,[.val b n]⟩]=>if h:b=a then some ⟨false,[.fv P as c r (fun _=>True) (φ (h▸n))]⟩else none
 | _=>none
def B1l (P:Program) (as:List (Bool×Ty)) (b:Bool) (r a:Ty) (φ:a.den->Y8 as->r.den):Inl:=
 { run:=fun _ d c k=>match QV P as b r a φ c with
    |some sv=>k d [sv]
    |none=>False
   res:=QV P as b r a φ
   step:=fun {d g c k i} h f=>by
    cases d:QV P as b r a φ c with
    |none=>rw[d]at h;exact h.elim
    |some sv=>rw[d]at h;exact f _ _ (C1.refl _) h}
def C8d (P:Program) (f:FuncId) (as:List (Bool×Ty)) (d:Bool) (r a:Ty) (φ:a.den->Y8 as->r.den):Prop:=
 ∀(w:World) (Z:Nat->Prop) (v:Value) (n:a.den),C5 a w Z [v] n->Gw.cK P f [v] w fun u c=>R8 w c/\∃Zn:Nat->Prop,(∀b,Zn b->Z b\/(w.heap.size<=b/\b<c.heap.size))/\pR P c Zn u as d r (fun _=>True) (φ n)
def pR.mono {P:Program} {w:World} {Z Z':Nat->Prop} {v:Value} {as:List (Bool×Ty)} {d:Bool} {r:Ty} {a:Y8 as->Prop} {φ:Y8 as->r.den} (h:pR P w Z v as d r a φ) (f:∀b,Z b->Z' b):pR P w Z' v as d r a φ:=
 RC.mono (B:=fun _=>v) (B':=fun _=>v) (n:=0) (c:= .fv P as d r a φ) f (fun _ _=>rfl) (fun _ _=>rfl) trivial h
def B1m {P:Program} {f:FuncId} {as:List (Bool×Ty)} {g:Bool} {r a:Ty} {φ:a.den->Y8 as->r.den} (j:C8d P f as g r a φ):QN P f (B1l P as g r a φ):=by
 have res:∀ {t:Zn} {s:World} {h:St} {E:G2} {w:World} {Z:Nat->Prop} {B:Nat->Value} {d:List SV} {k:List Value} {sv:SV},B7 t s h E w Z B->Rp w Z B d k->QV P as g r a φ d=some sv->
  Gw.cK P f k w fun v i=>R8 w i/\∃Z':Nat->Prop,(∀b,Z b->Z' b)/\(∀b,Z' b->Z b\/(w.heap.size<=b/\b<i.heap.size))/\RS i Z' B sv v:=by
  intro t s h E w Z B d k sv l n c;unfold QV at c;split at c
  . rename_i o z;split at c
    . rename_i o;subst o;cases c;obtain⟨A,o,rfl,y,rfl⟩:=n;obtain⟨u,F,o,x,D⟩:=y;cases o;refine Gw.cK.mono (j w Z A z x) fun u i ⟨o,Zn,hz,hf⟩=>⟨o,fun b=>Z b\/Zn b,fun _=> .inl,fun b x=>x.elim .inl (hz b), ?_⟩
      exact⟨u,[],rfl,hf.mono fun _=> .inr,rfl⟩
    . cases c
  . cases c
 refine {go:= ?_,res:=res};intro t s h E w Z B u d k b x l n y c;replace c:(match QV P as g r a φ d with|some sv=>b h [sv] |none=>False):=c;cases b:QV P as g r a φ d with
 |none=>rw[b]at c;exact c.elim
 |some sv=>
  rw[b]at c;refine Gw.cK.mono (res l n b) fun v i ⟨o,Z',hz,hz',hrep⟩=>⟨h,Z',B,[sv],[v],l.more o hz hz',rfl,⟨v,[],rfl,hrep,rfl⟩,fun s j=> ?_,c⟩
  rw[qO]at j;subst j;unfold QV at b;split at b
  . split at b
    . cases b;intro d c;rw[qO]at c;subst c;trivial
    . cases b
  . cases b
end Go.Vc
namespace Go.Proofs.YtiflhbllbgajeaaGreat
def W1 {s:List Int} {k:Nat} {v i:Int} (a:k<s.length):C2 (s.set k v) i=if i.toNat=k then v else C2 s i:=by
 unfold C2;simp only[qF,wC];by_cases h:k=i.toNat
 . subst h;simp[a]
 . rw[qK h,qK (fun a=>h a.symm)]
def UF.le {s:List Int} (h:UF s) {b:Int} (a:0<=b) (c:b<(s.length:Int)):0<=C2 s b/\C2 s b<=b:=by
 have:=h b.toNat (by omega);rw[show((b.toNat:Nat):Int)=b from by omega]at this;exact this
def Vu {s:List Int} (h:UF s):∀(k:Nat) (b:Int),0<=b->b<(s.length:Int)->b.toNat<=k->LW s k b=LW s b.toNat b
 |0,b,a,c,d=>by rw[show b.toNat=0 from by omega]
 |k+1,b,a,d,c=>by
  obtain⟨c,f⟩:=h.le a d;by_cases a:C2 s b=b
  . simp only[LW,qQ a];cases d:b.toNat with
    |zero=>rfl
    |succ m=>simp only[LW,qQ a]
  . simp only[LW,qK a];have f:C2 s b<b:=by omega
    rw[Vu h k (C2 s b) c (by omega) (by omega)];cases d:b.toNat with
    |zero=>omega
    |succ m=>
     simp only[LW,qK a];rw[Vu h m (C2 s b) c (by omega) (by omega)]
def A5g {s:List Int} (h:UF s) {b:Int} (a:0<=b) (c:b<(s.length:Int)):root s b=if C2 s b=b then b else root s (C2 s b):=by
 obtain⟨d,f⟩:=h.le a c;unfold root;rw[<-Vu h (b.toNat+1) b a c (by omega)];simp only[LW];split
 . rfl
 . exact Vu h _ _ d (by omega) (by omega)
def Dg {s:List Int} (h:UF s) {b:Int} (a:0<=b) (c:b<(s.length:Int)) (d:C2 s b=b):root s b=b:=by rw[A5g h a c,qQ d]
def Ei {s:List Int} (h:UF s) {b:Int} (c:0<=b) (d:b<(s.length:Int)):root s (C2 s b)=root s b:=by
 by_cases a:C2 s b=b
 . rw[a]
 . rw[A5g h c d,qK a]
def YW {s:List Int} (h:UF s) {q:Int->Prop} (f:∀b,0<=b->b<(s.length:Int)->C2 s b=b->q b) (g:∀b,0<=b->b<(s.length:Int)->C2 s b<b->0<=C2 s b->q (C2 s b)->q b):∀b,0<=b->b<(s.length:Int)->q b:=by
 have l:∀(k:Nat) (b:Int),b.toNat<=k->0<=b->b<(s.length:Int)->q b:=by
  intro k
  induction k with
  |zero=>
   intro b d a c;obtain⟨d,i⟩:=h.le a c;exact f b a c (by omega)
  |succ k j=>
   intro b d a c;obtain⟨d,i⟩:=h.le a c;by_cases i:C2 s b=b
   . exact f b a c i
   . exact g b a c (by omega) d (j _ (by omega) d (by omega))
 exact fun b a c=>l b.toNat b (qZ _) a c
def jW {s:List Int} (h:UF s) {b:Int} (a:0<=b) (c:b<(s.length:Int)):0<=root s b/\root s b<=b/\C2 s (root s b)=root s b:=by
 refine YW h (q:=fun b=>0<=root s b/\root s b<=b/\C2 s (root s b)=root s b) (fun b a c d=> ?_) (fun b a c d g f=> ?_) b a c
 . rw[Dg h a c d];exact⟨a,qI _,d⟩
 . rw[Ei h a c]at f;exact⟨f.1,by omega,f.2.2⟩
def A7u {s b:List Int} (h:UF s) (f:UF b) (a:b.length=s.length) (k:∀i:Int,0<=i->i<(s.length:Int)->root s (C2 b i)=root s i) (j:∀i:Int,0<=i->i<(s.length:Int)->C2 b i=i->C2 s i=i):∀i:Int,0<=i->i<(s.length:Int)->root b i=root s i:=by
 intro i a c;refine YW f (q:=fun i=>root b i=root s i) (fun d a c g=> ?_) (fun d a c g l b=> ?_) i a (by omega)
 . rw[Dg f a c g,Dg h a (by omega) (j d a (by omega) g)]
 . rw[<-Ei f a c,b,k d a (by omega)]
def halve {s:List Int} (h:UF s) {b:Int} (d:0<=b) (f:b<(s.length:Int)):UF (s.set b.toNat (C2 s (C2 s b)))/\∀i:Int,0<=i->i<(s.length:Int)->root (s.set b.toNat (C2 s (C2 s b))) i=root s i:=by
 have a:b.toNat<s.length:=by omega
 obtain⟨c,g⟩:=h.le d f;obtain⟨g,c1⟩:=h.le c (by omega:C2 s b<(s.length:Int));have g:UF (s.set b.toNat (C2 s (C2 s b))):=fun i hi=>by
  rw[qM]at hi;rw[W1 a];split
  . rename_i e;rw[show((i:Nat):Int)=b from by omega];omega
  . exact h i hi
 refine⟨g,A7u h g (by rw[qM]) (fun i j k=> ?_) (fun i j k=> ?_)⟩
 . rw[W1 a];split
   . rw[show i=b from by omega,Ei h c (by omega),Ei h d f]
   . exact Ei h j k
 . rw[W1 a];split
   . intro e;have:i=b:=by omega
     subst this;omega
   . exact id
def B2h {s:List Int} (h:UF s) {m M:Int} (l:0<=m) (c:m<=M) (a:M<(s.length:Int)) (k:C2 s m=m) (g:C2 s M=M):
 UF (s.set M.toNat m)/\∀i:Int,0<=i->i<(s.length:Int)->root (s.set M.toNat m) i=if root s i=M then m else root s i:=by
 have f:M.toNat<s.length:=by omega
 have d:UF (s.set M.toNat m):=fun i hi=>by
  rw[qM]at hi;rw[W1 f];split
  . omega
  . exact h i hi
 have a:(s.set M.toNat m).length=s.length:=qM;refine⟨d,fun i a c=> ?_⟩;refine YW d (q:=fun i=>root (s.set M.toNat m) i=if root s i=M then m else root s i) (fun b a c hb=> ?_) (fun b a c hb hn hq=> ?_) i a (by omega)
 . rw[Dg d a c hb];rw[W1 f]at hb;split at hb
   . have e:b=M:=by omega
     rw[e,Dg h (by omega) (by omega) g,qQ rfl];omega
   . rename_i j;rw[Dg h a (by omega) hb,qK (by omega)]
 . rw[<-Ei d a c,hq];rw[W1 f]at hb⊢;split at hb
   . rename_i e;have e:b=M:=by omega
     have c:b.toNat=M.toNat:=by omega
     rw[qQ c,e,Dg h (by omega) (by omega) g,Dg h l (by omega) k,qQ rfl];split<;>rfl
   . rename_i j;rw[qK j,Ei h a (by omega)]
end Go.Proofs.YtiflhbllbgajeaaGreat
namespace Go.Proofs.YtiflhbllbgajeaaGreat
open Go.Vc Go.Gw
def A4s {n:Int} {ls:List Ln} :Si n ls=0↔En n ls:=by
 unfold Si En;split
 . constructor
   . intro h;omega
   . intro h;omega
 . split
   . rename_i b a;exact⟨fun _=>⟨by omega,by omega,a⟩,fun _=>rfl⟩
   . rename_i b a;exact⟨fun h=>by omega,fun h=>absurd h.2.2 a⟩
variable {α:Type}
def B2c (q:α->α->Prop) (d:α) (l:List α) (a i j:Nat):Prop:=∀s t,a<=s->s<t->t<=i->t≠j->q (l.getD s d) (l.getD t d)
def LZ (d:α) (l:List α) (j:Nat):List α:=(l.set j (l.getD (j-1) d)).set (j-1) (l.getD j d)
def ZG {d:α} {l:List α} {j:Nat} (b:0<j) (a:j<l.length) (k:Nat):(LZ d l j).getD k d=if k=j then l.getD (j-1) d else if k=j-1 then l.getD j d else l.getD k d:=by
 unfold LZ;simp only[qF,wC,qM];by_cases h:k=j
 . subst h;rw[qK (by omega),qQ rfl,qQ rfl,qQ a];rfl
 . rw[qK h];by_cases a:k=j-1
   . subst a;rw[qQ rfl,qQ (by omega),qQ rfl];rfl
   . rw[qK (by omega),qK (by omega),qK a]
def A2t {d:α} {l:List α} {j:Nat} (a:j<l.length):(LZ d l j).Perm l:=by
 have b:j-1<l.length:=by omega
 have:=List.set_set_perm (as:=l) a b;unfold LZ;simp only[qF,qP a,qP b];exact this
def A2u {d:α} {l:List α} {j a:Nat} (h:a<=j-1):(LZ d l j).take a=l.take a:=by
 unfold LZ;rw[zD h,zD (by omega)]
def A2s {d:α} {l:List α} {j b:Nat} (h:j<b):(LZ d l j).drop b=l.drop b:=by
 unfold LZ;rw[zC (by omega),zC (by omega)]
def A1d {q:α->α->Prop} {d:α} {l:List α} {a i:Nat} (h:∀s t,a<=s->s<t->t<i->q (l.getD s d) (l.getD t d)):B2c q d l a i i:=fun s t b c f g=>h s t b c (by omega)
def A6u {q:α->α->Prop} {d:α} {l:List α} {a i j:Nat} (h:B2c q d l a i j) (c:a<j) (b:j<l.length) (f:j<=i) (n:q (l.getD j d) (l.getD (j-1) d)):B2c q d (LZ d l j) a i (j-1):=by
 intro s t g k f c;rw[ZG (by omega) b,ZG (by omega) b,qK c];by_cases c:t=j
 . rw[qQ c,qK (by omega)];by_cases b:s=j-1
   . rw[qQ b];exact n
   . rw[qK b];exact h s (j-1) g (by omega) (by omega) (by omega)
 . rw[qK c];by_cases b:s=j
   . rw[qQ b];exact h (j-1) t (by omega) (by omega) f c
   . rw[qK b];by_cases b:s=j-1
     . rw[qQ b];exact h j t (by omega) (by omega) f c
     . rw[qK b];exact h s t g k f c
def B2d {q:α->α->Prop} {d:α} {l:List α} {a i j:Nat} (h:B2c q d l a i j) (n:∀x y z,q x y->q y z->q x z) (r:j<=i) (c:a<j->q (l.getD (j-1) d) (l.getD j d)):∀s t,a<=s->s<t->t<i+1->q (l.getD s d) (l.getD t d):=by
 intro s t b g o;by_cases f:t=j
 . subst f;by_cases k:s=t-1
   . rw[k];exact c (by omega)
   . exact n _ _ _ (h s (t-1) b (by omega) (by omega) (by omega)) (c (by omega))
 . exact h s t b g (by omega) f
def YM {q:α->α->Prop} {d:α} {l:List α} {a b:Nat} (c:b<=l.length) (h:∀s t,a<=s->s<t->t<b->q (l.getD s d) (l.getD t d)):((l.drop a).take (b-a)).Pairwise q:=by
 rw[uA];intro i j c f g;rw[qU,sL]at c f;have e:∀k (hk:k<((l.drop a).take (b-a)).length),((l.drop a).take (b-a))[k]=l.getD (a+k) d:=fun k hk=>by
  rw[qU,sL]at hk;rw[g1i,List.getElem_drop,qF,qP (by omega)];rfl
 rw[e i (by rw[qU,sL];omega),e j (by rw[qU,sL];omega)];exact h _ _ (by omega) (by omega) (by omega)
def YN:∀(n:Nat) (f:Nat->Nat),(∀a,a<n+1->f a<n)->∃a b,a<b/\b<n+1/\f a=f b
 |0,f,h=>absurd (h 0 (by omega)) (by omega)
 |n+1,f,h=>by
  by_cases i:∃a,a<n+1/\f a=f (n+1)
  . obtain⟨a,c,g⟩:=i;exact⟨a,n+1,c,by omega,g⟩
  . have d:∀a,a<n+1->f a≠f (n+1):=fun a ha e=>i ⟨a,ha,e⟩
    obtain⟨a,b,c,g,i⟩:=YN n (fun a=>if f a<f (n+1)then f a else f a-1) fun a ha=>by
     have:=h a (by omega);have:=h (n+1) (by omega);have:=d a ha;split<;>omega
    refine⟨a,b,c,by omega, ?_⟩;have c:=d a (by omega);have c:=d b (by omega);split at i<;>split at i<;>omega
def Gx {n:Nat} {q:Nat->Nat} (g:∀a,a<n->q a<n) (f:∀a b,a<n->b<n->q a=q b->a=b) {j:Nat} (d:j<n):∃a,a<n/\q a=j:=
 qV fun c=>by
  have i:∀a,a<n->q a≠j:=fun a ha e=>c ⟨a,ha,e⟩
  obtain⟨a,b,h,k,c⟩:=YN n (fun a=>if a<n then q a else j) fun a ha=>by
   split
   . rename_i h;exact g a h
   . exact d
  by_cases d:b<n
  . rw[qQ d,qQ (by omega)]at c;have:=f a b (by omega) d c;omega
  . rw[qK d,qQ (by omega)]at c;exact i a (by omega) c
def dot (n:Nat) (u x:Nat->Rat):Rat:=C7 n fun j=>u j*x j
def B6t (n k:Nat) (l:Nat->Rat) (R:Nat->Nat->Rat) (u x:Nat->Rat):C7 n (fun j=>(C7 k (fun m=>l m*R m j)+u j)*x j)=C7 k (fun m=>l m*dot n (R m) x)+dot n u x:=by
 have:(fun j=>(C7 k (fun m=>l m*R m j)+u j)*x j)=fun j=>C7 k (fun m=>l m*(R m j*x j))+u j*x j:=by
  funext j;rw[g3d, <-PY];congr 1;exact B8 fun m _=>vL _ _ _
 rw[this,Ev,Mf];congr 1;exact B8 fun m _=>Ni n (l m) _
def B8x (a b c:Rat):a+b=a+c+(b-c):=by grind
structure JZ (n k:Nat) (A:Nat->Nat->Rat) (p q:Nat->Nat) (R Lo:Nat->Nat->Rat):Prop where
 kn:k<=n
 plt:∀m,m<k->p m<n
 qlt:∀m,m<k->q m<n
 pinj:∀a b,a<k->b<k->p a=p b->a=b
 qinj:∀a b,a<k->b<k->q a=q b->a=b
 dec:∀i j,i<n->j<n->A i j=C7 k (fun m=>Lo i m*R (p m) j)+R i j
 zero:∀m i,m<k->i<n->(∀a,a<=m->i≠p a)->R i (q m)=0
 piv:∀m,m<k->R (p m) (q m)≠0
 low:∀a m,a<k->m<k->a<=m->Lo (p a) m=0
def JZ.init (n:Nat) (A:Nat->Nat->Rat) (p q:Nat->Nat) (Lo:Nat->Nat->Rat):JZ n 0 A p q A Lo:=
 ⟨rK _,fun _ h=>absurd h (vB _),fun _ h=>absurd h (vB _),fun _ _ h=>absurd h (vB _),fun _ _ h=>absurd h (vB _),fun i j _ _=>by rw[C7,tH],fun _ _ h=>absurd h (vB _),fun _ h=>absurd h (vB _),fun _ _ h=>absurd h (vB _)⟩
section
variable {n k:Nat} {A R Lo R' Lo':Nat->Nat->Rat} {p q p' q':Nat->Nat}
def JZ.step (h:JZ n k A p q R Lo) {r c:Nat} {fac:Nat->Rat} (Y:k<n) (z:r<n) (B:c<n) (E:∀a,a<k->r≠p a) (I:∀a,a<k->c≠q a) (J:R r c≠0)
 (o:∀m,m<k->p' m=p m) (v:p' k=r) (w:∀m,m<k->q' m=q m) (y:q' k=c)
 (Q:∀i,i<n->i≠r->(∀a,a<k->i≠p a)->fac i=R i c/R r c) (G:fac r=0) (H:∀a,a<k->fac (p a)=0)
 (x:∀i j,i<n->j<n->R' i j=R i j-fac i*R r j) (M:∀i m,i<n->m<k->Lo' i m=Lo i m) (F:∀i,i<n->Lo' i k=fac i):JZ n (k+1) A p' q' R' Lo':=by
 have O:∀j,j<n->R' r j=R r j:=fun j u=>by rw[x r j z u,G,tK,tD,wR,rN]
 have N:∀a j,a<k->j<n->R' (p a) j=R (p a) j:=fun a j d u=>by rw[x _ j (h.plt a d) u,H a d,tK,tD,wR,rN]
 have s:∀m,m<k+1->m<k\/m=k:=fun m b=>by omega
 refine⟨Y,fun m b=> ?_,fun m b=> ?_,fun a l d g f=> ?_,fun a l d g f=> ?_,fun i j t u=> ?_,fun m i b t D=> ?_,fun m b=> ?_,fun a m d b V=> ?_⟩
 . rcases s m b with b|rfl
   . rw[o m b];exact h.plt m b
   . rw[v];exact z
 . rcases s m b with b|rfl
   . rw[w m b];exact h.qlt m b
   . rw[y];exact B
 . rcases s a d with d|rfl<;>rcases s l g with g|rfl
   . rw[o a d,o l g]at f;exact h.pinj a l d g f
   . rw[o a d,v]at f;exact absurd f.symm (E a d)
   . rw[v,o l g]at f;exact absurd f (E l g)
   . rfl
 . rcases s a d with d|rfl<;>rcases s l g with g|rfl
   . rw[w a d,w l g]at f;exact h.qinj a l d g f
   . rw[w a d,y]at f;exact absurd f.symm (I a d)
   . rw[y,w l g]at f;exact absurd f (I l g)
   . rfl
 . have P:C7 k (fun m=>Lo' i m*R' (p' m) j)=C7 k (fun m=>Lo i m*R (p m) j):=B8 fun m b=>by rw[M i m t b,o m b,N m j b u]
   rw[C7,v,O j u,F i t,x i j t u,h.dec i j t u,P];exact B8x _ _ _
 . rcases s m b with b|rfl
   . have T:=h.zero m i b t fun a d=>by have:=D a d;rwa[o a (by omega)]at this
     have U:=h.zero m r b z fun a d=>E a (by omega)
     rw[w m b,x i _ t (h.qlt m b),T,U,uK,tD,wR,rN]
   . have X:i≠r:=by have:=D m (qZ _);rwa[v]at this
     have W:∀a,a<m->i≠p a:=fun a d=>by have:=D a (by omega);rwa[o a d]at this
     rw[y,x i c t B,Q i t X W,xD,vL,g1b _ J,g3g,tD,g3v]
 . rcases s m b with b|rfl
   . rw[o m b,w m b,N m _ b (h.qlt m b)];exact h.piv m b
   . rw[v,y,O c B];exact J
 . rcases s m b with b|rfl
   . rw[o a (by omega),M _ m (h.plt a (by omega)) b];exact h.low a m (by omega) b V
   . rcases s a d with d|rfl
     . rw[o a d,F _ (h.plt a d)];exact H a d
     . rw[v,F r z];exact G
def JZ.dot (h:JZ n k A p q R Lo) (x:Nat->Rat) {i:Nat} (a:i<n):C7 n (fun j=>A i j*x j)=C7 k (fun m=>Lo i m*dot n (R (p m)) x)+Go.Proofs.YtiflhbllbgajeaaGreat.dot n (R i) x:=by
 rw[<-B6t n k (Lo i) (fun m=>R (p m)) (R i) x];exact B8 fun j b=>by rw[h.dec i j a b]
def JZ.stuck (h:JZ n k A p q R Lo) {c:Nat} (w:c<n) (v:∀a,a<k->c≠q a) (z:∀i,i<n->(∀a,a<k->i≠p a)->R i c=0):¬nonsing n A:=by
 have y:∀t,t<=k->∃x:Nat->Rat,x c=1/\(∀j,j≠c->(∀m,m<k->j≠q m)->x j=0)/\∀m,k-t<=m->m<k->Go.Proofs.YtiflhbllbgajeaaGreat.dot n (R (p m)) x=0:=by
  intro t
  induction t with
  |zero=>exact fun _=>⟨fun j=>if j=c then 1 else 0,qQ rfl,fun j b _=>qK b,fun m f hmk=>by omega⟩
  |succ t b=>
   intro f;obtain⟨x,r,s,l⟩:=b (by omega);have f:k-(t+1)<k:=by omega
   generalize o:k-(t+1)=b at f;have t:∀(u:Nat->Rat) (d:Rat),Go.Proofs.YtiflhbllbgajeaaGreat.dot n u (fun j=>x j+if j=q b then d else 0)=Go.Proofs.YtiflhbllbgajeaaGreat.dot n u x+u (q b)*d:=fun u d=>by
    unfold Go.Proofs.YtiflhbllbgajeaaGreat.dot;rw[B8 (g:=fun j=>u j*x j+u j*if j=q b then d else 0) fun j _=>Rat.mul_add _ _ _,Ev];congr 1;rw[L6 (h.qlt b f) fun j _ o=>by rw[qK o,uK],qQ rfl]
   refine⟨fun j=>x j+if j=q b then-(Go.Proofs.YtiflhbllbgajeaaGreat.dot n (R (p b)) x)/R (p b) (q b)else 0, ?_,fun j o hq=> ?_,fun m h1 h2=> ?_⟩
   . show x c+(if c=q b then _ else 0)=1;rw[qK (v b f),r,rN]
   . show x j+(if j=q b then _ else 0)=0;rw[qK (hq b f),s j o hq,rN]
   . rw[t];by_cases o:m=b
     . subst o;have:=h.piv m h2;rw[xD,g4k,vL,g1b _ this,g3g,g3v]
     . rw[l m (by omega) h2,h.zero b (p m) f (h.plt m h2) fun a o e=>by have:=h.pinj m a h2 (by omega) e;omega,tK,rN]
 obtain⟨x,r,s,l⟩:=y k (qZ _);intro y;have v:∀i,i<n->C7 n (fun j=>A i j*x j)=0:=fun i hi=>by
  rw[h.dot x hi,Ad fun m b=>by rw[l m (by omega) b,uK],tH];by_cases o:∃a,a<k/\i=p a
  . obtain⟨a,f,rfl⟩:=o;exact l a (by omega) f
  . refine Ad fun j l=> ?_
    by_cases l:j=c
    . rw[l,z i hi fun a f e=>o ⟨a,f,e⟩,tK]
    . by_cases t:∃m,m<k/\j=q m
      . obtain⟨m,b,rfl⟩:=t;rw[h.zero m i b hi fun a f e=>o ⟨a,by omega,e⟩,tK]
      . rw[s j l fun m b e=>t ⟨m,b,e⟩,uK]
 have:=y x v c w;rw[r]at this;exact absurd this (by decide)
def JZ.nonsing (h:JZ n n A p q R Lo):nonsing n A:=by
 intro x d;have f:∀a,a<n->Go.Proofs.YtiflhbllbgajeaaGreat.dot n (R (p a)) x=0:=by
  intro a
  induction a using Nat.strongRecOn with
  |ind a g=>
   intro b;have c:=d (p a) (h.plt a b);rw[h.dot x (h.plt a b),Ad fun m d=> ?_,tH]at c
   . exact c
   . by_cases c:m<a
     . rw[g m c d,uK]
     . rw[h.low a m b d (by omega),tK]
 have j:∀t b,t<n->b=n-1-t->x (q b)=0:=by
  intro t
  induction t using Nat.strongRecOn with
  |ind t k=>
   intro b c g;have c:b<n:=by omega
   have d:=f b c;unfold Go.Proofs.YtiflhbllbgajeaaGreat.dot at d;rw[L6 (h.qlt b c) fun l f i=> ?_]at d
   . exact(wZ.1 d).resolve_left (h.piv b c)
   . obtain⟨m,d,rfl⟩:=Gx h.qlt h.qinj f;by_cases o:m<b
     . rw[h.zero m (p b) d (h.plt b c) fun a o e=>by have:=h.pinj b a c (by omega) e;omega,tK]
     . have a:m≠b:=fun e=>i (by rw[e])
       rw[k (n-1-m) (by omega) m (by omega) (by omega),uK]
 intro l f;obtain⟨b,g,rfl⟩:=Gx h.qlt h.qinj f;exact j (n-1-b) b (by omega) (by omega)
def JZ.prod (h:JZ n n A p q R Lo) {a b:Nat} (c:a<n) (d:b<n):A (p a) (q b)=C7 n fun m=>(Lo (p a) m+if m=a then 1 else 0)*R (p m) (q b):=by
 rw[h.dec _ _ (h.plt a c) (h.qlt b d),B8 (f:=fun m=>(Lo (p a) m+if m=a then 1 else 0)*R (p m) (q b)) (g:=fun m=>Lo (p a) m*R (p m) (q b)+(if m=a then 1 else 0)*R (p m) (q b)) fun m _=>g3d _ _ _,Ev];congr 1;rw[L6 c fun m _ d=>by rw[qK d,tK],qQ rfl,xR]
end
end Go.Proofs.YtiflhbllbgajeaaGreat
namespace Go.Proofs.YtiflhbllbgajeaaGreat
def Lab (L:List Int):Prop:=∀i:Int,0<=i->i<(L.length:Int)->0<=C2 L i/\C2 L i<=i/\C2 L (C2 L i)=C2 L i
def Eb (L:List Int) (l:Ln):(Es L l).length=L.length:=by simp[Es]
def Lt {L:List Int} {i:Int} (a:0<=i) (b:i<(L.length:Int)):L[i.toNat]? =some (C2 L i):=by
 have:i.toNat<L.length:=by omega
 unfold C2;rw[qF,qP this];rfl
def Ed {L:List Int} {l:Ln} {i:Int} (b:0<=i) (c:i<(L.length:Int)):C2 (Es L l) i=if C2 L i=max (C2 L l.1) (C2 L l.2)then min (C2 L l.1) (C2 L l.2)else C2 L i:=by
 have a:=Lt (L:=Es L l) b (by rw[Eb];exact c);unfold Es at a;rw[wB,Lt b c]at a;simp only[vW,rD]at a;exact a.symm
def Fq (n:Int):(WT n).length=n.toNat:=by simp[WT]
def Pd {n i:Int} (b:0<=i) (a:i<n):C2 (WT n) i=i:=by
 have a:=Lt (L:=WT n) b (by rw[Fq];omega);unfold WT at a;rw[wB,g0n (by omega)]at a;simp only[vW,rD]at a;rw[show C2 (WT n) i= _ from a.symm];show((i.toNat:Nat):Int)=i;omega
def A4g (n:Int):Lab (WT n):=fun i a b=>by
 rw[Fq]at b;rw[Pd a (by omega),Pd a (by omega)];omega
def Lab.join {L:List Int} {l:Ln} (h:Lab L) (i:KY L.length l):Lab (Es L l):=fun j b a=>by
 rw[Eb]at a;obtain⟨c,d,f,g⟩:=i;obtain⟨i,k,n⟩:=h _ c d;obtain⟨c,d,i⟩:=h _ f g;obtain⟨c,d,f⟩:=h j b a;rw[Ed b a];have a:C2 L (min (C2 L l.1) (C2 L l.2))=min (C2 L l.1) (C2 L l.2):=by
  rcases(by omega:min (C2 L l.1) (C2 L l.2)=C2 L l.1\/min (C2 L l.1) (C2 L l.2)=C2 L l.2)with e|e<;>rw[e]<;>assumption
 split
 . rename_i e;refine⟨by omega,by omega, ?_⟩;rw[Ed (by omega) (by omega),a];split<;>rfl
 . rename_i e;refine⟨c,d, ?_⟩;rw[Ed c (by omega),f,qK e]
def A0r (L:List Int):cnt L=((List.range L.length).filter fun(b:Nat)=>decide (C2 L (b:Int)=(b:Int))).length:=rfl
def A7a (n:Int) (ls:List Ln) (l:Ln):G9 n (ls++ [l])=Es (G9 n ls) l:=by simp[G9,List.foldl_append]
def U2 (n:Int) (ls:List Ln):(G9 n ls).length=n.toNat:=by
 unfold G9;have:∀(ls:List Ln) (L:List Int),(ls.foldl Es L).length=L.length:=by
  intro ls
  induction ls with
  |nil=>intro L;rfl
  |cons l ls a=>intro L;rw[yE,a,Eb]
 rw[this,Fq]
def Se {n:Int} {ls:List Ln} (a:0<=n) (h:∀l∈ls,KY n l):Lab (G9 n ls):=by
 unfold G9;have:∀(ls:List Ln) (L:List Int),L.length=n.toNat->(∀l∈ls,KY n l)->Lab L->Lab (ls.foldl Es L):=by
  intro ls
  induction ls with
  |nil=>intro L _ _ h;exact h
  |cons l ls c=>
   intro L b a h;rw[yE];refine c _ (by rw[Eb];exact b) (fun x c=>a x (by simp[c])) (h.join ?_);have:=a l (by simp);rw[b,show((n.toNat:Nat):Int)=n from by omega];exact this
 exact this ls _ (Fq n) h (A4g n)
def A8k {a:Type} {l:List a} {j:Nat} {d:a} (h:j<l.length):l.take (j+1)=l.take j++ [l.getD j d]:=by
 rw[rP,qP h,qF,qP h];rfl
def A1g {L:List Int} {l:Ln} {u v:Int} (u0:0<=u) (u1:u<(L.length:Int)) (v0:0<=v) (v1:v<(L.length:Int)) (h:C2 L u=C2 L v):C2 (Es L l) u=C2 (Es L l) v:=by
 rw[Ed u0 u1,Ed v0 v1,h]
def A6y {L:List Int} {l:Ln} (f:KY L.length l):C2 (Es L l) l.1=C2 (Es L l) l.2:=by
 obtain⟨a,b,c,d⟩:=f;rw[Ed a b,Ed c d];split<;>split<;>omega
def WP {n:Int} (b:0<=n) {u v:Int} (u0:0<=u) (u1:u<n) (v0:0<=v) (v1:v<n):∀(ls:List Ln) (L:List Int),L.length=n.toNat->C2 L u=C2 L v->C2 (ls.foldl Es L) u=C2 (ls.foldl Es L) v
 | [],_,_,h=>h
 |l::ls,L,a,h=>by
  rw[yE];exact WP b u0 u1 v0 v1 ls _ (by rw[Eb];exact a) (A1g u0 (by omega) v0 (by omega) h)
def dH {n:Int} (f:0<=n) {l:Ln} :∀(ls:List Ln) (L:List Int),L.length=n.toNat->(∀l∈ls,KY n l)->l∈ls->C2 (ls.foldl Es L) l.1=C2 (ls.foldl Es L) l.2
 | [],_,_,_,h=>by cases h
 |x::ls,L,a,d,h=>by
  rw[yE];have j:=d x (by simp);rcases qG.1 h with rfl|h
  . obtain⟨b,g,c,i⟩:=j;exact WP f b g c i ls _ (by rw[Eb];exact a) (A6y (by rw[a];exact⟨b,by omega,c,by omega⟩))
  . exact dH f ls _ (by rw[Eb];exact a) (fun y b=>d y (by simp[b])) h
def Iy {n:Int} {ls:List Ln} (b:0<=n) (a:∀l∈ls,KY n l) {l:Ln} (h:l∈ls):C2 (G9 n ls) l.1=C2 (G9 n ls) l.2:=dH b ls _ (Fq n) a h
def dG {a:Type} {n:Int} (s:0<=n) {f:Int->a} :∀(ls:List Ln) (L:List Int),L.length=n.toNat->Lab L->(∀l∈ls,KY n l/\f l.1=f l.2)->(∀i:Int,0<=i->i<n->f (C2 L i)=f i)->∀i:Int,0<=i->i<n->f (C2 (ls.foldl Es L) i)=f i
 | [],_,_,_,_,h=>h
 |l::ls,L,c,r,d,h=>by
  rw[yE];obtain⟨⟨a,g,b,o⟩,j⟩:=d l (by simp);have k:KY (L.length:Int) l:=by rw[c];exact⟨a,by omega,b,by omega⟩
  refine dG s ls _ (by rw[Eb];exact c) (r.join k) (fun y s=>d y (by simp[s])) fun i c k=> ?_
  rw[Ed c (by omega)];split
  . rename_i e;have d:=h _ a g;have g:=h _ b o;have b:=h i c k;rcases(by omega:min (C2 L l.1) (C2 L l.2)=C2 L l.1\/min (C2 L l.1) (C2 L l.2)=C2 L l.2)with e1|e1<;>
    rcases(by omega:max (C2 L l.1) (C2 L l.2)=C2 L l.1\/max (C2 L l.1) (C2 L l.2)=C2 L l.2)with a|a
    . rw[e1, <-b,e,a]
    . rw[e1, <-b,e,a,d,g,j]
    . rw[e1, <-b,e,a,d,g,j]
    . rw[e1, <-b,e,a]
  . exact h i c k
def Ix {a:Type} {n:Int} {ls:List Ln} (d:0<=n) (b:∀l∈ls,KY n l) {f:Int->a} (c:∀l∈ls,f l.1=f l.2):∀i:Int,0<=i->i<n->f (C2 (G9 n ls) i)=f i:=
 dG d ls _ (Fq n) (A4g n) (fun l a=>⟨b l a,c l a⟩) fun i d g=>by rw[Pd d g]
def A6z {d:Type} {n:Int} {ls:List Ln} (c:0<=n) (a:∀l∈ls,KY n l) {f:Int->d} (b:∀l∈ls,f l.1=f l.2) {u v:Int} (u0:0<=u) (u1:u<n) (v0:0<=v) (v1:v<n) (h:C2 (G9 n ls) u=C2 (G9 n ls) v):f u=f v:=by
 rw[<-Ix c a b u u0 u1, <-Ix c a b v v0 v1,h]
def pQ (A B:List Int):Prop:=A.length=B.length/\∀i:Int,0<=i->i<(A.length:Int)->C2 B (C2 A i)=C2 B i
def A6f {A B:List Int} (d:Lab A) (f:Lab B) (a:pQ A B) (g:pQ B A):A=B:=by
 apply vO;intro j;by_cases b:j<A.length
 . have b:=Lt (L:=A) (i:=(j:Int)) (by omega) (by omega);have c:=Lt (L:=B) (i:=(j:Int)) (by omega) (by have:=a.1;omega);rw[qJ]at b c;rw[b,c];obtain⟨b,c,h⟩:=d j (by omega) (by omega);obtain⟨c,h,k⟩:=f j (by omega) (by have:=a.1;omega);have h:=a.2 j (by omega) (by omega);have h:=g.2 j (by omega) (by have:=a.1;omega);obtain⟨_,c1,_⟩:=f (C2 A j) b (by have:=a.1;omega);obtain⟨_,b,_⟩:=d (C2 B j) c (by omega);congr 1;omega
 . rw[rR (by omega),rR (by have:=a.1;omega)]
def nG {n:Int} {ls a:List Ln} (d:0<=n) (c:∀l∈a,KY n l) (g:∀l∈ls,l∈a):pQ (G9 n ls) (G9 n a):=by
 refine⟨by rw[U2,U2],fun i h b=> ?_⟩;rw[U2]at b;exact Ix d (fun l b=>c l (g l b)) (f:=fun i=>C2 (G9 n a) i) (fun l b=>Iy d c (g l b)) i h (by omega)
def wo (ls:List Ln) (g:Nat->Bool) (k:Nat):List Ln:=((List.range k).filter fun i=> !(g i)).map fun i=>ls.getD i (0,0)
def B5m (ls:List Ln) (g:Nat->Bool):wo ls g ls.length=FC ls g:=rfl
def B9q (ls:List Ln) (g:Nat->Bool) (k:Nat):wo ls g (k+1)=if g k=true then wo ls g k else wo ls g k++ [ls.getD k (0,0)]:=by
 unfold wo;rw[wH,wL,uF];cases h:g k<;>simp[h]
def B5n {ls:List Ln} {g:Nat->Bool} {k:Nat} {l:Ln} :l∈wo ls g k↔∃i,i<k/\g i=false/\ls.getD i (0,0)=l:=by
 unfold wo;simp only[sQ,uG,uI,rO];constructor
 . rintro⟨i,⟨a,b⟩,c⟩;exact⟨i,a,b,c⟩
 . rintro⟨i,a,b,c⟩;exact⟨i,⟨a,b⟩,c⟩
def A1j {ls:List Ln} {i:Nat} (h:i<ls.length):ls.getD i (0,0)∈ls:=by
 rw[qF,qP h];exact wO h
def C2j {ls:List Ln} {l:Ln} (h:l∈ls):∃i,i<ls.length/\ls.getD i (0,0)=l:=by
 obtain⟨i,a,b⟩:=uB.1 h;exact⟨i,a,by rw[qF,qP a];exact b⟩
def C3r {ls:List Ln} {g:Nat->Bool} {k:Nat} (a:k<=ls.length):∀l∈wo ls g k,l∈ls:=fun l a=>by
 obtain⟨i,b,_,rfl⟩:=B5n.1 a;exact A1j (by omega)
def C7m {n:Int} {ls:List Ln} {g:Nat->Bool} {k:Nat} (h:En n ls) (a:k<=ls.length):En n (wo ls g k):=⟨h.1,h.2.1,fun l b=>h.2.2 l (C3r a l b)⟩
def cH {ls:List Ln} {g a:Nat->Bool} (h:∀i,i<ls.length->g i=a i):FC ls g=FC ls a:=by
 unfold FC;rw[List.filter_congr fun i a=>by rw[h i (uI.1 a)]]
def B7f {n:Int} {L:List Int} {l:Ln} (b:0<=n) (a:L.length=n.toNat) (h:KY n l):KY (L.length:Int) l:=by
 rw[a,show((n.toNat:Nat):Int)=n from by omega];exact h
def JD:List Int->Int
 | []=>0
 |a::r=>a+JD r
def ZF:∀ {l:List Int} {k:Nat} {v:Int},k<l.length->JD (l.set k v)=JD l-l.getD k 0+v
 | [],_,_,h=>by simp at h
 |a::r,0,v,_=>by simp[JD];omega
 |a::r,k+1,v,h=>by
  have:=ZF (l:=r) (k:=k) (v:=v) (by simpa using h);simp only[g3t,JD,this,List.getD_cons_succ];omega
def RQ:∀ {l:List Int},(∀x∈l,0<=x)->0<=JD l
 | [],_=>qI _
 |a::r,h=>by
  have b:=h a (by simp);have b:=RQ (l:=r) fun x hx=>h x (by simp[hx])
  simp only[JD];omega
def B7r {L:List Int} {x:Int} (h:x∈L):∃i:Int,0<=i/\i<(L.length:Int)/\C2 L i=x:=by
 obtain⟨i,b,a⟩:=uB.1 h;refine⟨i,by omega,by omega, ?_⟩;have:=Lt (L:=L) (i:=(i:Int)) (by omega) (by omega);rw[qJ,qP b,a]at this;exact(wY this).symm
def iU {A B:List Int} (a:A.length=B.length) (h:∀i:Int,0<=i->i<(A.length:Int)->C2 A i=C2 B i):A=B:=by
 apply vO;intro j;by_cases a:j<A.length
 . have a:=Lt (L:=A) (i:=(j:Int)) (by omega) (by omega);have b:=Lt (L:=B) (i:=(j:Int)) (by omega) (by omega);rw[qJ]at a b;rw[a,b,h j (by omega) (by omega)]
 . rw[rR (by omega),rR (by omega)]
def nH {n:Int} {ls:List Ln} (c:0<=n) (a:∀l∈ls,KY n l) {L:List Int} (b:L.length=n.toNat) (g:∀i:Int,0<=i->i<n->0<=C2 L i/\C2 L i<=i/\C2 (G9 n ls) (C2 L i)=C2 (G9 n ls) i) (h:∀l∈ls,C2 L l.1=C2 L l.2):L=G9 n ls:=by
 refine iU (by rw[b,U2]) fun i d k=> ?_
 rw[b]at k;have b:=Se c a;have k:=U2 n ls;obtain⟨k,r,o⟩:=b i d (by omega);have r:=Ix c a (f:=fun j=>C2 L j) h i d (by omega);obtain⟨a,d,c⟩:=g _ k (by omega);obtain⟨_,d,_⟩:=b (C2 L (C2 (G9 n ls) i)) a (by omega);rw[o]at c;omega
def nK (ls:List Ln) (e:Int):Ln:=ls.getD e.toNat (0,0)
def nD (l:Ln) (u v:Int):Prop:=l=(u,v)\/l=(v,u)
def TS (up:List Ln) (b:Int):Ln:=up.getD b.toNat (0,0)
def C7k (n:Int) (ls:List Ln) (a:List Int) (up:List Ln) (k:Nat) (b:Int):Prop:=
 0<=b/\b<n/\((TS up b=(-1,b)/\C2 (G9 n ls) b=b)\/((TS up b).1∈ED n ls/\nD (nK ls (TS up b).1) b (TS up b).2/\∃j,j<k/\a[j]? =some (TS up b).2))
structure C2y (n:Int) (ls:List Ln) (order:List Int) (up:List Ln):Prop where
 len:order.length=n.toNat
 nod:order.Nodup
 all:∀b,0<=b->b<n->b∈order
 ulen:up.length=n.toNat
 at':∀(k:Nat) (b:Int),order[k]? =some b->C7k n ls order up k b
def EQ {c:Type} [DecidableEq c]:∀ {a b:List c},a.Nodup->(∀x∈a,x∈b)->a.length<=b.length
 | [],_,_,_=>rK _
 |x::a,b,c,d=>by
  rw[sB]at c;have f:∀y∈a,y∈b.erase x:=fun y hy=>(yU fun e=>c.1 (by rw[<-e];exact hy)).2 (d y (by simp[hy]))
  have g:=EQ c.2 f;rw[xV (d x (by simp))]at g;have:=yB (d x (by simp));simp only[rE];omega
def pick (ls:List Ln) (f:List Int):List Ln:=f.map fun e=>nK ls e
def QE {n:Int} {ls:List Ln} :∀ {k:Nat} {e:Int},e∈(oV n ls k).2.1->0<=e/\e<(k:Int)
 |0,e,h=>by simp[oV]at h
 |k+1,e,h=>by
  simp only[oV]at h;split at h
  . have:=QE h;omega
  . rcases qY.1 h with h|h
    . have:=QE h;omega
    . rw[qO]at h;omega
def A0z {n:Int} {ls:List Ln} {e:Int} (h:e∈ED n ls):0<=e/\e<(ls.length:Int):=QE h
def iX {ls:List Ln} {e:Int} (a:0<=e) (b:e<(ls.length:Int)):nK ls e∈ls:=A1j (by omega)
def B2i {n:Int} {ls:List Ln} (c:En n ls) {e u v:Int} (a:e∈ED n ls) (h:nD (nK ls e) u v):0<=v/\v<n/\0<=u/\u<n:=by
 have b:=A0z a;have a:=c.2.2 _ (iX b.1 b.2);unfold KY at a;rcases h with h|h<;>rw[h]at a<;>simp only at a<;>omega
structure Bfs (n:Int) (ls:List Ln) (order:List Int) (up:List Ln) (seen:List Bool):Prop where
 slen:seen.length=n.toNat
 ulen:up.length=n.toNat
 nod:order.Nodup
 mem:∀b,0<=b->b<n->(seen.getD b.toNat false=true↔b∈order)
 at':∀(k:Nat) (b:Int),order[k]? =some b->C7k n ls order up k b
def Bfs.len {n:Int} {ls:List Ln} {a:List Int} {up:List Ln} {seen:List Bool} (h:Bfs n ls a up seen):a.length<=n.toNat:=by
 have c:∀b∈a,b∈WT n:=fun b hb=>by
  obtain⟨k,a⟩:=g2o.1 hb;obtain⟨d,c,_⟩:=h.at' k b a;unfold WT;rw[sQ];exact⟨b.toNat,by rw[uI];omega,by show((b.toNat:Nat):Int)=b;omega⟩
 have:=EQ h.nod c;rw[Fq]at this;exact this
def B4p {s:List Bool} {v b:Int} (v0:0<=v) (b0:0<=b) (a:v<(s.length:Int)):(s.set v.toNat true).getD b.toNat false=if b=v then true else s.getD b.toNat false:=by
 simp only[qF,wC];by_cases h:b=v
 . subst h;rw[qQ rfl,qQ (by omega),qQ rfl];rfl
 . rw[qK h,qK (by omega)]
def A5o {up:List Ln} {v b:Int} {l:Ln} (v0:0<=v) (b0:0<=b) (a:v<(up.length:Int)):TS (up.set v.toNat l) b=if b=v then l else TS up b:=by
 unfold TS;simp only[qF,wC];by_cases h:b=v
 . subst h;rw[qQ rfl,qQ (by omega),qQ rfl];rfl
 . rw[qK h,qK (by omega)]
def Bfs.add {n:Int} {ls:List Ln} {b:List Int} {up:List Ln} {seen:List Bool} (h:Bfs n ls b up seen) {v:Int} {l:Ln} (v0:0<=v) (v1:v<n) (t:v∉b)
 (r:(l=(-1,v)/\C2 (G9 n ls) v=v)\/(l.1∈ED n ls/\nD (nK ls l.1) v l.2/\l.2∈b)):Bfs n ls (b++ [v]) (up.set v.toNat l) (seen.set v.toNat true):=by
 have a:=h.slen;have d:=h.ulen;have u:v<(up.length:Int):=by omega
 refine⟨by rw[qM];exact a,by rw[qM];exact d, ?_,fun f g i=> ?_,fun s f a=> ?_⟩
 . rw[sW];exact⟨h.nod,by simp,fun k j f d=>by rw[qO]at d;subst d;exact fun e=>t (e▸j)⟩
 . rw[B4p v0 g (by omega),qY,qO];by_cases e:f=v
   . rw[qQ e];exact⟨fun _=> .inr e,fun _=>rfl⟩
   . rw[qK e,h.mem f g i];exact⟨.inl,fun o=>o.resolve_right e⟩
 . have grow:∀j c,b[j]? =some c->(b++ [v])[j]? =some c:=fun j c d=>by
    rw[uO (rU.1 d).1];exact d
   by_cases k:s<b.length
   . rw[uO k]at a;obtain⟨g,i,k⟩:=h.at' s f a;have w:f≠v:=fun e=>t (e▸sO a)
     refine⟨g,i, ?_⟩;rw[A5o v0 g u,qK w];rcases k with k| ⟨f,g,j,d,i⟩
     . exact .inl k
     . exact .inr ⟨f,g,j,d,grow j _ i⟩
   . rw[tX (by omega)]at a;have i:s-b.length=0:=by
      obtain⟨o,_⟩:=rU.1 a;simp at o;clear a h;omega
     rw[i]at a;simp at a;subst a;refine⟨v0,v1, ?_⟩;rw[A5o v0 v0 u,qQ rfl];rcases r with r| ⟨f,g,a⟩
     . exact .inl r
     . obtain⟨j,d⟩:=g2o.1 a;exact .inr ⟨f,g,j,by have:=(rU.1 d).1;omega,grow j _ d⟩
def C0o (N:List (List Ln)) (a:List Int) (k:Nat):Prop:=∀(j:Nat) (b:Int),j<k->a[j]? =some b->∀w∈N.getD b.toNat [],w.2∈a
def C0o.grow {N:List (List Ln)} {a:List Int} {k:Nat} (h:C0o N a k) (b:k<=a.length) (v:Int):C0o N (a++ [v]) k:=fun j b c a w d=>by
 rw[uO (by omega)]at a;exact qY.2 (.inl (h j b c a w d))
def Bfs.done {n:Int} {ls:List Ln} {a:List Int} {up:List Ln} {seen:List Bool} (h:Bfs n ls a up seen) (c:∀b,0<=b->b<n->b∈a):C2y n ls a up:=by
 refine⟨?_,h.nod,c,h.ulen,h.at'⟩;have d:=h.len;have d:(WT n).length<=a.length:=EQ (by
  unfold WT;exact List.Pairwise.map _ (fun a b f e=>f (g0f e)) List.nodup_range) fun b a=>by
   unfold WT at a;rw[sQ]at a;obtain⟨i,f,rfl⟩:=a;rw[uI]at f;exact c _ (qD i) (show(i:Int)<n by omega)
 rw[Fq]at d;omega
def kL (ls:List Ln) (e:Int):List Ln:=FC ls (fun j=>j==e.toNat)
def US {ls:List Ln} {e:Int} {l:Ln} :l∈kL ls e↔∃i,i<ls.length/\i≠e.toNat/\ls.getD i (0,0)=l:=by
 unfold kL;rw[<-B5m,B5n];constructor
 . rintro⟨i,a,b,c⟩;exact⟨i,a,by simpa using b,c⟩
 . rintro⟨i,a,b,c⟩;exact⟨i,a,by simpa using b,c⟩
def kF {ls:List Ln} {e:Int} :∀l∈kL ls e,l∈ls:=fun l b=>by
 obtain⟨i,a,_,rfl⟩:=US.1 b;exact A1j a
def B5l {ls:List Ln} {e d:Int} (c:0<=e) (a:0<=d) (b:d<(ls.length:Int)) (h:d≠e):nK ls d∈kL ls e:=US.2 ⟨d.toNat,by omega,by omega,rfl⟩
def B8s {n:Int} {ls:List Ln} {i:Nat} :kK n ls (fun j=>j==i)=true↔cnt (G9 n ls)<cnt (G9 n (kL ls (i:Int))):=by
 unfold kK kL;rw[qJ,rS]
def A3e {n:Int} {ls:List Ln} (b:En n ls) (e:Int):∀l∈kL ls e,KY n l:=fun l a=>b.2.2 l (kF l a)
def B2o {n:Int} {ls:List Ln} (a:En n ls) {e:Int} (b:0<=e) (h:C2 (G9 n (kL ls e)) (nK ls e).1=C2 (G9 n (kL ls e)) (nK ls e).2):G9 n (kL ls e)=G9 n ls:=by
 have b:=A3e a e;refine A6f (Se a.1 b) (Se a.1 a.2.2) (nG a.1 a.2.2 kF) ⟨by rw[U2,U2],fun i d c=> ?_⟩;rw[U2]at c;refine Ix a.1 a.2.2 (f:=fun i=>C2 (G9 n (kL ls e)) i) (fun l c=> ?_) i d (by omega);obtain⟨j,d,rfl⟩:=C2j c;by_cases c:j=e.toNat
 . subst c;exact h
 . exact Iy a.1 b (US.2 ⟨j,d,c,rfl⟩)
structure B6d (n:Int) (ls:List Ln) (up:List Ln) (dep:List Int):Prop where
 ulen:up.length=n.toNat
 dlen:dep.length=n.toNat
 at':∀v,0<=v->v<n->0<=C2 dep v/\((TS up v=(-1,v)/\C2 (G9 n ls) v=v/\C2 dep v=0)\/((TS up v).1∈ED n ls/\nD (nK ls (TS up v).1) v (TS up v).2/\C2 dep v=C2 dep (TS up v).2+1))
section
variable {n:Int} {ls:List Ln} {up:List Ln} {dep:List Int}
def B6d.up_in (g:En n ls) (h:B6d n ls up dep) {v:Int} (v0:0<=v) (v1:v<n) (c:0<=(TS up v).1):(TS up v).1∈ED n ls/\nD (nK ls (TS up v).1) v (TS up v).2/\C2 dep v=C2 dep (TS up v).2+1/\0<=(TS up v).2/\(TS up v).2<n:=by
 rcases(h.at' v v0 v1).2 with⟨a,_⟩ | ⟨a,b,f⟩
 . rw[a]at c;simp at c
 . obtain⟨c,d,_⟩:=B2i g a b;exact⟨a,b,f,c,d⟩
def B6d.inj (c:En n ls) (h:B6d n ls up dep) {v w:Int} (v0:0<=v) (v1:v<n) (i:0<=w) (j:w<n) (g:0<=(TS up v).1) (b:(TS up v).1=(TS up w).1):v=w:=by
 obtain⟨a,a2,d,_⟩:=h.up_in c v0 v1 g;obtain⟨k,a,f,_⟩:=h.up_in c i j (b▸g);rw[b]at a2;rcases a2 with a2|a2<;>rcases a with a|a
 . exact(g3c (a2.symm.trans a)).1
 . obtain⟨b,c⟩:=g3c (a2.symm.trans a);rw[c]at d;rw[<-b]at f;omega
 . obtain⟨b,c⟩:=g3c (a2.symm.trans a);rw[b]at d;rw[<-c]at f;omega
 . exact(g3c (a2.symm.trans a)).2
def Con (n:Int) (up:List Ln) (M:Int->Prop) (f:Int->Int):Prop:=∀w,0<=w->w<n->M w->f w=f (TS up w).2
def Mv (top:List Int) (w:Int):Prop:=C2 top w≠w
structure C0p (n:Int) (up:List Ln) (dep top:List Int):Prop where
 len:top.length=n.toNat
 rng:∀v,0<=v->v<n->0<=C2 top v/\C2 top v<n
 dec:∀v,0<=v->v<n->Mv top v->0<=(TS up v).1/\C2 dep (C2 top v)<C2 dep v
 con:∀f,Con n up (Mv top) f->∀v,0<=v->v<n->f (C2 top v)=f v
def C0p.halve {top:List Int} (h:C0p n up dep top) {c:Int} (i:0<=c) (c1:c<n) (f:Mv top c):C0p n up dep (top.set c.toNat (C2 top (C2 top c)))/\∀v,0<=v->v<n->(Mv (top.set c.toNat (C2 top (C2 top c))) v↔Mv top v):=by
 have g:c.toNat<top.length:=by rw[h.len];omega
 obtain⟨k,l⟩:=h.rng c i c1;obtain⟨t,u⟩:=h.rng _ k l;obtain⟨b,a⟩:=h.dec c i c1 f;have o:C2 dep (C2 top (C2 top c))<C2 dep c:=by
  by_cases d:Mv top (C2 top c)
  . have:=(h.dec _ k l d).2;omega
  . unfold Mv at d;rw[show C2 top (C2 top c)=C2 top c from uQ.1 d];exact a
 have j:∀v,0<=v->v<n->(Mv (top.set c.toNat (C2 top (C2 top c))) v↔Mv top v):=fun v a b=>by
  unfold Mv;rw[W1 g];by_cases e:v.toNat=c.toNat
  . have r:v=c:=by omega
    subst r;rw[qQ rfl];refine⟨fun _=>f,fun _ e=> ?_⟩;rw[e]at o;omega
  . rw[qK e]
 refine⟨⟨by rw[qM];exact h.len,fun v a b=> ?_,fun v a b d=> ?_,fun f s v a b=> ?_⟩,j⟩
 . rw[W1 g];split
   . exact⟨t,u⟩
   . exact h.rng v a b
 . have r:=(j v a b).1 d;refine⟨(h.dec v a b r).1, ?_⟩;rw[W1 g];split
   . rename_i e;rw[show v=c from by omega];exact o
   . exact(h.dec v a b r).2
 . have d:Con n up (Mv top) f:=fun w w0 w1 hw=>s w w0 w1 ((j w w0 w1).2 hw)
   rw[W1 g];split
   . rename_i e;rw[show v=c from by omega,h.con f d _ k l,h.con f d c i c1]
   . exact h.con f d v a b
def Con.sub {M M':Int->Prop} {f:Int->Int} (h:Con n up M' f) (c:∀v,0<=v->v<n->M v->M' v):Con n up M f:=fun w a b d=>h w a b (c w a b d)
def B0n {A B:List Int} (a:A.length=B.length) (g:∀b,0<=b->b<(B.length:Int)->C2 A b=b->C2 B b=b) {b:Int} (b0:0<=b) (f:b<(B.length:Int)) (c:C2 A b≠b) (d:C2 B b=b):cnt A<cnt B:=by
 rw[A0r,A0r,a];have f:(b.toNat::(List.range B.length).filter fun(b:Nat)=>decide (C2 A (b:Int)=(b:Int))).Nodup:=by
  rw[sB];refine⟨fun a=> ?_,List.nodup_range.filter _⟩;rw[uG]at a;have:=qA a.2;rw[show((b.toNat:Nat):Int)=b from by omega]at this;exact c this
 have:=EQ (b:=(List.range B.length).filter fun(b:Nat)=>decide (C2 B (b:Int)=(b:Int))) f fun x a=>by
  rw[uG,uI];rcases qG.1 a with rfl|a
  . refine⟨by omega,rG ?_⟩;rw[show((b.toNat:Nat):Int)=b from by omega];exact d
  . rw[uG,uI]at a;exact⟨a.1,rG (g x (by omega) (by omega) (qA a.2))⟩
 simp only[rE]at this;omega
end
end Go.Proofs.YtiflhbllbgajeaaGreat
namespace Go.Vc
open Go Go.RowKit Go.Gw
def O2 (o:Oper):List Nat:=(o.after.toList.filter fun e=>Region.binds .any e).map (·.on)
def A5n {c:Type} [DecidableEq c]:∀ {a b:List c},a.Nodup->(∀x∈a,x∈b)->a.length<=b.length
 | [],_,_,_=>rK _
 |x::a,b,c,h=>by
  obtain⟨d,f⟩:=sB.1 c;have c:=h x (rB);have:=A5n (a:=a) (b:=b.erase x) f fun y hy=>(yU (fun e=>d (by rw[<-e];exact hy))).2 (h y (qL _ hy))
  rw[xV c]at this;have:=yB c;rw[rE];omega
def OP {l:Array Bool} {j:Nat} (c:j<l.size) (a b:Bool):l.getD j a=l.getD j b:=by
 simp only[uT,tZ c,vC]
def B6h {P:Program} {n:Nat} {all:List Oper} {Q:Exit->G2->World->Prop} (v:cZ n all=true) (u:∀i o,all[i]? =some o->∀j∈O2 o,j<i) {Inv:List Nat->G2->World->Prop}
 (A:∀(L:List Nat) (i:Nat) (o:Oper) (E:G2) (w:World),all[i]? =some o->i∉L->(∀j∈O2 o,j∈L)->Inv L E w->I5 P all o (Inv (i::L)) E w)
 (l:∀(L:List Nat) (E:G2) (w:World),(∀i,i<all.length->i∈L)->Inv L E w->Q .normal E w):
 ∀(f:Nat) (listed:Array Bool) (L:List Nat) (a:Act) (E:G2) (w:World),listed.size=all.length->(∀i,i∈L↔listed.getD i false=true)->L.Nodup->L.length+f=all.length->Gw.C5 n a E->Inv L E w->wpAny P .any all.toArray (FU n Q) f listed a w:=by
 have s:∀ {listed:Array Bool} {L:List Nat},listed.size=all.length->(∀i,i∈L↔listed.getD i false=true)->∀i∈L,i<all.length:=fun {listed L} g c i d=>by
  have h:=(c i).1 d;rw[<-g];refine qV fun k=> ?_
  rw[uT,zR (by omega)]at h;cases h
 intro f
 induction f with
 |zero=>
  intro listed L a E w g c y h z r;have k:∀i,i<all.length->i∈L:=fun i d=>qV fun t=>by
   have:=A5n (a:=i::L) (b:=List.range all.length) (sB.2 ⟨t,y⟩) fun x h=>by
    rcases qG.1 h with rfl|h
    . exact uI.2 d
    . exact uI.2 (s g c x h)
   rw[rE,xN]at this;omega
  refine⟨List.eq_nil_iff_forall_not_mem.2 fun j s=> ?_,E,z,l L E w k r⟩;obtain⟨h,o,r,_⟩:=mem_ready.1 s;rw[vR]at r;have s:=(rU.1 r).1;have:=(c j).1 (k j s);rw[OP (by omega) true false,this]at h;cases h
 |succ f z=>
  intro listed L a E w g c y f t s;refine⟨fun h=>⟨E,t,l L E w (fun i=> ?_) s⟩,fun i d=> ?_⟩
  . induction i using Nat.strongRecOn with
    | _ i r=>
     intro d;refine qV fun f=> ?_
     have:i∈Region.ready .any all.toArray listed:=mem_ready.2 ⟨?_,all[i],by rw[vR,qP d],fun e l hb=> ?_⟩
     . rw[h]at this;cases this
     . cases h:listed.getD i true with
       |false=>rfl
       |true=>exact absurd ((c i).2 (by rw[OP (by omega) false true];exact h)) f
     . have k:e.on∈O2 all[i]:=sQ.2 ⟨e,uG.2 ⟨g2q.2 l,hb⟩,rfl⟩;have h:=u i _ (qP d) _ k;exact(c _).1 (r _ h (by omega))
  . obtain⟨r,o,h,k⟩:=mem_ready.1 d;rw[vR]at h;have d:=(rU.1 h).1;have d:i∉L:=fun f=>by
     have:=(c i).1 f;rw[OP (by omega) true false,this]at r;cases r
    refine Wg v h (fun r E' B u f=>z _ (i::L) r E' B (by rw[Array.size_setIfInBounds];exact g) (fun j=> ?_) (sB.2 ⟨d,y⟩) (by rw[rE];omega) u f) t (A L i o E w h d (fun j g=> ?_) s)
    . by_cases d:j=i
      . subst d;simp only[qG,true_or,true_iff,uT];rw[Array.getElem?_setIfInBounds_self_of_lt (by omega)];rfl
      . rw[getD_set_ne false (Ne.symm d), <-c j,qG];exact⟨fun h=>h.resolve_left d, .inr⟩
    . obtain⟨e,l,rfl⟩:=sQ.1 g;obtain⟨d,f⟩:=uG.1 l;exact(c _).2 (k e (g2q.1 d) f)
section
variable {za:Zn} {w0:World} {cx:Cx} {sp:H2} {an:An} {n:Nat}
def B7.look {b:St} {E:G2} {w:World} {Z:Nat->Prop} {B:Nat->Value} (h:B7 za w0 b E w Z B) {a:St} (g:∀s,a.S s=b.S s\/a.S s= .dead) (c:∀k,a.L k=b.L k) (f:a.nm=b.nm) (l:a.nm<=a.nx) (d:a.fr= []) (i:b.fr= [])
 (o:∀s,Oo a.nx (a.S s)) (j:∀k,Lw a.nx (a.L k)) (n:∀k,a.nx<=k->a.L k= .none):B7 za w0 a E w Z B:=
 ⟨h.ext,h.zlt,fun s=>by
  rcases g s with e|e
  . rw[e];exact h.slots s
  . rw[e];trivial,fun k=>by rw[c];exact h.locs k,fun k a b=>by rw[c,c];exact h.disj k a b,o,j,n,h.bone,h.zin,⟨f.trans h.nms.1,by rw[<-h.nms.1, <-f];exact l⟩,h.bfix,⟨h.mrk.1,fun k b f a=>by rw[c]at a;exact h.mrk.2 k b f a⟩,by
  have:=h.frs;rw[i]at this;rw[d];exact this,fun f a=>by rw[d]at a;cases a⟩
def B4r {P:Program} {a b:Code} {c:St->Prop} {Q:Exit->G2->World->Prop} {E:G2} {w:World} (f:Gw.Wp P n a (post za w0 ⟨c,fun _ _=>False,fun _=>False⟩) E w) (h:∀d E w Z B,B7 za w0 d E w Z B->c d->Gw.Wp P n b Q E w):Gw.Wp P n (.seq a b) Q E w:=by
 intro c d g;simp only[X8,qC]at c;refine wp_seq (wp_mono (f c.1 d g) ?_);rintro e f k ⟨E',i,j,Z',B',g,d⟩;cases e with
 |normal=>exact h _ _ _ _ _ g d c.2 f i
 | _=>exact d.elim
def B8i {P:Program} {id:Nat} {ops:Array Oper} {Q:Exit->G2->World->Prop} {E:G2} {w:World} (g:P.follows .mixedOrders=true) (f:∀i o,ops.toList[i]? =some o->∀j∈O2 o,j<i) {Inv:List Nat->G2->World->Prop}
 (l:∀(L:List Nat) (i:Nat) (o:Oper) (E:G2) (w:World),ops.toList[i]? =some o->i∉L->(∀j∈O2 o,j∈L)->Inv L E w->I5 P ops.toList o (Inv (i::L)) E w)
 (d:∀(L:List Nat) (E:G2) (w:World),(∀i,i<ops.toList.length->i∈L)->Inv L E w->Q .normal E w) (c:Inv [] E w.drew):Gw.Wp P n (.region id ops true) Q E w:=by
 intro a b k;simp only[X8]at a;have h:ops=ops.toList.toArray:=by simp
 rw[h];refine wp_region_any g ?_;have:=B6h (P:=P) a f l d ops.toList.length (Array.replicate ops.toList.length false) [] b E w.drew (by simp) (fun i=> ?_) xX (by simp) k c
 . simpa using this
 . simp only[rZ,false_iff,uT,xT];split<;>simp
end
def hd1 (a:St) (d:Nat) (v:DV):St:=⟨(d,0,v)::a.sl,a.lc,a.nx,a.ct,a.nm,a.fr⟩
def hdL (a:St) (k:Nat) (l:LC):St:=⟨a.sl,(k,0,l)::a.lc,a.nx,a.ct,a.nm,a.fr⟩
def GV (a:St) (d s:Nat) (v:DV):(hd1 a d v).S s=if s=d then v else a.S s:=by
 show(find (0, .dead) s ((d,0,v)::a.sl)).2= _;simp only[find];by_cases h:s=d
 . subst h;simp
 . rw[D1 (Ne.symm h),qK h];rfl
def A3j (a:St) (k q:Nat) (l:LC):(hdL a k l).L q=if q=k then l else a.L q:=by
 show(find (0, .none) q ((k,0,l)::a.lc)).2= _;simp only[find];by_cases h:q=k
 . subst h;simp
 . rw[D1 (Ne.symm h),qK h];rfl
def B3j {n k:Nat} (a:n<=k):∀ {c:C},Cr n c->bG k c=false
 | .row j,h=>D1 (tT (rC h a))
 | .mp j,h=>D1 (tT (rC h a))
 | .win j _ _ _,h=>D1 (tT (rC h a))
 | .box _ _,_=>rfl
 | .elp _ _ _ _,_=>rfl
 | .val _ _,_=>rfl
 | .pf _ _ _,_=>rfl
 | .fn _ _,_=>rfl
 | .fv _ _ _ _ _ _,_=>rfl
 | .raw _,_=>rfl
 | .dead,_=>rfl
def A1s {n k:Nat} (b:n<=k) {s:SV} (h:Lx n s):s.cs.any (bG k)=false:=by
 rw[wU];intro c a;rw[B3j b (h c a)];simp
def C2n {n k:Nat} (a:n<=k):∀ {d:DV},Oo n d->Wu k d=false
 | .one s,h=>A1s a h
 | .cnd _ _ s,h=>A1s a h
 | .dead,_=>rfl
 | .tup b,h=>by
  show b.any _=false;rw[wU];intro s b;rw[A1s a (h s b)];simp
def C2o {n k:Nat} (b:n<=k):∀ {l:LC},Lw n l->WQ k l=false
 | .box _ a,h=>by
  show a.any _=false;rw[wU];intro c a;rw[B3j b (h c a)];simp
 | .none,_=>rfl
 | .row _ _ _,_=>rfl
 | .map _ _ _ _ _,_=>rfl
 | .rows _ _ _ _ _ _,_=>rfl
 | .al _,_=>rfl
 | .sbox _ _ _,_=>rfl
 | .mapE _ _ _ _ _ _ _,_=>rfl
 | .iter _ _ _ _ _ _,_=>rfl
 | .nest _ _ _ _ _ _,_=>rfl
 | .itM _ _ _ _ _ _ _ _,_=>rfl
section
variable {za:Zn} {w0:World} {st:St} {E:G2} {w:World} {Z:Nat->Prop} {B:Nat->Value}
def B7.hd1 (h:B7 za w0 st E w Z B) {d:Nat} {v:DV} (a:st.S d=v):B7 za w0 (hd1 st d v) E w Z B:=by
 have e:∀s,(Vc.hd1 st d v).S s=st.S s:=fun s=>by
  rw[GV];split
  . rename_i h;subst h;exact a.symm
  . rfl
 exact⟨h.ext,h.zlt,fun s=>by rw[e];exact h.slots s,h.locs,h.disj,fun s=>by rw[e];exact h.refs s,h.refl,h.fresh,h.bone,h.zin,h.nms,h.bfix,h.mrk,h.frs,h.frf⟩
def B7.hdL (h:B7 za w0 st E w Z B) {k:Nat} {l:LC} (c:st.L k=l):B7 za w0 (hdL st k l) E w Z B:=by
 have e:∀s,(Vc.hdL st k l).L s=st.L s:=fun s=>by
  rw[A3j];split
  . rename_i h;subst h;exact c.symm
  . rfl
 exact⟨h.ext,h.zlt,h.slots,fun s=>by rw[e];exact h.locs s,fun a b d=>by rw[e,e];exact h.disj a b d,h.refs,fun s=>by rw[e];exact h.refl s,fun s c=>by rw[e];exact h.fresh s c,h.bone,h.zin,h.nms,h.bfix,⟨h.mrk.1,fun a b f d=>by rw[e]at d;exact h.mrk.2 a b f d⟩,h.frs,h.frf⟩
def B7.unrow {d:Nat} {t:Ty} {e:TypeId} {l:List t.den} (h:B7 za w0 (rowS st d t e l) E w Z B) (i:st.nm<=st.nx) (c:st.fr= []) (j:∀s,Oo st.nx (st.S s)) (g:∀k,Lw st.nx (st.L k)) (f:∀k,st.nx<=k->st.L k= .none) (a:∀s,Mo d (st.S s)=false):
 ∃Z',B7 za w0 (Vc.hd1 st d (.one ⟨false,[.val (.sl t) l]⟩)) E w Z' B:=by
 obtain⟨Z',b⟩:=h.settle [.row st.nx];have n:(rowS st d t e l).L st.nx= .row t e l:=by
  show((st.newL (.row t e l)).setS d (one1 (.row st.nx))).L st.nx= _;rw[St.L_setS,St.L_newL,qQ rfl]
 have o:(rowS st d t e l).nm=st.nm:=rfl;simp only[Vc.settle,n,o,Nat.ble_eq_true_of_le i,qT]at b;refine⟨Z',b.look (fun s=> .inl ?_) (fun k=> ?_) rfl i c ?_ (fun s=> ?_) g f⟩
 . rw[GV,St.S_freeze];show _=FQ st.nx _ (((st.newL (.row t e l)).setS d (one1 (.row st.nx))).S s);rw[St.S_setS,St.S_newL];by_cases b:s=d
   . subst b;rw[qQ rfl,qQ rfl];simp[FQ,iC,one1,AE]
   . rw[qK b,qK b,a s];simp only[rF];rw[OQ (C2n (qZ _) (j s))]
 . rw[St.L_freeze];show st.L k=gZ st.nx _ (if k=st.nx then LC.none else(st.newL (.row t e l)).L k);rw[St.L_newL];by_cases b:k=st.nx
   . subst b;rw[qQ rfl,f _ (qZ _)];rfl
   . rw[qK b,qK b,dJ (C2o (qZ _) (g k))]
 . show(rowS st d t e l).fr.map _= [];show st.fr.map _= [];rw[c];rfl
 . rw[GV];split
   . intro c a;simp only[qO]at a;subst a;trivial
   . exact j s
end
section
variable {za:Zn} {w0:World} {cx:Cx} {sp:H2} {an:An} {n:Nat}
def A7i {f:FuncId} {fn:Func} {c:Code} {s:A6} (d:cx.P.funcs[f]? =some fn) (a:fn.body=some c) (g:s.args.length<=fn.ntmps) (h:X8 fn.ntmps c=true) (T:H5 cx.P cx.tys=true)
 (J:∀x,awf s.args x->s.pre x->∀(za:Zn) (w0:World) (E:G2) (w:World) (Z:Nat->Prop) (B:Nat->Value),za.b0=0->B7 za w0 (WW cx.P s.args x) E w Z B->Gw.Wp cx.P fn.ntmps c (post za w0 ⟨fin cx s fn.results.toList x,fun _ _=>False,fin cx s fn.results.toList x⟩) E w):A8 cx.P f s:=by
 intro w Z i x l A b O;have r:i.length=s.args.length:=A.len;generalize k:zn0 w Z s.args i=za;have D:=A4c l A b;rw[k]at D;refine Zs d a (by rw[r];exact g) h (fun E l=>Nx za w (fin cx s fn.results.toList x) E l) ?_ ⟨fun N H z=> ?_⟩
 . rintro E l o R ⟨b,Z',B',y,h⟩;unfold fin at h;split at h
   . rename_i ss b;split at h
     . rename_i b Q;split at h
       . rename_i t G z M;obtain⟨g,b⟩:=B4 h;simp only[qC]at g;obtain⟨Z0,d⟩:=B7.settleR (rs:=s.res) (ss:=ss) y;obtain⟨Z1,n⟩:=B7.settleM (as:=s.args) (j:=0) d;obtain⟨v,F,I⟩:=BE T n R Q;have Q:(results fn o).run cx.P l= .ok (Wy v) l:=by
          have d:(fn.results.mapM (bE o)).run cx.P l= .ok v.toArray l:=by
           rw[xH];simp[F]
          have e:results fn o=(do let i<-fn.results.mapM (bE o);pure (if y:i.size=1 then i[0]else .tuple i)):=by
           unfold results;congr 1
          rw[e];simp only[Sem.run_bind,d,Result.andThen_ok,Sem.run_pure]
          match v with
          | []=>rfl
          | [u]=>rfl
          |u::o::t=>rfl
         have F:s.post x t/\(N4 s.args=true->s.mpost x t G):=by
          unfold C1s at b;cases d:N4 s.args with
          |true=>simp only[d,qT]at b;exact⟨b.1,fun _=>b.2⟩
          |false=>simp only[d,rF]at b;exact⟨b,fun o=>by cases o⟩
         refine⟨_,Q, ?_,t,G,v,(fun b=>s.shared=true/\Z1 b),F.1,F.2,rfl,fun b a=> ?_, ?_, ?_⟩
         . have:=y.ext;rw[<-k]at this;exact this
         . rcases n.zin b a.2 with o|o
           . rw[<-k]at o;exact .inr ⟨a.1,o⟩
           . exact .inl ⟨o,n.zlt b a.2⟩
         . refine(Na n (Zn:=fun b=>s.shared=true/\Z1 b) (fun b a=>a.2) ?_ I z (Gg g.1.1) g.1.2).1;cases t:s.shared with
           |true=>exact .inl fun b a=>⟨rfl,a⟩
           |false=>rw[t]at g;simp only[vZ,qC]at g;exact .inr g.2.1
         . refine Vf (Zn:=fun b=>s.shared=true/\Z1 b) n (j:=0) ?_ (fun m u d=> ?_) (fun m p d b o=> ?_) r M
           . cases t:s.shared with
             |true=>exact .inl fun b a=>⟨rfl,a⟩
             |false=>rw[t]at g;simp only[vZ,qC]at g;exact .inr g.2.2
           . have b:=GW d;rw[S0 r]at b;have:=n.bfix m (by rw[<-k];exact b);rw[sF,this, <-k];show XK s.args i m=u;simp only[XK,d,vC]
           . rw[<-k,sF]at o;rcases o with⟨o,_⟩ | ⟨_,n,g,a⟩
             . have b:=GW (show(D3 s.args i)[m]? =some p.2 by rw[Mq,wB,d];rfl);rw[S0 r]at b;have o:Kr s.args<=m:=o;omega
             . rw[d]at g;cases g;exact a
       . exact h.elim
     . exact h.elim
   . exact h.elim
 . refine wp_mono (J x A.awf O za w _ _ _ _ (by rw[<-k];rfl) D N H z) ?_;rintro e h l ⟨E',g,d,Z',B',b,a⟩;refine⟨E',g, ?_⟩;cases e with
   |normal=>exact⟨d,Z',B',b,a⟩
   |ret=>exact⟨d,Z',B',b,a⟩
   | _=>exact a.elim
end
end Go.Vc
