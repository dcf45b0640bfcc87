/- Part. -/
import Derived.WalkKit
import Derived.ProofKit
import Derived.OpenShut
import Derived.Carry
import Derived.ChangeSlices
import Derived.ChangeSame
import Derived.Test.YtiflhbllbgajeaaGreatKHD
set_option linter.all false
namespace Go.Proofs.YtiflhbllbgajeaaGreat
open Go.Vc Go.Gw
variable {n m k:Nat} {fr to:Nat->Nat} {s:Nat->Rat}
def NJ (m:Nat) (fr to:Nat->Nat) (s:Nat->Rat) (b c:Nat):Rat:=D1 m fun i=>s i*(PE fr to b i*PE fr to c i)
def A1u (h:∀i,i<m->fr i<n/\to i<n) (a:Nat->Rat) (b:Nat):D1 n (fun c=>NJ m fr to s b c*a c)=iO m fr to (fun i=>s i*(a (fr i)-a (to i))) b:=by
 rw[C1 (g:=fun c=>D1 m fun i=>s i*PE fr to b i*(PE fr to c i*a c)) fun c _=>by
  unfold NJ;rw[<-OK];exact C1 fun i _=>by grind,Lp]
 refine C1 fun i a=> ?_
 rw[Ms,A1e (h i a).1 (h i a).2];grind
def Pv (k:Nat) (o:Nat->Nat) (x:Nat->Rat) (b:Nat):Rat:=D1 k fun c=>if o c=b then x c else 0
def fD {o:Nat->Nat} (g:∀a c,a<k->c<k->o a=o c->a=c) (x:Nat->Rat) {c:Nat} (b:c<k):Pv k o x (o c)=x c:=by
 unfold Pv;rw[O7 b fun a d f=>qL fun e=>f (g a c d b e),qS rfl]
def Yv {o:Nat->Nat} (x:Nat->Rat) {b:Nat} (h:∀c,c<k->o c≠b):Pv k o x b=0:=Bu fun c a=>qL (h c a)
def A1t {o:Nat->Nat} (h:∀a,a<k->o a<n) (x:Nat->Rat) (b:Nat):D1 n (fun c=>NJ m fr to s b c*Pv k o x c)=D1 k fun c=>NJ m fr to s b (o c)*x c:=by
 rw[C1 (g:=fun c=>D1 k fun a=>NJ m fr to s b c*(if o a=c then x a else 0)) fun c _=>by unfold Pv;rw[Ms],Lp];refine C1 fun a d=> ?_
 rw[O7 (h a d) fun c _ f=>by rw[qL (Ne.symm f),uW],qS rfl]
def mE {o lab:Nat->Nat} (j:∀i,i<m->fr i<n/\to i<n) (d:∀i,i<m->0<s i) (h:∀a,a<k->o a<n) (g:∀a c,a<k->c<k->o a=o c->a=c)
 (r:∀φ:Nat->Rat,(∀i,i<m->φ (fr i)=φ (to i))->∀b,b<n->φ b=φ (lab b)) (u:∀b,b<n->∀a,a<k->o a≠lab b):nonsing k fun a c=>NJ m fr to s (o a) (o c):=by
 intro x v c f;have t:=B4r (φ:=Pv k o x) (D:=fun i=>s i*(Pv k o x (fr i)-Pv k o x (to i))) j d (fun _ _=>rfl) fun b hbn=>by
  by_cases l:∃a,a<k/\o a=b
  . obtain⟨a,d,rfl⟩:=l;refine .inr ?_;rw[<-A1u j,A1t h];exact v a d
  . exact .inl (Yv x fun a d e=>l ⟨a,d,e⟩)
 rw[<-fD g x f,r (Pv k o x) (fun i g=>by have:=t i g;grind) (o c) (h c f)];exact Yv x fun a d=>u (o c) (h c f) a d
def B2c {lab:Nat->Nat} {F J:Nat->Rat} (c:∀b,b<n->lab b≠b->F b=J b) (f:∀t,D1 n (fun b=>(if lab b=t then 1 else 0)*F b)=0) (hJ:∀t,t<n->D1 n (fun b=>(if lab b=t then 1 else 0)*J b)=0):∀b,b<n->F b=J b:=by
 intro t a;by_cases d:lab t=t
 . have e:D1 n (fun b=>(if lab b=t then 1 else 0)*(F b-J b))=0:=by
    rw[C1 (g:=fun b=>(if lab b=t then 1 else 0)*F b-(if lab b=t then 1 else 0)*J b) fun b _=>by grind,XI,f,hJ t a];grind
   rw[O7 a fun b f h=> ?_,qS d]at e
   . grind
   . by_cases h:lab b=t
     . rw[c b f (by omega)];grind
     . rw[qL h,tJ]
 . exact c t a d
def B1v {o lab:Nat->Nat} {h J right x:Nat->Rat} (g:∀i,i<m->fr i<n/\to i<n) (u:∀a,a<k->o a<n)
 (j:∀b,b<n->lab b≠b->∃a,a<k/\o a=b) (f:∀i,i<m->lab (fr i)=lab (to i)) (w:∀a,a<k->D1 k (fun c=>NJ m fr to s (o a) (o c)*x c)=right a)
 (v:∀a,a<k->right a=J (o a)-iO m fr to (fun i=>s i*h i) (o a)) (d:∀t,t<n->D1 n (fun b=>(if lab b=t then 1 else 0)*J b)=0):∀b,b<n->iO m fr to (flw fr to s h (Pv k o x)) b=J b:=by
 refine B2c (lab:=lab) (fun b l r=> ?_) (fun t=>VI g f t) d;obtain⟨a,f,rfl⟩:=j b l r;have d:=w a f;rw[<-A1t u,A1u g,v a f]at d;have f:iO m fr to (flw fr to s h (Pv k o x)) (o a)=iO m fr to (fun i=>s i*(Pv k o x (fr i)-Pv k o x (to i))+1*(s i*h i)) (o a):=bK (fun i _=>by unfold flw;grind) _;rw[f,B3t,d];grind
abbrev Yd:=Int×Int×D5×D5
abbrev Ge:=Int×List Yd
def dB:Yd:=(0,0,((false,[]),[]),((false,[]),[]))
def Ez (E:List Yd) (i:Nat):Nat:=(E.getD i dB).1.toNat
def Fa (E:List Yd) (i:Nat):Nat:=(E.getD i dB).2.1.toNat
def Oe (E:List Yd) (i:Nat):Rat:=rv (E.getD i dB).2.2.1
def brH (E:List Yd) (i:Nat):Rat:=rv (E.getD i dB).2.2.2
def jR (n:Int) (e:Yd):Prop:=0<=e.1/\e.1<n/\0<=e.2.1/\e.2.1<n/\e.1≠e.2.1/\0<rv e.2.2.1
instance (n:Int) (e:Yd):Decidable (jR n e):=by unfold jR;infer_instance
def I2 (N:Ge):Prop:=0<=N.1/\N.1<=16384/\N.2.length<=16384/\∀e∈N.2,jR N.1 e
instance (N:Ge):Decidable (I2 N):=by unfold I2;infer_instance
def KO (E:List Yd):List Ln:=E.map fun e=>(e.1,e.2.1)
def O5 (N:Ge) (b:Nat):Nat:=(I7 (Ap N.1 (KO N.2)) (b:Int)).toNat
def ET (E:List Yd) (b c:Nat):Rat:=NJ E.length (Ez E) (Fa E) (Oe E) b c
def iN (E:List Yd) (f:Nat->Rat) (b:Nat):Rat:=iO E.length (Ez E) (Fa E) f b
def flN (E:List Yd) (t:Nat->Rat) (i:Nat):Rat:=flw (Ez E) (Fa E) (Oe E) (brH E) t i
abbrev K2:Nat:=4294967296
abbrev K3:Nat:=4294968296
def rat (l:List D5) (i:Nat):Rat:=rv (l.getD i zr)
def C0z (s:List Int) (x:List D5):Prop:=∀t,t<s.length->D1 s.length (fun b=>(if s.getD b 0=(t:Int)then 1 else 0)*rat x b)=0
instance (s:List Int) (x:List D5):Decidable (C0z s x):=by unfold C0z;infer_instance
def szN (k:Nat) (E:List Yd):Prop:=∀e∈E,sz k e.2.2.1/\sz k e.2.2.2
def Al (N:Ge):Prop:=N.1<=7/\N.2.length<=9/\szN 2 N.2
def A9a (N:Ge):Prop:=I2 N/\1<=N.1/\N.1<=6/\N.2.length<=9/\∀e∈N.2,Zb e.2.2.1/\Zb e.2.2.2
def Kn (E:List Yd) (G:Nat->Nat->Rat) (l b:Nat):Rat:=Oe E l*(G (Ez E l) b-G (Fa E l) b)
def Lz (N:Ge) (G:Nat->Nat->Rat):Prop:=∀b,b<N.1.toNat->(∀c,c<N.1.toNat->O5 N c=c->G c b=0)/\∀c,c<N.1.toNat->iN N.2 (fun l=>Kn N.2 G l b) c=(if b=c then 1 else 0)-(if O5 N b=c then 1 else 0)
def xch (E:List Yd) (G:Nat->Nat->Rat) (l k:Nat):Rat:=(G (Ez E l) (Ez E k)-G (Fa E l) (Ez E k))-(G (Ez E l) (Fa E k)-G (Fa E l) (Fa E k))
def shF (E:List Yd) (G:Nat->Nat->Rat) (l k:Nat):Rat:=Oe E k*(Kn E G l (Fa E k)-Kn E G l (Ez E k)+if k=l then 1 else 0)
abbrev TFV:=List Int×Dn×Dn
def Ql (f:TFV):Prop:=D2 f.2.1/\D2 f.2.2/\f.2.2.1=f.2.1.1/\f.2.2.2.1=f.2.1.1/\f.2.1.2.1=(f.1.length:Int)
instance (f:TFV):Decidable (Ql f):=by unfold Ql;infer_instance
def cH (n:Nat) (f:Nat->Rat):List D5:=(List.range n).map fun i=>rc (f i)
end Go.Proofs.YtiflhbllbgajeaaGreat
namespace Go.Gw
open Go Go.RowKit Go.ChangeShapes Go.WideShapes Go.ChangeAt
section
variable {H:Type} {enc:TypeId×Value->H} {P:Program}
def GE (f:laidOutB P=true) {W W':World} {sp:Nat->Bool} (d:R7 W W'):∀(ts:List TypeId) (vs:List Value) (b:List (DataW H)) (a:List MemPlace),
 (∀t∈ts,P.readableRec t=true/\t<P.types.size)->DataW.TrodAll enc P W 0 (fun _=>true) true ts vs b a->(∀x∈a,x.block<W.heap.size)->(∀x∈a,sp x.block=true)->DataW.TrodAll enc P W' 0 sp true ts vs b a
 | [],vs,b,a,_,h,_,_=>by
  cases vs<;>cases b<;>simp[DataW.TrodAll]at h⊢;exact h
 |t::ts,vs,b,a,c,i,g,h=>by
  obtain⟨v,l,a,b,p,q,rfl,rfl,rfl,j,k⟩:=trodAll_cons i;refine trodAll_cons_mk ?_ (GE f d ts l b q (fun x a=>c x (by simp[a])) k (fun x a=>g x (by simp[a])) (fun x a=>h x (by simp[a])));exact WideElems.Trod_stays f (c t (by simp)).1 (c t (by simp)).2 j (fun x a=>d.same (g x (by simp[a]))) (fun x a=>h x (by simp[a]))
def B1n (o:laidOutB P=true) {f:Func} {s:ChangeSpec} {W W':World} {args:Array Value} {b g:List (DataW H)} {a:List MemPlace} {d:TypeId}
 (c:DataW.Whole enc P f.params.toList s.vars false W args.toList b g a) (k:s.vars= []) (u:f.resultTypes= #[d]) (v:P.underlying d=some .bool)
 (d:s.fn H b= {results:= [.lit (.bool true)],args:=b}) (r:∀t∈f.params.toList,P.readableRec t=true/\t<P.types.size) (h:R7 W W'):
 s.post enc P f false true false false W args (.bool true) W':=by
 have i:∀p∈a,p.block<W.heap.size:=fun p hp=>c.lt p hp
 have n:=c;obtain⟨p,q,l,g,j,_,_⟩:=c;rw[k]at g;obtain⟨rfl,rfl⟩:=trodVars_none g;rw[vQ]at j;subst j;refine⟨b,[],a,[],a,[],n, ?_, ?_, ?_, ?_,fun c=>by cases c⟩
 . rw[vQ,d,u];exact trodAll_mk1 (shut_bool v _)
 . rw[vQ,d];exact GE o h _ _ _ _ r l i (fun x b=>by simpa using i x b)
 . rw[vQ,d,k];rfl
 . refine World.keptBut_mono ?_ (h.frame (· ∈a));intro x b;exact⟨b, .inr (.inl b)⟩
end
end Go.Gw
namespace Go.Vc
open Go Go.RowKit Go.Gw Go.ChangeShapes Go.WideShapes Go.ChangeAt
def lC (P:Program):Nat->TypeId->Ty->Bool
 |0,_,_=>false
 |n+1,T,a=>match P.underlying T with
  |some (.int k)=>(match a with| .int k'=>decide (k=k') | _=>false)
  |some .bool=>(match a with| .bool=>true| _=>false)
  |some .string=>(match a with| .str=>true| _=>false)
  |some (.slice e)=>(match a with| .sl t=>lC P n e t&&Nat.beq (P.cellsOf e) t.size&&Nat.ble 1 t.size| _=>false)
  |some (.struct b)=>fS P (lC P n) b.toList 0 a&&Nat.beq (P.cellsOf T) a.size
  |some (.array k e)=>fQ (lC P n e) (P.cellsOf e) k a&&Nat.beq (P.cellsOf T) a.size
  | _=>false
section
variable {H:Type} {α:Type} {enc:TypeId×Value->H} {P:Program} {W:World}
def cells?_at {b:Nat} {a:Addr} {n:Nat} {cs:List Value} (h:W.cells? b a n=some cs):cs.length=n/\J6 W a cs:=by
 obtain⟨_,d,c⟩:=World.cells?_some h;exact⟨d,fun j v b=>by have:=c j (by have:=FU b;omega);rw[this];exact b⟩
def A5u {a:Addr} {v:Value} (h:W.cell? a=some v):a.spot=none:=by
 unfold World.cell? at h;split at h
 . cases b:a.spot with
   |none=>rfl
   |some _=>simp[b]at h
 . cases h
def UQ {R:List Value->α->Prop} {b o sz:Nat} :∀(len:Nat),(∀i,i<len->∃a y,a.length=sz/\J6 W ⟨b,o+i*sz,none⟩ a/\R a y)->∃a l,l.length=len/\a.length=len*sz/\J6 W ⟨b,o,none⟩ a/\F8 R a l
 |0,_=>⟨[],[],rfl,by simp,fun j v c=>by simp at c,rfl⟩
 |len+1,h=>by
  obtain⟨a,l,r,f,s,t⟩:=UQ (R:=R) (b:=b) (o:=o) (sz:=sz) len (fun i hi=>h i (by omega));obtain⟨d,y,g,k,n⟩:=h len (by omega);refine⟨a++d,l++ [y],by simp[r],by rw[rO,f,g,uJ],fun j v c=> ?_,t.append ⟨d,[],by simp,n,rfl⟩⟩;rw[List.getElem?_append]at c;split at c
  . exact s j v c
  . rename_i a;have:=k _ v c;rw[K5]at this⊢;rw[f]at this a;rw[show o+len*sz+(j-len*sz)=o+j from by omega]at this;exact this
def A1r {n:Nat} {r:TypeId->Ty->Bool} {Z:Nat->Prop} {cs:List Value} (c:∀ {T:TypeId} {ty:Ty} {cs:List Value} {x:DataW H×List MemPlace},r T ty=true->DataW.trod enc P W 0 (fun _=>true) true n T cs=some x->∃y,C4 ty W Z cs y):
 ∀ {b:List Field} {off:Nat} {ty:Ty},fS P r b off ty=true->(∀f∈b,∃x,DataW.trod enc P W 0 (fun _=>true) true n f.type ((cs.drop f.offset).take (P.cellsOf f.type))=some x)->cs.length=off+ty.size->∃y,C4 ty W Z (cs.drop off) y
 | [],off,ty,h,d,a=>by
  cases ty<;>simp[fS]at h;exact⟨(),by rw[sC (by simp[Ty.size]at a;omega)];rfl⟩
 | [f],off,ty,h,d,a=>by
  have a:(Nat.beq f.offset off&&r f.type ty&&Nat.beq (P.cellsOf f.type) ty.size)=true:=by cases ty<;>exact h
  simp only[qC]at a;obtain⟨x,d⟩:=d f (by simp);obtain⟨y,g⟩:=c a.1.2 d;rw[qE a.1.1,qE a.2,qV (by rw[sL];omega)]at g;exact⟨y,g⟩
 |f::g::b,off,ty,h,d,l=>by
  cases ty<;>simp only[fS]at h<;>try cases h
  rename_i a b;simp only[qC]at h;obtain⟨⟨⟨g,i⟩,j⟩,k⟩:=h;obtain⟨x,h⟩:=d f (by simp);obtain⟨y,b⟩:=c i h;rw[qE g,qE j]at b;obtain⟨z,g⟩:=A1r c k (fun q hq=>d q (qJ _ hq)) (by rw[l];simp only[Ty.size];omega);exact⟨(y,z),(cs.drop off).take a.size,cs.drop (off+a.size),by rw[<-vP,uD],b,g⟩
def A1p {n:Nat} {r:TypeId->Ty->Bool} {Z:Nat->Prop} {cs:List Value} {e:TypeId} {sz:Nat} (c:∀ {T:TypeId} {ty:Ty} {cs:List Value} {x:DataW H×List MemPlace},r T ty=true->DataW.trod enc P W 0 (fun _=>true) true n T cs=some x->∃y,C4 ty W Z cs y):
 ∀ {k i:Nat} {ty:Ty},fQ (r e) sz k ty=true->(∀j,j<k->∃x,DataW.trod enc P W 0 (fun _=>true) true n e ((cs.drop ((i+j)*sz)).take sz)=some x)->cs.length=i*sz+ty.size->∃y,C4 ty W Z (cs.drop (i*sz)) y
 |0,i,ty,h,b,a=>by
  cases ty<;>simp[fQ]at h;exact⟨(),by rw[sC (by simp[Ty.size]at a;omega)];rfl⟩
 |1,i,ty,h,a,b=>by
  have b:(r e ty&&Nat.beq ty.size sz)=true:=by cases ty<;>exact h
  simp only[qC]at b;obtain⟨x,a⟩:=a 0 (by omega);rw[tB]at a;obtain⟨y,d⟩:=c b.1 a;have:=qE b.2;rw[qV (by rw[sL];omega)]at d;exact⟨y,d⟩
 |k+2,i,ty,h,g,s=>by
  cases ty<;>simp only[fQ]at h<;>try cases h
  rename_i a b;simp only[qC]at h;obtain⟨⟨l,b⟩,o⟩:=h;obtain⟨x,f⟩:=g 0 (by omega);rw[tB]at f;obtain⟨y,d⟩:=c l f;have b:=qE b;have d:C4 a W Z ((cs.drop (i*sz)).take a.size) y:=by rw[b];exact d
  have f:(i+1)*sz=i*sz+a.size:=by rw[uJ,b]
  obtain⟨z,b⟩:=A1p c (i:=i+1) o (fun j hj=>by
   have:=g (j+1) (by omega);rw[show i+(j+1)=i+1+j from by omega]at this;exact this) (by rw[s,f];simp only[Ty.size];omega)
  rw[f]at b;exact⟨(y,z),(cs.drop (i*sz)).take a.size,cs.drop (i*sz+a.size),by rw[<-vP,uD],d,b⟩
def SR:∀ {m n:Nat} {T:TypeId} {ty:Ty} {cs:List Value} {x:DataW H×List MemPlace},lC P m T ty=true->DataW.trod enc P W 0 (fun _=>true) true n T cs=some x->∃y,C4 ty W (fun b=>b<W.heap.size) cs y
 |0,_,_,_,_,_,h,_=>by cases h
 |m+1,n,T,ty,cs,x,h,c=>by
  simp only[lC]at h;split at h
  . rename_i F a;cases ty<;>simp only at h<;>try cases h
    rename_i d;have:=qA h;subst this;obtain⟨z,e,_,d⟩:=DataW.trod_int a c;exact⟨z,e,by simp only[Lit.wf,qC,rR]at d;exact d⟩
  . rename_i a;cases ty<;>simp only at h<;>try cases h
    obtain⟨b,e,_⟩:=DataW.trod_bool a c;exact⟨b,e⟩
  . rename_i a;cases ty<;>simp only at h<;>try cases h
    obtain⟨s,e,_⟩:=DataW.trod_string a c;exact⟨s,e⟩
  . rename_i e a;cases ty<;>simp only at h<;>try cases h
    rename_i t;simp only[qC]at h;have D:=qE h.1.2;rcases DataW.trod_slice a c with⟨s,_⟩ | ⟨k,len,w,UP,r,q,B,s,_,_,g,z,d,v,_⟩
    . exact⟨[],none,0,s,qZ _,rM _,fun _=>rfl, .inl rfl⟩
    . by_cases d:len=0
      . subst d;exact⟨[],some k,w,s,rM _,z,fun g=>(by cases g), .inl rfl⟩
      . have A:∀i,i<len->∃d y,d.length=t.size/\J6 W (k.add (i*t.size)) d/\C4 t W (fun b=>b<W.heap.size) d y:=fun i r=>by
         have u:=v i r;rw[qT (by omega),D]at u;obtain⟨d,D,E⟩:=g1o.1 u;obtain⟨v,u⟩:=cells?_at D;obtain⟨y,D⟩:=SR (m:=m) h.1.1 E;exact⟨d,y,v,u,D⟩
        obtain⟨D,E,v,u,_⟩:=A 0 (by omega);have v:=qQ h.2;obtain⟨G,E⟩:=B3v (l:=D) (i:=0) (by omega);have v:=u 0 G E;have u:(k.add (0*t.size)).add 0=k:=by simp[Addr.add]
        rw[u]at v;have u:=A5u v;obtain⟨b,o,D⟩:=k;simp only at u;subst u;have u:b<W.heap.size:=block_lt_of_cell v;obtain⟨d,l,v,_,D,E⟩:=UQ (R:=C4 t W (fun b=>b<W.heap.size)) (b:=b) (o:=o) (sz:=t.size) len (fun i r=>by
         obtain⟨d,y,t,k,G⟩:=A i r;rw[K5]at k;exact⟨d,y,t,k,G⟩)
        exact⟨l,some ⟨b,o,none⟩,w,by rw[s,v],by omega,z,fun g=>(by cases g), .inr ⟨b,o,d,rfl,u,D,E⟩⟩
  . rename_i s a;simp only[qC]at h;obtain⟨w,q,B,_,k,v,d⟩:=DataW.trod_struct a c;have:=A1r (enc:=enc) (P:=P) (W:=W) (n:=q) (Z:=fun b=>b<W.heap.size) (cs:=cs) (fun g c=>SR (m:=m) g c) h.1 (fun f hf'=>by
     obtain⟨i,r,t⟩:=g3e hf';have u:i<s.size:=by simpa using r
     have r:=d i f (by rw[tX u];simpa using t);rw[qT (by omega)]at r;exact⟨_,r⟩) (by rw[k,qE h.2];omega)
    simpa using this
  . rename_i F e a;simp only[qC]at h;obtain⟨w,q,B,_,k,v,d⟩:=DataW.trod_array a c;have:=A1p (enc:=enc) (P:=P) (W:=W) (n:=q) (Z:=fun b=>b<W.heap.size) (cs:=cs) (e:=e) (i:=0) (fun g c=>SR (m:=m) g c) h.1 (fun j hj=>by
     have a:=d j hj;rw[qT (by omega)]at a;rw[sE];exact⟨_,a⟩) (by rw[k,qE h.2];omega)
    simpa using this
  . cases h
end
def iB (c:Bool) (A B:Prop):Prop:=(c=true->A)/\(c=false->B)
def B7h (P:Program) (T:TypeId) (a:Bool):Bool:=match P.underlying T with
 |some (.struct _)=>a
 |some (.array _ _)=>false
 | _=> !a
def eD (P:Program):List TypeId->List AM->Bool
 | [],[]=>true
 |T::b, .val a c::as=>lC P 40 T c&&B7h P T a&&eD P b as
 | _,_=>false
section
variable {H:Type} {enc:TypeId×Value->H} {P:Program} {W:World}
def B1a {m:Nat} {T:TypeId} {ty:Ty} {a:Bool} {r:Reach} {b0:Nat} {v:Value} {d:DataW H} {p:List MemPlace} (h:lC P m T ty=true) (f:B7h P T a=true) (g:Value.okWide P W r b0 T v) (c:DataW.Trod enc P W 0 (fun _=>true) true T v d p):
 ∃y,Bb a ty W (fun b=>b<W.heap.size) v y:=by
 obtain⟨n,c⟩:=c;obtain⟨y,i⟩:=SR h c;refine⟨y, ?_⟩;cases m with
 |zero=>cases h
 |succ m=>
  simp only[lC]at h;unfold B7h at f;split at h
  . rename_i k c;simp only[c,rP]at f;obtain⟨n,rfl⟩:=okWide_int c g;subst f;exact i
  . rename_i c;simp only[c,rP]at f;obtain⟨n,rfl⟩:=okWide_bool c g;subst f;exact i
  . rename_i c;simp only[c,rP]at f;obtain⟨n,rfl⟩:=okWide_string c g;subst f;exact i
  . rename_i e c;simp only[c,rP]at f;obtain⟨j,k,l,rfl⟩:=okWide_slice c g;subst f;exact i
  . rename_i j c;simp only[c]at f;obtain⟨j,rfl,_⟩:=okWide_struct c g;subst f;exact⟨j.toList,by simp,i⟩
  . rename_i c;simp only[c]at f;cases f
  . cases h
def cQ {r:Reach} {b0:Nat} :∀ {ts:List TypeId} {as:List AM} {vs:List Value} {a:List (DataW H)} {c:List MemPlace},eD P ts as=true->DataW.TrodAll enc P W 0 (fun _=>true) true ts vs a c->(∀(j:Nat) (t:TypeId) (v:Value),ts[j]? =some t->vs[j]? =some v->Value.okWide P W r b0 t v)->∃x,Y6 P W (fun b=>b<W.heap.size) as vs x
 | [],[],vs,a,c,_,h,_=>by
  cases vs with
  |nil=>exact⟨(),rfl⟩
  |cons _ _=>cases a<;>exact h.elim
 | [],_:: _,_,_,_,h,_,_=>by cases h
 | _:: _,[],_,_,_,h,_,_=>by cases h
 |T::ts, .row _ _:: _,_,_,_,h,_,_=>by cases h
 |T::ts, .box _ _:: _,_,_,_,h,_,_=>by cases h
 |T::ts, .fn _ _ _:: _,_,_,_,h,_,_=>by cases h
 |T::ts, .rows _ _ _:: _,_,_,_,h,_,_=>by cases h
 |T::ts, .val g i::as,vs,a,c,h,f,d=>by
  simp only[eD,qC]at h;obtain⟨v,g,i,k,p,q,rfl,rfl,rfl,a,c⟩:=trodAll_cons f;obtain⟨y,f⟩:=B1a h.1.1 h.1.2 (d 0 T v rfl rfl) a;obtain⟨z,a⟩:=cQ h.2 c (fun j t u ht hu=>d (j+1) t u (by simpa using ht) (by simpa using hu));exact⟨(y,z),v,g,rfl,f,a⟩
def fX (as:List AM):A7:= {args:=as,res:= [.val false .bool],pre:=fun _=>True,post:=fun _ r=>r.1=true}
def A4n {f:FuncId} {as:List AM} {vs:List Value} {x:A2 as} (a:Av as=true) (c:A8 P f (fX as)) (h:Y6 P W (fun b=>b<W.heap.size) as vs x):Gw.aT P f vs W fun v W'=>v= .bool true/\R7 W W':=by
 refine(c W _ vs x (fun _ h=>h) h (by show Dis W (O6 as vs);rw[CL a];trivial) trivial).mono fun v d ⟨c,r,o,us,Zn,hpost,_,hv,_,hrep,_⟩=>⟨?_,c.ext (fun b ⟨u,hu,_⟩=>by rw[show O6 (fX as).args vs= []from CL a vs]at hu;cases hu)⟩
 obtain⟨u,d,e,a,_,c⟩:=hrep;rw[show d= []from c]at e;subst e;have a: [u]= [Value.bool r.1]:=a;have c:r.1=true:=hpost;rw[c]at a;rw[hv];simpa[Wd]using a
def lJ {f:FuncId} {s:A7} (h:∀x,¬s.pre x):A8 P f s:=fun _ _ _ x _ _ _ a=>absurd a (h x)
def A1:Jc P []:=fun _ _ h=>by cases h
def A0 {f:FuncId} {s:A7} {l:H0} (c:A8 P f s) (d:Jc P l) (i:s.inl=none:=by rfl):Jc P ((f,s)::l):=fun g t h=>by
 unfold Gi at h;cases a:Nat.beq f g with
 |true=>
  rw[a]at h;obtain rfl:=qE a;obtain rfl:s=t:=by simpa using h
  exact⟨c,fun j b=>by rw[i]at b;cases b⟩
 |false=>rw[a]at h;exact d g t h
def Ex {f:FuncId} {run:Inl} {l:H0} (b:OZ P f run) (c:Jc P l):Jc P ((f,Gk run)::l):=fun g t h=>by
 unfold Gi at h;cases a:Nat.beq f g with
 |true=>
  rw[a]at h;obtain rfl:=qE a;obtain rfl:Gk run=t:=by simpa using h
  exact⟨fun _ _ _ _ _ _ _ d=>d.elim,fun r i=>by cases i;exact b⟩
 |false=>rw[a]at h;exact c g t h
def Ih:A0u P []:=fun _ h=>by cases h
def T5 {d:Nat} {sp:H0} {an:An} {l:List (Nat×H0×An)} (b:Jc P sp) (c:A0u P l):A0u P ((d,sp,an)::l):=fun x a=>by
 rcases qG.1 a with rfl|a
 . exact b
 . exact c x a
end
end Go.Vc
namespace Go.Vc
open Go Go.RowKit Go.Gw
def DX (g:FuncId) (t:Ty) (e:TypeId) (φ:t.den->t.den->Int) (_:Nat) (b:St) (ss:List SV) (k:St->List SV->Prop):Prop:=
 match ss with
 | [⟨false,[.row q]⟩,⟨false,[.fn a []]⟩]=>bif Nat.beq a g then(match AC b t e q with
  |some l=>l.length<=100000/\∀a:List t.den,(Ty.sl t).wf a->a.Perm l->a.Pairwise (fun c d=>¬φ d c<0)->k (addM [.row t e] (a,()) [q] (dropM b [q])) []
  |none=>False)else False
 | _=>False
def A5t (g:FuncId) (t:Ty) (e:TypeId) (φ:t.den->t.den->Int) {a:St} {d:Nat} {ss:List SV} {k k':St->List SV->Prop} (h:DX g t e φ d a ss k) (f:∀b c,C0 a b->k b c->k' b c):DX g t e φ d a ss k':=by
 unfold DX at h⊢;split at h
 . obtain⟨a,h⟩:=B4 h;rw[a,qR];split at h
   . exact⟨h.1,fun i c a b=>f _ _ ((C0.dropM _ _).trans (C0.addM _ _ _ _)) (h.2 i c a b)⟩
   . exact h.elim
 . exact h.elim
def SY (g:FuncId) (t:Ty) (e:TypeId) (φ:t.den->t.den->Int):Inl:= {run:=DX g t e φ,step:=A5t g t e φ}
def Bp (t:Ty) (e:TypeId) (φ:t.den->t.den->Int):A7:=
 { args:= [.row t e],res:= [],shared:=true,pre:=fun _=>True,post:=fun _ _=>True,mpost:=fun(x:List t.den×Unit) _ (o:List t.den×Unit)=>o.1.Perm x.1/\o.1.Pairwise fun a b=>¬φ b a<0}
def A0y (P:Program) (f g:FuncId) (t:Ty) (e:TypeId) (φ:t.den->t.den->Int):Prop:=
 ∀(w:World) (Z:Nat->Prop) (v:Value) (l:List t.den),(∀b,Z b->b<w.heap.size)->aS P w Z (.row t e) v l->l.length<=100000->B6n P f (Bp t e φ) [v, .func (.func g) #[] #[]] w Z (l,())
def XO {P:Program} {tys:List (Nat×TI)} {f g:FuncId} {t:Ty} {e:TypeId} {φ:t.den->t.den->Int} (u:A0y P f g t e φ):OZ P f (SY g t e φ):=by
 refine {go:= ?_};intro v n i E w Z B d h vs a j k c l b;replace b:DX g t e φ d i h a:=b;unfold DX at b;split at b
 . rename_i q y;obtain⟨a,n⟩:=B4 b;clear b;obtain rfl:=qE a;split at n
   . rename_i l a;obtain⟨D,G⟩:=n;obtain⟨d,v,rfl,h,l,z,rfl,j,rfl⟩:=c;have c:d=B q:=by
      obtain⟨z,A,c,d,v⟩:=h;cases c;exact d
     have d:l= .func (.func y) #[] #[]:=by
      obtain⟨l,v,c,d,h⟩:=j;cases c;exact d
     subst c d;have l:=k.locs q;have h:∃d,∃c,∃l':List d.den,i.L q= .row d c l':=by
      unfold AC at a;split at a
      . exact⟨_,_,_,by assumption⟩
      . cases a
     obtain⟨d,c,v,h⟩:=h;unfold AC at a;rw[h]at a l;simp only at a;split at a
     . rename_i j;subst j;cases j:Nat.beq c e with
       |false=>simp[j]at a
       |true=>
        simp only[j,qR,rC]at a;obtain rfl:=qE j;subst a;obtain⟨I,F,A,z⟩:=l;have H:aS P w Z (.row d c) (B q) v:=⟨I,F,A,fun j l=>(z j l).2⟩;have A:=u w Z (B q) v k.zlt H D;have z:live (i.L q):=by rw[h];trivial
        have D:lz w i [q] B Z true=Z:=by funext j;simp[lz]
        have:=bA (cx:=⟨P,tys⟩) (s:=Bp d c φ) (x:=(v,())) (vs:= [B q, .func (.func y) #[] #[]]) (mu:= [q]) k (by rw[show(Bp d c φ).shared=true from rfl,D];exact A) rfl
         ⟨⟨rfl,fun j l=>by rw[h];exact l⟩,trivial⟩ (by simp) (fun d c=>by simp at c;subst c;exact z)
        refine Gw.aT.mono this fun v c ⟨_,r,o,i,_,how,_,hmp,hv,Z',B',h3,h4,_⟩=> ?_
        obtain⟨c,d⟩:=hmp rfl;have h:i= []:=h4;subst h;exact⟨_,Z',B',[],[],h3,hv,rfl,fun s u=>(by cases u),G o.1 how.1 c d⟩
     . cases a
   . exact n.elim
 . exact b.elim
def PH (P:Program) (as:List (Bool×Ty)) (c:Bool) (r a:Ty) (φ:a.den->X9 as->r.den):List SV->Option SV
 | [⟨false,[.val b n]⟩]=>if h:b=a then some ⟨false,[.fv P as c r (fun _=>True) (φ (h▸n))]⟩else none
 | _=>none
def A8v (P:Program) (as:List (Bool×Ty)) (b:Bool) (r a:Ty) (φ:a.den->X9 as->r.den):Inl:=
 { run:=fun _ d c k=>match PH P as b r a φ c with
    |some sv=>k d [sv]
    |none=>False
   res:=PH P as b r a φ
   step:=fun {d g c k i} h f=>by
    cases d:PH P as b r a φ c with
    |none=>rw[d]at h;exact h.elim
    |some sv=>rw[d]at h;exact f _ _ (C0.refl _) h}
def C4m (P:Program) (f:FuncId) (as:List (Bool×Ty)) (d:Bool) (r a:Ty) (φ:a.den->X9 as->r.den):Prop:=
 ∀(w:World) (Z:Nat->Prop) (v:Value) (n:a.den),C4 a w Z [v] n->Gw.aT P f [v] w fun u c=>R7 w c/\∃Zn:Nat->Prop,(∀b,Zn b->Z b\/(w.heap.size<=b/\b<c.heap.size))/\nQ P c Zn u as d r (fun _=>True) (φ n)
def nQ.mono {P:Program} {w:World} {Z Z':Nat->Prop} {v:Value} {as:List (Bool×Ty)} {d:Bool} {r:Ty} {a:X9 as->Prop} {φ:X9 as->r.den} (h:nQ P w Z v as d r a φ) (f:∀b,Z b->Z' b):nQ P w Z' v as d r a φ:=
 RC.mono (B:=fun _=>v) (B':=fun _=>v) (n:=0) (c:= .fv P as d r a φ) f (fun _ _=>rfl) (fun _ _=>rfl) trivial h
def A8w {P:Program} {f:FuncId} {as:List (Bool×Ty)} {g:Bool} {r a:Ty} {φ:a.den->X9 as->r.den} (j:C4m P f as g r a φ):OZ P f (A8v P as g r a φ):=by
 have res:∀ {t:Zn} {s:World} {h:St} {E:F9} {w:World} {Z:Nat->Prop} {B:Nat->Value} {d:List SV} {k:List Value} {sv:SV},B7 t s h E w Z B->Qv w Z B d k->PH P as g r a φ d=some sv->
  Gw.aT P f k w fun v i=>R7 w i/\∃Z':Nat->Prop,(∀b,Z b->Z' b)/\(∀b,Z' b->Z b\/(w.heap.size<=b/\b<i.heap.size))/\RS i Z' B sv v:=by
  intro t s h E w Z B d k sv l n c;unfold PH at c;split at c
  . rename_i o z;split at c
    . rename_i o;subst o;cases c;obtain⟨A,o,rfl,y,rfl⟩:=n;obtain⟨u,F,o,x,D⟩:=y;cases o;refine Gw.aT.mono (j w Z A z x) fun u i ⟨o,Zn,hz,hf⟩=>⟨o,fun b=>Z b\/Zn b,fun _=> .inl,fun b x=>x.elim .inl (hz b), ?_⟩
      exact⟨u,[],rfl,hf.mono fun _=> .inr,rfl⟩
    . cases c
  . cases c
 refine {go:= ?_,res:=res};intro t s h E w Z B u d k b x l n y c;replace c:(match PH P as g r a φ d with|some sv=>b h [sv] |none=>False):=c;cases b:PH P as g r a φ d with
 |none=>rw[b]at c;exact c.elim
 |some sv=>
  rw[b]at c;refine Gw.aT.mono (res l n b) fun v i ⟨o,Z',hz,hz',hrep⟩=>⟨h,Z',B,[sv],[v],l.more o hz hz',rfl,⟨v,[],rfl,hrep,rfl⟩,fun s j=> ?_,c⟩
  rw[qP]at j;subst j;unfold PH at b;split at b
  . split at b
    . cases b;intro d c;rw[qP]at c;subst c;trivial
    . cases b
  . cases b
end Go.Vc
namespace Go.Proofs.YtiflhbllbgajeaaGreat
def Ul {s:List Int} {k:Nat} {v i:Int} (a:k<s.length):I7 (s.set k v) i=if i.toNat=k then v else I7 s i:=by
 unfold I7;simp only[qF,xI];by_cases h:k=i.toNat
 . subst h;simp[a]
 . rw[qL h,qL (fun a=>h a.symm)]
def UF.le {s:List Int} (h:UF s) {b:Int} (a:0<=b) (c:b<(s.length:Int)):0<=I7 s b/\I7 s b<=b:=by
 have:=h b.toNat (by omega);rw[show((b.toNat:Nat):Int)=b from by omega]at this;exact this
def Uz {s:List Int} (h:UF s):∀(k:Nat) (b:Int),0<=b->b<(s.length:Int)->b.toNat<=k->KR s k b=KR s b.toNat b
 |0,b,a,c,d=>by rw[show b.toNat=0 from by omega]
 |k+1,b,a,d,c=>by
  obtain⟨c,f⟩:=h.le a d;by_cases a:I7 s b=b
  . simp only[KR,qS a];cases d:b.toNat with
    |zero=>rfl
    |succ m=>simp only[KR,qS a]
  . simp only[KR,qL a];have f:I7 s b<b:=by omega
    rw[Uz h k (I7 s b) c (by omega) (by omega)];cases d:b.toNat with
    |zero=>omega
    |succ m=>
     simp only[KR,qL a];rw[Uz h m (I7 s b) c (by omega) (by omega)]
def A2s {s:List Int} (h:UF s) {b:Int} (a:0<=b) (c:b<(s.length:Int)):root s b=if I7 s b=b then b else root s (I7 s b):=by
 obtain⟨d,f⟩:=h.le a c;unfold root;rw[<-Uz h (b.toNat+1) b a c (by omega)];simp only[KR];split
 . rfl
 . exact Uz h _ _ d (by omega) (by omega)
def Cv {s:List Int} (h:UF s) {b:Int} (a:0<=b) (c:b<(s.length:Int)) (d:I7 s b=b):root s b=b:=by rw[A2s h a c,qS d]
def Dy {s:List Int} (h:UF s) {b:Int} (c:0<=b) (d:b<(s.length:Int)):root s (I7 s b)=root s b:=by
 by_cases a:I7 s b=b
 . rw[a]
 . rw[A2s h c d,qL a]
def XF {s:List Int} (h:UF s) {q:Int->Prop} (f:∀b,0<=b->b<(s.length:Int)->I7 s b=b->q b) (g:∀b,0<=b->b<(s.length:Int)->I7 s b<b->0<=I7 s b->q (I7 s b)->q b):∀b,0<=b->b<(s.length:Int)->q b:=by
 have l:∀(k:Nat) (b:Int),b.toNat<=k->0<=b->b<(s.length:Int)->q b:=by
  intro k
  induction k with
  |zero=>
   intro b d a c;obtain⟨d,i⟩:=h.le a c;exact f b a c (by omega)
  |succ k j=>
   intro b d a c;obtain⟨d,i⟩:=h.le a c;by_cases i:I7 s b=b
   . exact f b a c i
   . exact g b a c (by omega) d (j _ (by omega) d (by omega))
 exact fun b a c=>l b.toNat b (qZ _) a c
def gZ {s:List Int} (h:UF s) {b:Int} (a:0<=b) (c:b<(s.length:Int)):0<=root s b/\root s b<=b/\I7 s (root s b)=root s b:=by
 refine XF h (q:=fun b=>0<=root s b/\root s b<=b/\I7 s (root s b)=root s b) (fun b a c d=> ?_) (fun b a c d g f=> ?_) b a c
 . rw[Cv h a c d];exact⟨a,qI _,d⟩
 . rw[Dy h a c]at f;exact⟨f.1,by omega,f.2.2⟩
def A5g {s b:List Int} (h:UF s) (f:UF b) (a:b.length=s.length) (k:∀i:Int,0<=i->i<(s.length:Int)->root s (I7 b i)=root s i) (j:∀i:Int,0<=i->i<(s.length:Int)->I7 b i=i->I7 s i=i):∀i:Int,0<=i->i<(s.length:Int)->root b i=root s i:=by
 intro i a c;refine XF f (q:=fun i=>root b i=root s i) (fun d a c g=> ?_) (fun d a c g l b=> ?_) i a (by omega)
 . rw[Cv f a c g,Cv h a (by omega) (j d a (by omega) g)]
 . rw[<-Dy f a c,b,k d a (by omega)]
def C1l {s:List Int} (h:UF s) {b:Int} (d:0<=b) (f:b<(s.length:Int)):UF (s.set b.toNat (I7 s (I7 s b)))/\∀i:Int,0<=i->i<(s.length:Int)->root (s.set b.toNat (I7 s (I7 s b))) i=root s i:=by
 have a:b.toNat<s.length:=by omega
 obtain⟨c,g⟩:=h.le d f;obtain⟨g,c1⟩:=h.le c (by omega:I7 s b<(s.length:Int));have g:UF (s.set b.toNat (I7 s (I7 s b))):=fun i hi=>by
  rw[qN]at hi;rw[Ul a];split
  . rename_i e;rw[show((i:Nat):Int)=b from by omega];omega
  . exact h i hi
 refine⟨g,A5g h g (by rw[qN]) (fun i j k=> ?_) (fun i j k=> ?_)⟩
 . rw[Ul a];split
   . rw[show i=b from by omega,Dy h c (by omega),Dy h d f]
   . exact Dy h j k
 . rw[Ul a];split
   . intro e;have:i=b:=by omega
     subst this;omega
   . exact id
def A9r {s:List Int} (h:UF s) {m M:Int} (l:0<=m) (c:m<=M) (a:M<(s.length:Int)) (k:I7 s m=m) (g:I7 s M=M):
 UF (s.set M.toNat m)/\∀i:Int,0<=i->i<(s.length:Int)->root (s.set M.toNat m) i=if root s i=M then m else root s i:=by
 have f:M.toNat<s.length:=by omega
 have d:UF (s.set M.toNat m):=fun i hi=>by
  rw[qN]at hi;rw[Ul f];split
  . omega
  . exact h i hi
 have a:(s.set M.toNat m).length=s.length:=qN;refine⟨d,fun i a c=> ?_⟩;refine XF d (q:=fun i=>root (s.set M.toNat m) i=if root s i=M then m else root s i) (fun b a c hb=> ?_) (fun b a c hb hn hq=> ?_) i a (by omega)
 . rw[Cv d a c hb];rw[Ul f]at hb;split at hb
   . have e:b=M:=by omega
     rw[e,Cv h (by omega) (by omega) g,qS rfl];omega
   . rename_i j;rw[Cv h a (by omega) hb,qL (by omega)]
 . rw[<-Dy d a c,hq];rw[Ul f]at hb⊢;split at hb
   . rename_i e;have e:b=M:=by omega
     have c:b.toNat=M.toNat:=by omega
     rw[qS c,e,Cv h (by omega) (by omega) g,Cv h l (by omega) k,qS rfl];split<;>rfl
   . rename_i j;rw[qL j,Dy h a (by omega)]
end Go.Proofs.YtiflhbllbgajeaaGreat
namespace Go.Proofs.YtiflhbllbgajeaaGreat
open Go.Vc Go.Gw
def A2e {n:Int} {ls:List Ln} :Rm n ls=0↔B0p n ls:=by
 unfold Rm B0p;split
 . constructor
   . intro h;omega
   . intro h;omega
 . split
   . rename_i b a;exact⟨fun _=>⟨by omega,by omega,a⟩,fun _=>rfl⟩
   . rename_i b a;exact⟨fun h=>by omega,fun h=>absurd h.2.2 a⟩
variable {α:Type}
def A9m (q:α->α->Prop) (d:α) (l:List α) (a i j:Nat):Prop:=∀s t,a<=s->s<t->t<=i->t≠j->q (l.getD s d) (l.getD t d)
def KU (d:α) (l:List α) (j:Nat):List α:=(l.set j (l.getD (j-1) d)).set (j-1) (l.getD j d)
def XQ {d:α} {l:List α} {j:Nat} (b:0<j) (a:j<l.length) (k:Nat):(KU d l j).getD k d=if k=j then l.getD (j-1) d else if k=j-1 then l.getD j d else l.getD k d:=by
 unfold KU;simp only[qF,xI,qN];by_cases h:k=j
 . subst h;rw[qL (by omega),qS rfl,qS rfl,qS a];rfl
 . rw[qL h];by_cases a:k=j-1
   . subst a;rw[qS rfl,qS (by omega),qS rfl];rfl
   . rw[qL (by omega),qL (by omega),qL a]
def A0j {d:α} {l:List α} {j:Nat} (a:j<l.length):(KU d l j).Perm l:=by
 have b:j-1<l.length:=by omega
 have:=List.set_set_perm (as:=l) a b;unfold KU;simp only[qF,qT a,qT b];exact this
def A0k {d:α} {l:List α} {j a:Nat} (h:a<=j-1):(KU d l j).take a=l.take a:=by
 unfold KU;rw[yS h,yS (by omega)]
def A0i {d:α} {l:List α} {j b:Nat} (h:j<b):(KU d l j).drop b=l.drop b:=by
 unfold KU;rw[yR (by omega),yR (by omega)]
def oY {q:α->α->Prop} {d:α} {l:List α} {a i:Nat} (h:∀s t,a<=s->s<t->t<i->q (l.getD s d) (l.getD t d)):A9m q d l a i i:=fun s t b c f g=>h s t b c (by omega)
def A4f {q:α->α->Prop} {d:α} {l:List α} {a i j:Nat} (h:A9m q d l a i j) (c:a<j) (b:j<l.length) (f:j<=i) (n:q (l.getD j d) (l.getD (j-1) d)):A9m q d (KU d l j) a i (j-1):=by
 intro s t g k f c;rw[XQ (by omega) b,XQ (by omega) b,qL c];by_cases c:t=j
 . rw[qS c,qL (by omega)];by_cases b:s=j-1
   . rw[qS b];exact n
   . rw[qL b];exact h s (j-1) g (by omega) (by omega) (by omega)
 . rw[qL c];by_cases b:s=j
   . rw[qS b];exact h (j-1) t (by omega) (by omega) f c
   . rw[qL b];by_cases b:s=j-1
     . rw[qS b];exact h j t (by omega) (by omega) f c
     . rw[qL b];exact h s t g k f c
def A9n {q:α->α->Prop} {d:α} {l:List α} {a i j:Nat} (h:A9m q d l a i j) (n:∀x y z,q x y->q y z->q x z) (r:j<=i) (c:a<j->q (l.getD (j-1) d) (l.getD j d)):∀s t,a<=s->s<t->t<i+1->q (l.getD s d) (l.getD t d):=by
 intro s t b g o;by_cases f:t=j
 . subst f;by_cases k:s=t-1
   . rw[k];exact c (by omega)
   . exact n _ _ _ (h s (t-1) b (by omega) (by omega) (by omega)) (c (by omega))
 . exact h s t b g (by omega) f
def WX {q:α->α->Prop} {d:α} {l:List α} {a b:Nat} (c:b<=l.length) (h:∀s t,a<=s->s<t->t<b->q (l.getD s d) (l.getD t d)):((l.drop a).take (b-a)).Pairwise q:=by
 rw[tY];intro i j c f g;rw[qW,sL]at c f;have e:∀k (hk:k<((l.drop a).take (b-a)).length),((l.drop a).take (b-a))[k]=l.getD (a+k) d:=fun k hk=>by
  rw[qW,sL]at hk;rw[g1c,List.getElem_drop,qF,qT (by omega)];rfl
 rw[e i (by rw[qW,sL];omega),e j (by rw[qW,sL];omega)];exact h _ _ (by omega) (by omega) (by omega)
def WY:∀(n:Nat) (f:Nat->Nat),(∀a,a<n+1->f a<n)->∃a b,a<b/\b<n+1/\f a=f b
 |0,f,h=>absurd (h 0 (by omega)) (by omega)
 |n+1,f,h=>by
  by_cases i:∃a,a<n+1/\f a=f (n+1)
  . obtain⟨a,c,g⟩:=i;exact⟨a,n+1,c,by omega,g⟩
  . have d:∀a,a<n+1->f a≠f (n+1):=fun a ha e=>i ⟨a,ha,e⟩
    obtain⟨a,b,c,g,i⟩:=WY n (fun a=>if f a<f (n+1)then f a else f a-1) fun a ha=>by
     have:=h a (by omega);have:=h (n+1) (by omega);have:=d a ha;split<;>omega
    refine⟨a,b,c,by omega, ?_⟩;have c:=d a (by omega);have c:=d b (by omega);split at i<;>split at i<;>omega
def Gj {n:Nat} {q:Nat->Nat} (g:∀a,a<n->q a<n) (f:∀a b,a<n->b<n->q a=q b->a=b) {j:Nat} (d:j<n):∃a,a<n/\q a=j:=
 qU fun c=>by
  have i:∀a,a<n->q a≠j:=fun a ha e=>c ⟨a,ha,e⟩
  obtain⟨a,b,h,k,c⟩:=WY n (fun a=>if a<n then q a else j) fun a ha=>by
   split
   . rename_i h;exact g a h
   . exact d
  by_cases d:b<n
  . rw[qS d,qS (by omega)]at c;have:=f a b (by omega) d c;omega
  . rw[qL d,qS (by omega)]at c;exact i a (by omega) c
def dot (n:Nat) (u x:Nat->Rat):Rat:=D1 n fun j=>u j*x j
def B3s (n k:Nat) (l:Nat->Rat) (R:Nat->Nat->Rat) (u x:Nat->Rat):D1 n (fun j=>(D1 k (fun m=>l m*R m j)+u j)*x j)=D1 k (fun m=>l m*dot n (R m) x)+dot n u x:=by
 have:(fun j=>(D1 k (fun m=>l m*R m j)+u j)*x j)=fun j=>D1 k (fun m=>l m*(R m j*x j))+u j*x j:=by
  funext j;rw[g2u, <-OK];congr 1;exact C1 fun m _=>wI _ _ _
 rw[this,Ha,Lp];congr 1;exact C1 fun m _=>Ms n (l m) _
def B5q (a b c:Rat):a+b=a+c+(b-c):=by grind
structure IV (n k:Nat) (A:Nat->Nat->Rat) (p q:Nat->Nat) (R Lo:Nat->Nat->Rat):Prop where
 kn:k<=n
 plt:∀m,m<k->p m<n
 qlt:∀m,m<k->q m<n
 pinj:∀a b,a<k->b<k->p a=p b->a=b
 qinj:∀a b,a<k->b<k->q a=q b->a=b
 dec:∀i j,i<n->j<n->A i j=D1 k (fun m=>Lo i m*R (p m) j)+R i j
 zero:∀m i,m<k->i<n->(∀a,a<=m->i≠p a)->R i (q m)=0
 piv:∀m,m<k->R (p m) (q m)≠0
 low:∀a m,a<k->m<k->a<=m->Lo (p a) m=0
def IV.init (n:Nat) (A:Nat->Nat->Rat) (p q:Nat->Nat) (Lo:Nat->Nat->Rat):IV n 0 A p q A Lo:=
 ⟨rM _,fun _ h=>absurd h (uY _),fun _ h=>absurd h (uY _),fun _ _ h=>absurd h (uY _),fun _ _ h=>absurd h (uY _),fun i j _ _=>by rw[D1,tF],fun _ _ h=>absurd h (uY _),fun _ h=>absurd h (uY _),fun _ _ h=>absurd h (uY _)⟩
section
variable {n k:Nat} {A R Lo R' Lo':Nat->Nat->Rat} {p q p' q':Nat->Nat}
def IV.step (h:IV n k A p q R Lo) {r c:Nat} {fac:Nat->Rat} (Y:k<n) (z:r<n) (B:c<n) (E:∀a,a<k->r≠p a) (I:∀a,a<k->c≠q a) (J:R r c≠0)
 (o:∀m,m<k->p' m=p m) (v:p' k=r) (w:∀m,m<k->q' m=q m) (y:q' k=c)
 (Q:∀i,i<n->i≠r->(∀a,a<k->i≠p a)->fac i=R i c/R r c) (G:fac r=0) (H:∀a,a<k->fac (p a)=0)
 (x:∀i j,i<n->j<n->R' i j=R i j-fac i*R r j) (M:∀i m,i<n->m<k->Lo' i m=Lo i m) (F:∀i,i<n->Lo' i k=fac i):IV n (k+1) A p' q' R' Lo':=by
 have O:∀j,j<n->R' r j=R r j:=fun j u=>by rw[x r j z u,G,tJ,tI,wJ,rN]
 have N:∀a j,a<k->j<n->R' (p a) j=R (p a) j:=fun a j d u=>by rw[x _ j (h.plt a d) u,H a d,tJ,tI,wJ,rN]
 have s:∀m,m<k+1->m<k\/m=k:=fun m b=>by omega
 refine⟨Y,fun m b=> ?_,fun m b=> ?_,fun a l d g f=> ?_,fun a l d g f=> ?_,fun i j t u=> ?_,fun m i b t D=> ?_,fun m b=> ?_,fun a m d b V=> ?_⟩
 . rcases s m b with b|rfl
   . rw[o m b];exact h.plt m b
   . rw[v];exact z
 . rcases s m b with b|rfl
   . rw[w m b];exact h.qlt m b
   . rw[y];exact B
 . rcases s a d with d|rfl<;>rcases s l g with g|rfl
   . rw[o a d,o l g]at f;exact h.pinj a l d g f
   . rw[o a d,v]at f;exact absurd f.symm (E a d)
   . rw[v,o l g]at f;exact absurd f (E l g)
   . rfl
 . rcases s a d with d|rfl<;>rcases s l g with g|rfl
   . rw[w a d,w l g]at f;exact h.qinj a l d g f
   . rw[w a d,y]at f;exact absurd f.symm (I a d)
   . rw[y,w l g]at f;exact absurd f (I l g)
   . rfl
 . have P:D1 k (fun m=>Lo' i m*R' (p' m) j)=D1 k (fun m=>Lo i m*R (p m) j):=C1 fun m b=>by rw[M i m t b,o m b,N m j b u]
   rw[D1,v,O j u,F i t,x i j t u,h.dec i j t u,P];exact B5q _ _ _
 . rcases s m b with b|rfl
   . have T:=h.zero m i b t fun a d=>by have:=D a d;rwa[o a (by omega)]at this
     have U:=h.zero m r b z fun a d=>E a (by omega)
     rw[w m b,x i _ t (h.qlt m b),T,U,uW,tI,wJ,rN]
   . have X:i≠r:=by have:=D m (qZ _);rwa[v]at this
     have W:∀a,a<m->i≠p a:=fun a d=>by have:=D a (by omega);rwa[o a d]at this
     rw[y,x i c t B,Q i t X W,wU,wI,g0v _ J,g2y,tI,g3n]
 . rcases s m b with b|rfl
   . rw[o m b,w m b,N m _ b (h.qlt m b)];exact h.piv m b
   . rw[v,y,O c B];exact J
 . rcases s m b with b|rfl
   . rw[o a (by omega),M _ m (h.plt a (by omega)) b];exact h.low a m (by omega) b V
   . rcases s a d with d|rfl
     . rw[o a d,F _ (h.plt a d)];exact H a d
     . rw[v,F r z];exact G
def IV.dot (h:IV n k A p q R Lo) (x:Nat->Rat) {i:Nat} (a:i<n):D1 n (fun j=>A i j*x j)=D1 k (fun m=>Lo i m*dot n (R (p m)) x)+Go.Proofs.YtiflhbllbgajeaaGreat.dot n (R i) x:=by
 rw[<-B3s n k (Lo i) (fun m=>R (p m)) (R i) x];exact C1 fun j b=>by rw[h.dec i j a b]
def IV.stuck (h:IV n k A p q R Lo) {c:Nat} (w:c<n) (v:∀a,a<k->c≠q a) (z:∀i,i<n->(∀a,a<k->i≠p a)->R i c=0):¬nonsing n A:=by
 have y:∀t,t<=k->∃x:Nat->Rat,x c=1/\(∀j,j≠c->(∀m,m<k->j≠q m)->x j=0)/\∀m,k-t<=m->m<k->Go.Proofs.YtiflhbllbgajeaaGreat.dot n (R (p m)) x=0:=by
  intro t
  induction t with
  |zero=>exact fun _=>⟨fun j=>if j=c then 1 else 0,qS rfl,fun j b _=>qL b,fun m f hmk=>by omega⟩
  |succ t b=>
   intro f;obtain⟨x,r,s,l⟩:=b (by omega);have f:k-(t+1)<k:=by omega
   generalize o:k-(t+1)=b at f;have t:∀(u:Nat->Rat) (d:Rat),Go.Proofs.YtiflhbllbgajeaaGreat.dot n u (fun j=>x j+if j=q b then d else 0)=Go.Proofs.YtiflhbllbgajeaaGreat.dot n u x+u (q b)*d:=fun u d=>by
    unfold Go.Proofs.YtiflhbllbgajeaaGreat.dot;rw[C1 (g:=fun j=>u j*x j+u j*if j=q b then d else 0) fun j _=>Rat.mul_add _ _ _,Ha];congr 1;rw[O7 (h.qlt b f) fun j _ o=>by rw[qL o,uW],qS rfl]
   refine⟨fun j=>x j+if j=q b then-(Go.Proofs.YtiflhbllbgajeaaGreat.dot n (R (p b)) x)/R (p b) (q b)else 0, ?_,fun j o hq=> ?_,fun m h1 h2=> ?_⟩
   . show x c+(if c=q b then _ else 0)=1;rw[qL (v b f),r,rN]
   . show x j+(if j=q b then _ else 0)=0;rw[qL (hq b f),s j o hq,rN]
   . rw[t];by_cases o:m=b
     . subst o;have:=h.piv m h2;rw[wU,g3z,wI,g0v _ this,g2y,g3n]
     . rw[l m (by omega) h2,h.zero b (p m) f (h.plt m h2) fun a o e=>by have:=h.pinj m a h2 (by omega) e;omega,tJ,rN]
 obtain⟨x,r,s,l⟩:=y k (qZ _);intro y;have v:∀i,i<n->D1 n (fun j=>A i j*x j)=0:=fun i hi=>by
  rw[h.dot x hi,Bu fun m b=>by rw[l m (by omega) b,uW],tF];by_cases o:∃a,a<k/\i=p a
  . obtain⟨a,f,rfl⟩:=o;exact l a (by omega) f
  . refine Bu fun j l=> ?_
    by_cases l:j=c
    . rw[l,z i hi fun a f e=>o ⟨a,f,e⟩,tJ]
    . by_cases t:∃m,m<k/\j=q m
      . obtain⟨m,b,rfl⟩:=t;rw[h.zero m i b hi fun a f e=>o ⟨a,by omega,e⟩,tJ]
      . rw[s j l fun m b e=>t ⟨m,b,e⟩,uW]
 have:=y x v c w;rw[r]at this;exact absurd this (by decide)
def IV.nonsing (h:IV n n A p q R Lo):nonsing n A:=by
 intro x d;have f:∀a,a<n->Go.Proofs.YtiflhbllbgajeaaGreat.dot n (R (p a)) x=0:=by
  intro a
  induction a using Nat.strongRecOn with
  |ind a g=>
   intro b;have c:=d (p a) (h.plt a b);rw[h.dot x (h.plt a b),Bu fun m d=> ?_,tF]at c
   . exact c
   . by_cases c:m<a
     . rw[g m c d,uW]
     . rw[h.low a m b d (by omega),tJ]
 have j:∀t b,t<n->b=n-1-t->x (q b)=0:=by
  intro t
  induction t using Nat.strongRecOn with
  |ind t k=>
   intro b c g;have c:b<n:=by omega
   have d:=f b c;unfold Go.Proofs.YtiflhbllbgajeaaGreat.dot at d;rw[O7 (h.qlt b c) fun l f i=> ?_]at d
   . exact(g0e.1 d).resolve_left (h.piv b c)
   . obtain⟨m,d,rfl⟩:=Gj h.qlt h.qinj f;by_cases o:m<b
     . rw[h.zero m (p b) d (h.plt b c) fun a o e=>by have:=h.pinj b a c (by omega) e;omega,tJ]
     . have a:m≠b:=fun e=>i (by rw[e])
       rw[k (n-1-m) (by omega) m (by omega) (by omega),uW]
 intro l f;obtain⟨b,g,rfl⟩:=Gj h.qlt h.qinj f;exact j (n-1-b) b (by omega) (by omega)
def IV.prod (h:IV n n A p q R Lo) {a b:Nat} (c:a<n) (d:b<n):A (p a) (q b)=D1 n fun m=>(Lo (p a) m+if m=a then 1 else 0)*R (p m) (q b):=by
 rw[h.dec _ _ (h.plt a c) (h.qlt b d),C1 (f:=fun m=>(Lo (p a) m+if m=a then 1 else 0)*R (p m) (q b)) (g:=fun m=>Lo (p a) m*R (p m) (q b)+(if m=a then 1 else 0)*R (p m) (q b)) fun m _=>g2u _ _ _,Ha];congr 1;rw[O7 c fun m _ d=>by rw[qL d,tJ],qS rfl,xT]
end
end Go.Proofs.YtiflhbllbgajeaaGreat
namespace Go.Proofs.YtiflhbllbgajeaaGreat
def Lab (L:List Int):Prop:=∀i:Int,0<=i->i<(L.length:Int)->0<=I7 L i/\I7 L i<=i/\I7 L (I7 L i)=I7 L i
def Dt (L:List Int) (l:Ln):(Ft L l).length=L.length:=by simp[Ft]
def SL {L:List Int} {i:Int} (a:0<=i) (b:i<(L.length:Int)):L[i.toNat]? =some (I7 L i):=by
 have:i.toNat<L.length:=by omega
 unfold I7;rw[qF,qT this];rfl
def Du {L:List Int} {l:Ln} {i:Int} (b:0<=i) (c:i<(L.length:Int)):I7 (Ft L l) i=if I7 L i=max (I7 L l.1) (I7 L l.2)then min (I7 L l.1) (I7 L l.2)else I7 L i:=by
 have a:=SL (L:=Ft L l) b (by rw[Dt];exact c);unfold Ft at a;rw[wO,SL b c]at a;simp only[vR,rC]at a;exact a.symm
def Oi (n:Int):(oV n).length=n.toNat:=by simp[oV]
def DF {n i:Int} (b:0<=i) (a:i<n):I7 (oV n) i=i:=by
 have a:=SL (L:=oV n) b (by rw[Oi];omega);unfold oV at a;rw[wO,g0j (by omega)]at a;simp only[vR,rC]at a;rw[show I7 (oV n) i= _ from a.symm];show((i.toNat:Nat):Int)=i;omega
def A1s (n:Int):Lab (oV n):=fun i a b=>by
 rw[Oi]at b;rw[DF a (by omega),DF a (by omega)];omega
def Lab.join {L:List Int} {l:Ln} (h:Lab L) (i:ZQ L.length l):Lab (Ft L l):=fun j b a=>by
 rw[Dt]at a;obtain⟨c,d,f,g⟩:=i;obtain⟨i,k,n⟩:=h _ c d;obtain⟨c,d,i⟩:=h _ f g;obtain⟨c,d,f⟩:=h j b a;rw[Du b a];have a:I7 L (min (I7 L l.1) (I7 L l.2))=min (I7 L l.1) (I7 L l.2):=by
  rcases(by omega:min (I7 L l.1) (I7 L l.2)=I7 L l.1\/min (I7 L l.1) (I7 L l.2)=I7 L l.2)with e|e<;>rw[e]<;>assumption
 split
 . rename_i e;refine⟨by omega,by omega, ?_⟩;rw[Du (by omega) (by omega),a];split<;>rfl
 . rename_i e;refine⟨c,d, ?_⟩;rw[Du c (by omega),f,qL e]
def A4m (n:Int) (ls:List Ln) (l:Ln):Ap n (ls++ [l])=Ft (Ap n ls) l:=by simp[Ap,List.foldl_append]
def Zg (n:Int) (ls:List Ln):(Ap n ls).length=n.toNat:=by
 unfold Ap;have:∀(ls:List Ln) (L:List Int),(ls.foldl Ft L).length=L.length:=by
  intro ls
  induction ls with
  |nil=>intro L;rfl
  |cons l ls a=>intro L;rw[xZ,a,Dt]
 rw[this,Oi]
def A9x {n:Int} {ls:List Ln} (a:0<=n) (h:∀l∈ls,ZQ n l):Lab (Ap n ls):=by
 unfold Ap;have:∀(ls:List Ln) (L:List Int),L.length=n.toNat->(∀l∈ls,ZQ n l)->Lab L->Lab (ls.foldl Ft L):=by
  intro ls
  induction ls with
  |nil=>intro L _ _ h;exact h
  |cons l ls c=>
   intro L b a h;rw[xZ];refine c _ (by rw[Dt];exact b) (fun x c=>a x (by simp[c])) (h.join ?_);have:=a l (by simp);rw[b,show((n.toNat:Nat):Int)=n from by omega];exact this
 exact this ls _ (Oi n) h (A1s n)
def A5x {a:Type} {l:List a} {j:Nat} {d:a} (h:j<l.length):l.take (j+1)=l.take j++ [l.getD j d]:=by
 rw[rQ,qT h,qF,qT h];rfl
def pA {L:List Int} {l:Ln} {u v:Int} (u0:0<=u) (u1:u<(L.length:Int)) (v0:0<=v) (v1:v<(L.length:Int)) (h:I7 L u=I7 L v):I7 (Ft L l) u=I7 (Ft L l) v:=by
 rw[Du u0 u1,Du v0 v1,h]
def A4j {L:List Int} {l:Ln} (f:ZQ L.length l):I7 (Ft L l) l.1=I7 (Ft L l) l.2:=by
 obtain⟨a,b,c,d⟩:=f;rw[Du a b,Du c d];split<;>split<;>omega
def UZ {n:Int} (b:0<=n) {u v:Int} (u0:0<=u) (u1:u<n) (v0:0<=v) (v1:v<n):∀(ls:List Ln) (L:List Int),L.length=n.toNat->I7 L u=I7 L v->I7 (ls.foldl Ft L) u=I7 (ls.foldl Ft L) v
 | [],_,_,h=>h
 |l::ls,L,a,h=>by
  rw[xZ];exact UZ b u0 u1 v0 v1 ls _ (by rw[Dt];exact a) (pA u0 (by omega) v0 (by omega) h)
def bR {n:Int} (f:0<=n) {l:Ln} :∀(ls:List Ln) (L:List Int),L.length=n.toNat->(∀l∈ls,ZQ n l)->l∈ls->I7 (ls.foldl Ft L) l.1=I7 (ls.foldl Ft L) l.2
 | [],_,_,_,h=>by cases h
 |x::ls,L,a,d,h=>by
  rw[xZ];have j:=d x (by simp);rcases qG.1 h with rfl|h
  . obtain⟨b,g,c,i⟩:=j;exact UZ f b g c i ls _ (by rw[Dt];exact a) (A4j (by rw[a];exact⟨b,by omega,c,by omega⟩))
  . exact bR f ls _ (by rw[Dt];exact a) (fun y b=>d y (by simp[b])) h
def A4l {n:Int} {ls:List Ln} (b:0<=n) (a:∀l∈ls,ZQ n l) {l:Ln} (h:l∈ls):I7 (Ap n ls) l.1=I7 (Ap n ls) l.2:=bR b ls _ (Oi n) a h
def bQ {a:Type} {n:Int} (s:0<=n) {f:Int->a} :∀(ls:List Ln) (L:List Int),L.length=n.toNat->Lab L->(∀l∈ls,ZQ n l/\f l.1=f l.2)->(∀i:Int,0<=i->i<n->f (I7 L i)=f i)->∀i:Int,0<=i->i<n->f (I7 (ls.foldl Ft L) i)=f i
 | [],_,_,_,_,h=>h
 |l::ls,L,c,r,d,h=>by
  rw[xZ];obtain⟨⟨a,g,b,o⟩,j⟩:=d l (by simp);have k:ZQ (L.length:Int) l:=by rw[c];exact⟨a,by omega,b,by omega⟩
  refine bQ s ls _ (by rw[Dt];exact c) (r.join k) (fun y s=>d y (by simp[s])) fun i c k=> ?_
  rw[Du c (by omega)];split
  . rename_i e;have d:=h _ a g;have g:=h _ b o;have b:=h i c k;rcases(by omega:min (I7 L l.1) (I7 L l.2)=I7 L l.1\/min (I7 L l.1) (I7 L l.2)=I7 L l.2)with e1|e1<;>
    rcases(by omega:max (I7 L l.1) (I7 L l.2)=I7 L l.1\/max (I7 L l.1) (I7 L l.2)=I7 L l.2)with a|a
    . rw[e1, <-b,e,a]
    . rw[e1, <-b,e,a,d,g,j]
    . rw[e1, <-b,e,a,d,g,j]
    . rw[e1, <-b,e,a]
  . exact h i c k
def A4k {a:Type} {n:Int} {ls:List Ln} (d:0<=n) (b:∀l∈ls,ZQ n l) {f:Int->a} (c:∀l∈ls,f l.1=f l.2):∀i:Int,0<=i->i<n->f (I7 (Ap n ls) i)=f i:=
 bQ d ls _ (Oi n) (A1s n) (fun l a=>⟨b l a,c l a⟩) fun i d g=>by rw[DF d g]
end Go.Proofs.YtiflhbllbgajeaaGreat
namespace Go.Vc
open Go Go.RowKit Go.Gw
def O0 (o:Oper):List Nat:=(o.after.toList.filter fun e=>Region.binds .any e).map (·.on)
def A2z {c:Type} [DecidableEq c]:∀ {a b:List c},a.Nodup->(∀x∈a,x∈b)->a.length<=b.length
 | [],_,_,_=>rM _
 |x::a,b,c,h=>by
  obtain⟨d,f⟩:=sF.1 c;have c:=h x (rA);have:=A2z (a:=a) (b:=b.erase x) f fun y hy=>(zZ (fun e=>d (by rw[<-e];exact hy))).2 (h y (qJ _ hy))
  rw[yX c]at this;have:=zN c;rw[rI];omega
def NF {l:Array Bool} {j:Nat} (c:j<l.size) (a b:Bool):l.getD j a=l.getD j b:=by
 simp only[uM,tX c,uZ]
def B3g {P:Program} {n:Nat} {all:List Oper} {Q:Exit->F9->World->Prop} (v:bJ n all=true) (u:∀i o,all[i]? =some o->∀j∈O0 o,j<i) {Inv:List Nat->F9->World->Prop}
 (A:∀(L:List Nat) (i:Nat) (o:Oper) (E:F9) (w:World),all[i]? =some o->i∉L->(∀j∈O0 o,j∈L)->Inv L E w->I5 P all o (Inv (i::L)) E w)
 (l:∀(L:List Nat) (E:F9) (w:World),(∀i,i<all.length->i∈L)->Inv L E w->Q .normal E w):
 ∀(f:Nat) (listed:Array Bool) (L:List Nat) (a:Act) (E:F9) (w:World),listed.size=all.length->(∀i,i∈L↔listed.getD i false=true)->L.Nodup->L.length+f=all.length->Gw.C4 n a E->Inv L E w->wpAny P .any all.toArray (EU n Q) f listed a w:=by
 have s:∀ {listed:Array Bool} {L:List Nat},listed.size=all.length->(∀i,i∈L↔listed.getD i false=true)->∀i∈L,i<all.length:=fun {listed L} g c i d=>by
  have h:=(c i).1 d;rw[<-g];refine qU fun k=> ?_
  rw[uM,zJ (by omega)]at h;cases h
 intro f
 induction f with
 |zero=>
  intro listed L a E w g c y h z r;have k:∀i,i<all.length->i∈L:=fun i d=>qU fun t=>by
   have:=A2z (a:=i::L) (b:=List.range all.length) (sF.2 ⟨t,y⟩) fun x h=>by
    rcases qG.1 h with rfl|h
    . exact wY.2 d
    . exact wY.2 (s g c x h)
   rw[rI,g1d]at this;omega
  refine⟨List.eq_nil_iff_forall_not_mem.2 fun j s=> ?_,E,z,l L E w k r⟩;obtain⟨h,o,r,_⟩:=mem_ready.1 s;rw[vM]at r;have s:=(sB.1 r).1;have:=(c j).1 (k j s);rw[NF (by omega) true false,this]at h;cases h
 |succ f z=>
  intro listed L a E w g c y f t s;refine⟨fun h=>⟨E,t,l L E w (fun i=> ?_) s⟩,fun i d=> ?_⟩
  . induction i using Nat.strongRecOn with
    | _ i r=>
     intro d;refine qU fun f=> ?_
     have:i∈Region.ready .any all.toArray listed:=mem_ready.2 ⟨?_,all[i],by rw[vM,qT d],fun e l hb=> ?_⟩
     . rw[h]at this;cases this
     . cases h:listed.getD i true with
       |false=>rfl
       |true=>exact absurd ((c i).2 (by rw[NF (by omega) false true];exact h)) f
     . have k:e.on∈O0 all[i]:=tA.2 ⟨e,vZ.2 ⟨g2i.2 l,hb⟩,rfl⟩;have h:=u i _ (qT d) _ k;exact(c _).1 (r _ h (by omega))
  . obtain⟨r,o,h,k⟩:=mem_ready.1 d;rw[vM]at h;have d:=(sB.1 h).1;have d:i∉L:=fun f=>by
     have:=(c i).1 f;rw[NF (by omega) true false,this]at r;cases r
    refine Vn v h (fun r E' B u f=>z _ (i::L) r E' B (by rw[Array.size_setIfInBounds];exact g) (fun j=> ?_) (sF.2 ⟨d,y⟩) (by rw[rI];omega) u f) t (A L i o E w h d (fun j g=> ?_) s)
    . by_cases d:j=i
      . subst d;simp only[qG,true_or,true_iff,uM];rw[Array.getElem?_setIfInBounds_self_of_lt (by omega)];rfl
      . rw[getD_set_ne false (Ne.symm d), <-c j,qG];exact⟨fun h=>h.resolve_left d, .inr⟩
    . obtain⟨e,l,rfl⟩:=tA.1 g;obtain⟨d,f⟩:=vZ.1 l;exact(c _).2 (k e (g2i.1 d) f)
section
variable {za:Zn} {w0:World} {cx:Cx} {sp:H0} {an:An} {n:Nat}
def B7.look {b:St} {E:F9} {w:World} {Z:Nat->Prop} {B:Nat->Value} (h:B7 za w0 b E w Z B) {a:St} (g:∀s,a.S s=b.S s\/a.S s= .dead) (c:∀k,a.L k=b.L k) (f:a.nm=b.nm) (l:a.nm<=a.nx) (d:a.fr= []) (i:b.fr= [])
 (o:∀s,Ny a.nx (a.S s)) (j:∀k,Ld a.nx (a.L k)) (n:∀k,a.nx<=k->a.L k= .none):B7 za w0 a E w Z B:=
 ⟨h.ext,h.zlt,fun s=>by
  rcases g s with e|e
  . rw[e];exact h.slots s
  . rw[e];trivial,fun k=>by rw[c];exact h.locs k,fun k a b=>by rw[c,c];exact h.disj k a b,o,j,n,h.bone,h.zin,⟨f.trans h.nms.1,by rw[<-h.nms.1, <-f];exact l⟩,h.bfix,⟨h.mrk.1,fun k b f a=>by rw[c]at a;exact h.mrk.2 k b f a⟩,by
  have:=h.frs;rw[i]at this;rw[d];exact this,fun f a=>by rw[d]at a;cases a⟩
def B1z {P:Program} {a b:Code} {c:St->Prop} {Q:Exit->F9->World->Prop} {E:F9} {w:World} (f:Gw.Wp P n a (post za w0 ⟨c,fun _ _=>False,fun _=>False⟩) E w) (h:∀d E w Z B,B7 za w0 d E w Z B->c d->Gw.Wp P n b Q E w):Gw.Wp P n (.seq a b) Q E w:=by
 intro c d g;simp only[X5,qC]at c;refine wp_seq (wp_mono (f c.1 d g) ?_);rintro e f k ⟨E',i,j,Z',B',g,d⟩;cases e with
 |normal=>exact h _ _ _ _ _ g d c.2 f i
 | _=>exact d.elim
def B5d {P:Program} {id:Nat} {ops:Array Oper} {Q:Exit->F9->World->Prop} {E:F9} {w:World} (g:P.follows .mixedOrders=true) (f:∀i o,ops.toList[i]? =some o->∀j∈O0 o,j<i) {Inv:List Nat->F9->World->Prop}
 (l:∀(L:List Nat) (i:Nat) (o:Oper) (E:F9) (w:World),ops.toList[i]? =some o->i∉L->(∀j∈O0 o,j∈L)->Inv L E w->I5 P ops.toList o (Inv (i::L)) E w)
 (d:∀(L:List Nat) (E:F9) (w:World),(∀i,i<ops.toList.length->i∈L)->Inv L E w->Q .normal E w) (c:Inv [] E w.drew):Gw.Wp P n (.region id ops true) Q E w:=by
 intro a b k;simp only[X5]at a;have h:ops=ops.toList.toArray:=by simp
 rw[h];refine wp_region_any g ?_;have:=B3g (P:=P) a f l d ops.toList.length (Array.replicate ops.toList.length false) [] b E w.drew (by simp) (fun i=> ?_) xR (by simp) k c
 . simpa using this
 . simp only[rY,false_iff,uM,xM];split<;>simp
end
def hd1 (a:St) (d:Nat) (v:DV):St:=⟨(d,0,v)::a.sl,a.lc,a.nx,a.ct,a.nm,a.fr⟩
def hdL (a:St) (k:Nat) (l:LC):St:=⟨a.sl,(k,0,l)::a.lc,a.nx,a.ct,a.nm,a.fr⟩
def FT (a:St) (d s:Nat) (v:DV):(hd1 a d v).S s=if s=d then v else a.S s:=by
 show(find (0, .dead) s ((d,0,v)::a.sl)).2= _;simp only[find];by_cases h:s=d
 . subst h;simp
 . rw[C8 (Ne.symm h),qL h];rfl
def A0v (a:St) (k q:Nat) (l:LC):(hdL a k l).L q=if q=k then l else a.L q:=by
 show(find (0, .none) q ((k,0,l)::a.lc)).2= _;simp only[find];by_cases h:q=k
 . subst h;simp
 . rw[C8 (Ne.symm h),qL h];rfl
def B0t {n k:Nat} (a:n<=k):∀ {c:C},Ch n c->ZP k c=false
 | .row j,h=>C8 (tT (rB h a))
 | .mp j,h=>C8 (tT (rB h a))
 | .win j _ _ _,h=>C8 (tT (rB h a))
 | .box _ _,_=>rfl
 | .elp _ _ _ _,_=>rfl
 | .val _ _,_=>rfl
 | .pf _ _ _,_=>rfl
 | .fn _ _,_=>rfl
 | .fv _ _ _ _ _ _,_=>rfl
 | .raw _,_=>rfl
 | .dead,_=>rfl
def pM {n k:Nat} (b:n<=k) {s:SV} (h:Le n s):s.cs.any (ZP k)=false:=by
 rw[wM];intro c a;rw[B0t b (h c a)];simp
def B9b {n k:Nat} (a:n<=k):∀ {d:DV},Ny n d->Vz k d=false
 | .one s,h=>pM a h
 | .cnd _ _ s,h=>pM a h
 | .dead,_=>rfl
 | .tup b,h=>by
  show b.any _=false;rw[wM];intro s b;rw[pM a (h s b)];simp
def B9c {n k:Nat} (b:n<=k):∀ {l:LC},Ld n l->VB k l=false
 | .box _ a,h=>by
  show a.any _=false;rw[wM];intro c a;rw[B0t b (h c a)];simp
 | .none,_=>rfl
 | .row _ _ _,_=>rfl
 | .map _ _ _ _ _,_=>rfl
 | .rows _ _ _ _ _ _,_=>rfl
 | .al _,_=>rfl
 | .sbox _ _ _,_=>rfl
 | .mapE _ _ _ _ _ _ _,_=>rfl
 | .iter _ _ _ _ _ _,_=>rfl
 | .nest _ _ _ _ _ _,_=>rfl
 | .itM _ _ _ _ _ _ _ _,_=>rfl
section
variable {za:Zn} {w0:World} {st:St} {E:F9} {w:World} {Z:Nat->Prop} {B:Nat->Value}
def B7.hd1 (h:B7 za w0 st E w Z B) {d:Nat} {v:DV} (a:st.S d=v):B7 za w0 (hd1 st d v) E w Z B:=by
 have e:∀s,(Vc.hd1 st d v).S s=st.S s:=fun s=>by
  rw[FT];split
  . rename_i h;subst h;exact a.symm
  . rfl
 exact⟨h.ext,h.zlt,fun s=>by rw[e];exact h.slots s,h.locs,h.disj,fun s=>by rw[e];exact h.refs s,h.refl,h.fresh,h.bone,h.zin,h.nms,h.bfix,h.mrk,h.frs,h.frf⟩
def B7.hdL (h:B7 za w0 st E w Z B) {k:Nat} {l:LC} (c:st.L k=l):B7 za w0 (hdL st k l) E w Z B:=by
 have e:∀s,(Vc.hdL st k l).L s=st.L s:=fun s=>by
  rw[A0v];split
  . rename_i h;subst h;exact c.symm
  . rfl
 exact⟨h.ext,h.zlt,h.slots,fun s=>by rw[e];exact h.locs s,fun a b d=>by rw[e,e];exact h.disj a b d,h.refs,fun s=>by rw[e];exact h.refl s,fun s c=>by rw[e];exact h.fresh s c,h.bone,h.zin,h.nms,h.bfix,⟨h.mrk.1,fun a b f d=>by rw[e]at d;exact h.mrk.2 a b f d⟩,h.frs,h.frf⟩
def B7.unrow {d:Nat} {t:Ty} {e:TypeId} {l:List t.den} (h:B7 za w0 (rowS st d t e l) E w Z B) (i:st.nm<=st.nx) (c:st.fr= []) (j:∀s,Ny st.nx (st.S s)) (g:∀k,Ld st.nx (st.L k)) (f:∀k,st.nx<=k->st.L k= .none) (a:∀s,Ma d (st.S s)=false):
 ∃Z',B7 za w0 (Vc.hd1 st d (.one ⟨false,[.val (.sl t) l]⟩)) E w Z' B:=by
 obtain⟨Z',b⟩:=h.settle [.row st.nx];have n:(rowS st d t e l).L st.nx= .row t e l:=by
  show((st.newL (.row t e l)).setS d (one1 (.row st.nx))).L st.nx= _;rw[St.L_setS,St.L_newL,qS rfl]
 have o:(rowS st d t e l).nm=st.nm:=rfl;simp only[Vc.settle,n,o,Nat.ble_eq_true_of_le i,qR]at b;refine⟨Z',b.look (fun s=> .inl ?_) (fun k=> ?_) rfl i c ?_ (fun s=> ?_) g f⟩
 . rw[FT,St.S_freeze];show _=ER st.nx _ (((st.newL (.row t e l)).setS d (one1 (.row st.nx))).S s);rw[St.S_setS,St.S_newL];by_cases b:s=d
   . subst b;rw[qS rfl,qS rfl];simp[ER,fI,one1,Za]
   . rw[qL b,qL b,a s];simp only[rD];rw[NG (B9b (qZ _) (j s))]
 . rw[St.L_freeze];show st.L k=fH st.nx _ (if k=st.nx then LC.none else(st.newL (.row t e l)).L k);rw[St.L_newL];by_cases b:k=st.nx
   . subst b;rw[qS rfl,f _ (qZ _)];rfl
   . rw[qL b,qL b,bU (B9c (qZ _) (g k))]
 . show(rowS st d t e l).fr.map _= [];show st.fr.map _= [];rw[c];rfl
 . rw[FT];split
   . intro c a;simp only[qP]at a;subst a;trivial
   . exact j s
end
section
variable {za:Zn} {w0:World} {cx:Cx} {sp:H0} {an:An} {n:Nat}
def A4u {f:FuncId} {fn:Func} {c:Code} {s:A7} (d:cx.P.funcs[f]? =some fn) (a:fn.body=some c) (g:s.args.length<=fn.ntmps) (h:X5 fn.ntmps c=true) (T:H3 cx.P cx.tys=true)
 (J:∀x,awf s.args x->s.pre x->∀(za:Zn) (w0:World) (E:F9) (w:World) (Z:Nat->Prop) (B:Nat->Value),za.b0=0->B7 za w0 (VG cx.P s.args x) E w Z B->Gw.Wp cx.P fn.ntmps c (post za w0 ⟨fin cx s fn.results.toList x,fun _ _=>False,fin cx s fn.results.toList x⟩) E w):A8 cx.P f s:=by
 intro w Z i x l A b O;have r:i.length=s.args.length:=A.len;generalize k:zn0 w Z s.args i=za;have D:=A1o l A b;rw[k]at D;refine Yp d a (by rw[r];exact g) h (fun E l=>Nx za w (fin cx s fn.results.toList x) E l) ?_ ⟨fun N H z=> ?_⟩
 . rintro E l o R ⟨b,Z',B',y,h⟩;unfold fin at h;split at h
   . rename_i ss b;split at h
     . rename_i b Q;split at h
       . rename_i t G z M;obtain⟨g,b⟩:=B4 h;simp only[qC]at g;obtain⟨Z0,d⟩:=B7.settleR (rs:=s.res) (ss:=ss) y;obtain⟨Z1,n⟩:=B7.settleM (as:=s.args) (j:=0) d;obtain⟨v,F,I⟩:=AB T n R Q;have Q:(results fn o).run cx.P l= .ok (Wd v) l:=by
          have d:(fn.results.mapM (ZO o)).run cx.P l= .ok v.toArray l:=by
           rw[xB];simp[F]
          have e:results fn o=(do let i<-fn.results.mapM (ZO o);pure (if y:i.size=1 then i[0]else .tuple i)):=by
           unfold results;congr 1
          rw[e];simp only[Sem.run_bind,d,Result.andThen_ok,Sem.run_pure]
          match v with
          | []=>rfl
          | [u]=>rfl
          |u::o::t=>rfl
         have F:s.post x t/\(N3 s.args=true->s.mpost x t G):=by
          unfold B8i at b;cases d:N3 s.args with
          |true=>simp only[d,qR]at b;exact⟨b.1,fun _=>b.2⟩
          |false=>simp only[d,rD]at b;exact⟨b,fun o=>by cases o⟩
         refine⟨_,Q, ?_,t,G,v,(fun b=>s.shared=true/\Z1 b),F.1,F.2,rfl,fun b a=> ?_, ?_, ?_⟩
         . have:=y.ext;rw[<-k]at this;exact this
         . rcases n.zin b a.2 with o|o
           . rw[<-k]at o;exact .inr ⟨a.1,o⟩
           . exact .inl ⟨o,n.zlt b a.2⟩
         . refine(Mn n (Zn:=fun b=>s.shared=true/\Z1 b) (fun b a=>a.2) ?_ I z (Fv g.1.1) g.1.2).1;cases t:s.shared with
           |true=>exact .inl fun b a=>⟨rfl,a⟩
           |false=>rw[t]at g;simp only[vN,qC]at g;exact .inr g.2.1
         . refine Uh (Zn:=fun b=>s.shared=true/\Z1 b) n (j:=0) ?_ (fun m u d=> ?_) (fun m p d b o=> ?_) r M
           . cases t:s.shared with
             |true=>exact .inl fun b a=>⟨rfl,a⟩
             |false=>rw[t]at g;simp only[vN,qC]at g;exact .inr g.2.2
           . have b:=FU d;rw[R8 r]at b;have:=n.bfix m (by rw[<-k];exact b);rw[sE,this, <-k];show VV s.args i m=u;simp only[VV,d,uZ]
           . rw[<-k,sE]at o;rcases o with⟨o,_⟩ | ⟨_,n,g,a⟩
             . have b:=FU (show(D3 s.args i)[m]? =some p.2 by rw[Mc,wO,d];rfl);rw[R8 r]at b;have o:Ke s.args<=m:=o;omega
             . rw[d]at g;cases g;exact a
       . exact h.elim
     . exact h.elim
   . exact h.elim
 . refine wp_mono (J x A.awf O za w _ _ _ _ (by rw[<-k];rfl) D N H z) ?_;rintro e h l ⟨E',g,d,Z',B',b,a⟩;refine⟨E',g, ?_⟩;cases e with
   |normal=>exact⟨d,Z',B',b,a⟩
   |ret=>exact⟨d,Z',B',b,a⟩
   | _=>exact a.elim
end
end Go.Vc
