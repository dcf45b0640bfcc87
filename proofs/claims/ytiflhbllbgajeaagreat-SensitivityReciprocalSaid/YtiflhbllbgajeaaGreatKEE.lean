/- Part. -/
import Derived.WalkKit
import Derived.ProofKit
import Derived.OpenShut
import Derived.Carry
import Derived.ChangeSlices
import Derived.ChangeSame
import Derived.Test.YtiflhbllbgajeaaGreatKED
set_option linter.all false
namespace Go.Proofs.YtiflhbllbgajeaaGreat
open Go.Vc Go.Gw
variable {n m k:Nat} {fr to:Nat->Nat} {s:Nat->Rat}
def LS (m:Nat) (fr to:Nat->Nat) (s:Nat->Rat) (b c:Nat):Rat:=C9 m fun i=>s i*(NN fr to b i*NN fr to c i)
def pW (h:∀i,i<m->fr i<n/\to i<n) (θ:Nat->Rat) (b:Nat):C9 n (fun c=>LS m fr to s b c*θ c)=fD m fr to (fun i=>s i*(θ (fr i)-θ (to i))) b:=by
 rw[B9 (g:=fun c=>C9 m fun i=>s i*NN fr to b i*(NN fr to c i*θ c)) fun c _=>by
  unfold LS;rw[<-MV];exact B9 fun i _=>by grind,Lk]
 refine B9 fun i hi=> ?_
 rw[Mm,pG (h i hi).1 (h i hi).2];grind
def Pt (k:Nat) (o:Nat->Nat) (x:Nat->Rat) (b:Nat):Rat:=C9 k fun c=>if o c=b then x c else 0
def cM {o:Nat->Nat} (hi:∀a c,a<k->c<k->o a=o c->a=c) (x:Nat->Rat) {c:Nat} (hc:c<k):Pt k o x (o c)=x c:=by
 unfold Pt;rw[O5 hc fun a ha u=>qL fun e=>u (hi a c ha hc e),qT rfl]
def Yp {o:Nat->Nat} (x:Nat->Rat) {b:Nat} (h:∀c,c<k->o c≠b):Pt k o x b=0:=Bq fun c u=>qL (h c u)
def pV {o:Nat->Nat} (ho:∀a,a<k->o a<n) (x:Nat->Rat) (b:Nat):C9 n (fun c=>LS m fr to s b c*Pt k o x c)=C9 k fun c=>LS m fr to s b (o c)*x c:=by
 rw[B9 (g:=fun c=>C9 k fun a=>LS m fr to s b c*(if o a=c then x a else 0)) fun c _=>by unfold Pt;rw[Mm],Lk];refine B9 fun a u=> ?_
 rw[O5 (ho a u) fun c _ hc=>by rw[qL (Ne.symm hc),uX],qT rfl]
def jV {o lab:Nat->Nat} (hb:∀i,i<m->fr i<n/\to i<n) (hs:∀i,i<m->0<s i) (ho:∀a,a<k->o a<n) (hi:∀a c,a<k->c<k->o a=o c->a=c)
 (u:∀φ:Nat->Rat,(∀i,i<m->φ (fr i)=φ (to i))->∀b,b<n->φ b=φ (lab b)) (a1:∀b,b<n->∀a,a<k->o a≠lab b):nonsing k fun a c=>LS m fr to s (o a) (o c):=by
 intro x hx c hc;have h1:=B2u (φ:=Pt k o x) (D:=fun i=>s i*(Pt k o x (fr i)-Pt k o x (to i))) hb hs (fun _ _=>rfl) fun b hbn=>by
  by_cases a0:∃a,a<k/\o a=b
  . obtain⟨a,ha,rfl⟩:=a0;refine .inr ?_;rw[<-pW hb,pV ho];exact hx a ha
  . exact .inl (Yp x fun a ha e=>a0 ⟨a,ha,e⟩)
 rw[<-cM hi x hc,u (Pt k o x) (fun i hi=>by have:=h1 i hi;grind) (o c) (ho c hc)];exact Yp x fun a ha=>a1 (o c) (ho c hc) a ha
def B0c {lab:Nat->Nat} {F J:Nat->Rat} (h1:∀b,b<n->lab b≠b->F b=J b) (hF:∀t,C9 n (fun b=>(if lab b=t then 1 else 0)*F b)=0) (hJ:∀t,t<n->C9 n (fun b=>(if lab b=t then 1 else 0)*J b)=0):∀b,b<n->F b=J b:=by
 intro t ht;by_cases hl:lab t=t
 . have e:C9 n (fun b=>(if lab b=t then 1 else 0)*(F b-J b))=0:=by
    rw[B9 (g:=fun b=>(if lab b=t then 1 else 0)*F b-(if lab b=t then 1 else 0)*J b) fun b _=>by grind,JI,hF,hJ t ht];grind
   rw[O5 ht fun b hb a0=> ?_,qT hl]at e
   . grind
   . by_cases u:lab b=t
     . rw[h1 b hb (by omega)];grind
     . rw[qL u,tL]
 . exact h1 t ht hl
def A9w {o lab:Nat->Nat} {h J right x:Nat->Rat} (hb:∀i,i<m->fr i<n/\to i<n) (ho:∀a,a<k->o a<n)
 (u:∀b,b<n->lab b≠b->∃a,a<k/\o a=b) (a0:∀i,i<m->lab (fr i)=lab (to i)) (hx:∀a,a<k->C9 k (fun c=>LS m fr to s (o a) (o c)*x c)=right a)
 (hr:∀a,a<k->right a=J (o a)-fD m fr to (fun i=>s i*h i) (o a)) (hJ:∀t,t<n->C9 n (fun b=>(if lab b=t then 1 else 0)*J b)=0):∀b,b<n->fD m fr to (flw fr to s h (Pt k o x)) b=J b:=by
 refine B0c (lab:=lab) (fun b a1 hl=> ?_) (fun t=>TJ hb a0 t) hJ;obtain⟨a,ha,rfl⟩:=u b a1 hl;have e1:=hx a ha;rw[<-pV ho,pW hb,hr a ha]at e1;have e2:fD m fr to (flw fr to s h (Pt k o x)) (o a)=fD m fr to (fun i=>s i*(Pt k o x (fr i)-Pt k o x (to i))+1*(s i*h i)) (o a):=ZF (fun i _=>by unfold flw;grind) _;rw[e2,B1w,e1];grind
abbrev Xw:=Int×Int×D3×D3
abbrev Hh:=Int×List Xw
def dB:Xw:=(0,0,((false,[]),[]),((false,[]),[]))
def Fa (E:List Xw) (i:Nat):Nat:=(E.getD i dB).1.toNat
def Fb (E:List Xw) (i:Nat):Nat:=(E.getD i dB).2.1.toNat
def Vt (E:List Xw) (i:Nat):Rat:=rv (E.getD i dB).2.2.1
def brH (E:List Xw) (i:Nat):Rat:=rv (E.getD i dB).2.2.2
def gF (n:Int) (e:Xw):Prop:=0<=e.1/\e.1<n/\0<=e.2.1/\e.2.1<n/\e.1≠e.2.1/\0<rv e.2.2.1
instance (n:Int) (e:Xw):Decidable (gF n e):=by unfold gF;infer_instance
def H5 (N:Hh):Prop:=0<=N.1/\N.1<=16384/\N.2.length<=16384/\∀e∈N.2,gF N.1 e
instance (N:Hh):Decidable (H5 N):=by unfold H5;infer_instance
def JE (E:List Xw):List Ln:=E.map fun e=>(e.1,e.2.1)
def N9 (N:Hh) (b:Nat):Nat:=(I1 (Al N.1 (JE N.2)) (b:Int)).toNat
def DK (E:List Xw) (b c:Nat):Rat:=LS E.length (Fa E) (Fb E) (Vt E) b c
def cL (E:List Xw) (f:Nat->Rat) (b:Nat):Rat:=fD E.length (Fa E) (Fb E) f b
def flN (E:List Xw) (t:Nat->Rat) (i:Nat):Rat:=flw (Fa E) (Fb E) (Vt E) (brH E) t i
abbrev K2:Nat:=4294967296
abbrev K3:Nat:=4294968296
def rat (l:List D3) (i:Nat):Rat:=rv (l.getD i zr)
def B8y (s:List Int) (x:List D3):Prop:=∀t,t<s.length->C9 s.length (fun b=>(if s.getD b 0=(t:Int)then 1 else 0)*rat x b)=0
instance (s:List Int) (x:List D3):Decidable (B8y s x):=by unfold B8y;infer_instance
def szN (k:Nat) (E:List Xw):Prop:=∀e∈E,sz k e.2.2.1/\sz k e.2.2.2
def Ax (N:Hh):Prop:=N.1<=7/\N.2.length<=9/\szN 2 N.2
def A7c (N:Hh):Prop:=H5 N/\1<=N.1/\N.1<=6/\N.2.length<=9/\∀e∈N.2,Yv e.2.2.1/\Yv e.2.2.2
def Lj (E:List Xw) (G:Nat->Nat->Rat) (l b:Nat):Rat:=Vt E l*(G (Fa E l) b-G (Fb E l) b)
def Hm (N:Hh) (G:Nat->Nat->Rat):Prop:=∀b,b<N.1.toNat->(∀c,c<N.1.toNat->N9 N c=c->G c b=0)/\∀c,c<N.1.toNat->cL N.2 (fun l=>Lj N.2 G l b) c=(if b=c then 1 else 0)-(if N9 N b=c then 1 else 0)
def xch (E:List Xw) (G:Nat->Nat->Rat) (l k:Nat):Rat:=(G (Fa E l) (Fa E k)-G (Fb E l) (Fa E k))-(G (Fa E l) (Fb E k)-G (Fb E l) (Fb E k))
def shF (E:List Xw) (G:Nat->Nat->Rat) (l k:Nat):Rat:=Vt E k*(Lj E G l (Fb E k)-Lj E G l (Fa E k)+if k=l then 1 else 0)
abbrev TFV:=List Int×Dj×Dj
def Nc (f:TFV):Prop:=E8 f.2.1/\E8 f.2.2/\f.2.2.1=f.2.1.1/\f.2.2.2.1=f.2.1.1/\f.2.1.2.1=(f.1.length:Int)
instance (f:TFV):Decidable (Nc f):=by unfold Nc;infer_instance
def XA (n:Nat) (f:Nat->Rat):List D3:=(List.range n).map fun i=>rc (f i)
end Go.Proofs.YtiflhbllbgajeaaGreat
namespace Go.Gw
open Go Go.RowKit Go.ChangeShapes Go.WideShapes Go.ChangeAt
section
variable {H:Type} {enc:TypeId×Value->H} {P:Program}
def EW (hl:laidOutB P=true) {W W':World} {sp:Nat->Bool} (hb:R5 W W'):∀(ts:List TypeId) (vs:List Value) (ds:List (DataW H)) (u:List MemPlace),
 (∀t∈ts,P.readableRec t=true/\t<P.types.size)->DataW.TrodAll enc P W 0 (fun _=>true) true ts vs ds u->(∀x∈u,x.block<W.heap.size)->(∀x∈u,sp x.block=true)->DataW.TrodAll enc P W' 0 sp true ts vs ds u
 | [],vs,ds,u,_,h,_,_=>by
  cases vs<;>cases ds<;>simp[DataW.TrodAll]at h⊢;exact h
 |t::ts,vs,ds,u,ht,h,a0,hsp=>by
  obtain⟨v,a2,d,a1,p,q,rfl,rfl,rfl,h1,h2⟩:=trodAll_cons h;refine trodAll_cons_mk ?_ (EW hl hb ts a2 a1 q (fun x hx=>ht x (by simp[hx])) h2 (fun x hx=>a0 x (by simp[hx])) (fun x hx=>hsp x (by simp[hx])));exact WideElems.Trod_stays hl (ht t (by simp)).1 (ht t (by simp)).2 h1 (fun x hx=>hb.same (a0 x (by simp[hx]))) (fun x hx=>hsp x (by simp[hx]))
def A9o (hl:laidOutB P=true) {f:Func} {s:ChangeSpec} {W W':World} {args:Array Value} {ds gs:List (DataW H)} {before:List MemPlace} {tb:TypeId}
 (hW:DataW.Whole enc P f.params.toList s.vars false W args.toList ds gs before) (hv:s.vars= []) (a2:f.resultTypes= #[tb]) (a4:P.underlying tb=some .bool)
 (u:s.fn H ds= {results:= [.lit (.bool true)],args:=ds}) (hr:∀t∈f.params.toList,P.readableRec t=true/\t<P.types.size) (hb:R5 W W'):
 s.post enc P f false true false false W args (.bool true) W':=by
 have a0:∀p∈before,p.block<W.heap.size:=fun p hp=>hW.lt p hp
 have a3:=hW;obtain⟨p,q,hA,hV,a1,_,_⟩:=hW;rw[hv]at hV;obtain⟨rfl,rfl⟩:=trodVars_none hV;rw[vS]at a1;subst a1;refine⟨ds,[],before,[],before,[],a3, ?_, ?_, ?_, ?_,fun h=>by cases h⟩
 . rw[vS,u,a2];exact trodAll_mk1 (shut_bool a4 _)
 . rw[vS,u];exact EW hl hb _ _ _ _ hr hA a0 (fun x hx=>by simpa using a0 x hx)
 . rw[vS,u,hv];rfl
 . refine World.keptBut_mono ?_ (hb.frame (· ∈before));intro x hx;exact⟨hx, .inr (.inl hx)⟩
end
end Go.Gw
namespace Go.Vc
open Go Go.RowKit Go.Gw Go.ChangeShapes Go.WideShapes Go.ChangeAt
def iW (P:Program):Nat->TypeId->Ty->Bool
 |0,_,_=>false
 |n+1,T,ty=>match P.underlying T with
  |some (.int k)=>(match ty with| .int k'=>decide (k=k') | _=>false)
  |some .bool=>(match ty with| .bool=>true| _=>false)
  |some .string=>(match ty with| .str=>true| _=>false)
  |some (.slice e)=>(match ty with| .sl t=>iW P n e t&&Nat.beq (P.cellsOf e) t.size&&Nat.ble 1 t.size| _=>false)
  |some (.struct u)=>dC P (iW P n) u.toList 0 ty&&Nat.beq (P.cellsOf T) ty.size
  |some (.array k e)=>cZ (iW P n e) (P.cellsOf e) k ty&&Nat.beq (P.cellsOf T) ty.size
  | _=>false
section
variable {H:Type} {α:Type} {enc:TypeId×Value->H} {P:Program} {W:World}
def cells?_at {base:Nat} {a:Addr} {n:Nat} {cs:List Value} (h:W.cells? base a n=some cs):cs.length=n/\J2 W a cs:=by
 obtain⟨_,hl,hc⟩:=World.cells?_some h;exact⟨hl,fun j v u=>by have:=hc j (by have:=EM u;omega);rw[this];exact u⟩
def A3v {a:Addr} {v:Value} (h:W.cell? a=some v):a.spot=none:=by
 unfold World.cell? at h;split at h
 . cases u:a.spot with
   |none=>rfl
   |some _=>simp[u]at h
 . cases h
def SQ {R:List Value->α->Prop} {b o sz:Nat} :∀(len:Nat),(∀i,i<len->∃u y,u.length=sz/\J2 W ⟨b,o+i*sz,none⟩ u/\R u y)->∃u l,l.length=len/\u.length=len*sz/\J2 W ⟨b,o,none⟩ u/\F7 R u l
 |0,_=>⟨[],[],rfl,by simp,fun j v hj=>by simp at hj,rfl⟩
 |len+1,h=>by
  obtain⟨u,l,h1,h2,h3,h4⟩:=SQ (R:=R) (b:=b) (o:=o) (sz:=sz) len (fun i hi=>h i (by omega));obtain⟨a0,y,g1,g2,g3⟩:=h len (by omega);refine⟨u++a0,l++ [y],by simp[h1],by rw[rP,h2,g1,uL],fun j v hj=> ?_,h4.append ⟨a0,[],by simp,g3,rfl⟩⟩;rw[List.getElem?_append]at hj;split at hj
  . exact h3 j v hj
  . rename_i a1;have:=g2 _ v hj;rw[J7]at this⊢;rw[h2]at this a1;rw[show o+len*sz+(j-len*sz)=o+j from by omega]at this;exact this
def pT {n:Nat} {r:TypeId->Ty->Bool} {Z:Nat->Prop} {cs:List Value} (hr:∀ {T:TypeId} {ty:Ty} {cs:List Value} {x:DataW H×List MemPlace},r T ty=true->DataW.trod enc P W 0 (fun _=>true) true n T cs=some x->∃y,C4 ty W Z cs y):
 ∀ {fs:List Field} {off:Nat} {ty:Ty},dC P r fs off ty=true->(∀f∈fs,∃x,DataW.trod enc P W 0 (fun _=>true) true n f.type ((cs.drop f.offset).take (P.cellsOf f.type))=some x)->cs.length=off+ty.size->∃y,C4 ty W Z (cs.drop off) y
 | [],off,ty,h,hx,hl=>by
  cases ty<;>simp[dC]at h;exact⟨(),by rw[sE (by simp[Ty.size]at hl;omega)];rfl⟩
 | [f],off,ty,h,hx,hl=>by
  have h':(Nat.beq f.offset off&&r f.type ty&&Nat.beq (P.cellsOf f.type) ty.size)=true:=by cases ty<;>exact h
  simp only[qC]at h';obtain⟨x,hx⟩:=hx f (by simp);obtain⟨y,u⟩:=hr h'.1.2 hx;rw[qD h'.1.1,qD h'.2,qV (by rw[sN];omega)]at u;exact⟨y,u⟩
 |f::g::fs,off,ty,h,hx,hl=>by
  cases ty<;>simp only[dC]at h<;>try cases h
  rename_i a b;simp only[qC]at h;obtain⟨⟨⟨h1,h2⟩,h3⟩,h4⟩:=h;obtain⟨x,a0⟩:=hx f (by simp);obtain⟨y,u⟩:=hr h2 a0;rw[qD h1,qD h3]at u;obtain⟨z,hz⟩:=pT hr h4 (fun q hq=>hx q (qJ _ hq)) (by rw[hl];simp only[Ty.size];omega);exact⟨(y,z),(cs.drop off).take a.size,cs.drop (off+a.size),by rw[<-vR,uE],u,hz⟩
def pR {n:Nat} {r:TypeId->Ty->Bool} {Z:Nat->Prop} {cs:List Value} {e:TypeId} {sz:Nat} (hr:∀ {T:TypeId} {ty:Ty} {cs:List Value} {x:DataW H×List MemPlace},r T ty=true->DataW.trod enc P W 0 (fun _=>true) true n T cs=some x->∃y,C4 ty W Z cs y):
 ∀ {k i:Nat} {ty:Ty},cZ (r e) sz k ty=true->(∀j,j<k->∃x,DataW.trod enc P W 0 (fun _=>true) true n e ((cs.drop ((i+j)*sz)).take sz)=some x)->cs.length=i*sz+ty.size->∃y,C4 ty W Z (cs.drop (i*sz)) y
 |0,i,ty,h,hx,hl=>by
  cases ty<;>simp[cZ]at h;exact⟨(),by rw[sE (by simp[Ty.size]at hl;omega)];rfl⟩
 |1,i,ty,h,hx,hl=>by
  have h':(r e ty&&Nat.beq ty.size sz)=true:=by cases ty<;>exact h
  simp only[qC]at h';obtain⟨x,hx⟩:=hx 0 (by omega);rw[tD]at hx;obtain⟨y,u⟩:=hr h'.1 hx;have:=qD h'.2;rw[qV (by rw[sN];omega)]at u;exact⟨y,u⟩
 |k+2,i,ty,h,hx,hl=>by
  cases ty<;>simp only[cZ]at h<;>try cases h
  rename_i a b;simp only[qC]at h;obtain⟨⟨h1,h2⟩,h3⟩:=h;obtain⟨x,a0⟩:=hx 0 (by omega);rw[tD]at a0;obtain⟨y,u⟩:=hr h1 a0;have h2:=qD h2;have u:C4 a W Z ((cs.drop (i*sz)).take a.size) y:=by rw[h2];exact u
  have hi:(i+1)*sz=i*sz+a.size:=by rw[uL,h2]
  obtain⟨z,hz⟩:=pR hr (i:=i+1) h3 (fun j hj=>by
   have:=hx (j+1) (by omega);rw[show i+(j+1)=i+1+j from by omega]at this;exact this) (by rw[hl,hi];simp only[Ty.size];omega)
  rw[hi]at hz;exact⟨(y,z),(cs.drop (i*sz)).take a.size,cs.drop (i*sz+a.size),by rw[<-vR,uE],u,hz⟩
def QM:∀ {m n:Nat} {T:TypeId} {ty:Ty} {cs:List Value} {x:DataW H×List MemPlace},iW P m T ty=true->DataW.trod enc P W 0 (fun _=>true) true n T cs=some x->∃y,C4 ty W (fun b=>b<W.heap.size) cs y
 |0,_,_,_,_,_,h,_=>by cases h
 |m+1,n,T,ty,cs,x,h,hx=>by
  simp only[iW]at h;split at h
  . rename_i k hu;cases ty<;>simp only at h<;>try cases h
    rename_i k';have:=qA h;subst this;obtain⟨z,e,_,hw⟩:=DataW.trod_int hu hx;exact⟨z,e,by simp only[Lit.wf,qC,rY]at hw;exact hw⟩
  . rename_i hu;cases ty<;>simp only at h<;>try cases h
    obtain⟨b,e,_⟩:=DataW.trod_bool hu hx;exact⟨b,e⟩
  . rename_i hu;cases ty<;>simp only at h<;>try cases h
    obtain⟨s,e,_⟩:=DataW.trod_string hu hx;exact⟨s,e⟩
  . rename_i e hu;cases ty<;>simp only at h<;>try cases h
    rename_i t;simp only[qC]at h;have a7:=qD h.1.2;rcases DataW.trod_slice hu hx with⟨hc,_⟩ | ⟨a,len,a1,SP,rest,q,hq,hc,_,_,ac,a2,ab,a3,_⟩
    . exact⟨[],none,0,hc,rB _,rN _,fun _=>rfl, .inl rfl⟩
    . by_cases h0:len=0
      . subst h0;exact⟨[],some a,a1,hc,rN _,a2,fun hh=>(by cases hh), .inl rfl⟩
      . have a0:∀i,i<len->∃ec y,ec.length=t.size/\J2 W (a.add (i*t.size)) ec/\C4 t W (fun b=>b<W.heap.size) ec y:=fun i hi=>by
         have h1:=a3 i hi;rw[qS (by omega),a7]at h1;obtain⟨ec,a5,a9⟩:=g1t.1 h1;obtain⟨g1,g2⟩:=cells?_at a5;obtain⟨y,hy⟩:=QM (m:=m) h.1.1 a9;exact⟨ec,y,g1,g2,hy⟩
        obtain⟨e0,y0,g1,g2,_⟩:=a0 0 (by omega);have ad:=qP h.2;obtain⟨v0,a8⟩:=B1y (l:=e0) (i:=0) (by omega);have u:=g2 0 v0 a8;have a4:(a.add (0*t.size)).add 0=a:=by simp[Addr.add]
        rw[a4]at u;have hsp:=A3v u;obtain⟨b,o,sp⟩:=a;simp only at hsp;subst hsp;have hb:b<W.heap.size:=block_lt_of_cell u;obtain⟨ec,l,k1,_,k3,k4⟩:=SQ (R:=C4 t W (fun b=>b<W.heap.size)) (b:=b) (o:=o) (sz:=t.size) len (fun i hi=>by
         obtain⟨ec,y,q1,q2,q3⟩:=a0 i hi;rw[J7]at q2;exact⟨ec,y,q1,q2,q3⟩)
        exact⟨l,some ⟨b,o,none⟩,a1,by rw[hc,k1],by omega,a2,fun hh=>(by cases hh), .inr ⟨b,o,ec,rfl,hb,k3,k4⟩⟩
  . rename_i fs hu;simp only[qC]at h;obtain⟨xs,q,hq,_,hl,aa,hf⟩:=DataW.trod_struct hu hx;have:=pT (enc:=enc) (P:=P) (W:=W) (n:=q) (Z:=fun b=>b<W.heap.size) (cs:=cs) (fun hh hx=>QM (m:=m) hh hx) h.1 (fun f hf'=>by
     obtain⟨i,hi,he⟩:=g3j hf';have a6:i<fs.size:=by simpa using hi
     have h1:=hf i f (by rw[tZ a6];simpa using he);rw[qS (by omega)]at h1;exact⟨_,h1⟩) (by rw[hl,qD h.2];omega)
    simpa using this
  . rename_i k e hu;simp only[qC]at h;obtain⟨xs,q,hq,_,hl,aa,hf⟩:=DataW.trod_array hu hx;have:=pR (enc:=enc) (P:=P) (W:=W) (n:=q) (Z:=fun b=>b<W.heap.size) (cs:=cs) (e:=e) (i:=0) (fun hh hx=>QM (m:=m) hh hx) h.1 (fun j hj=>by
     have h1:=hf j hj;rw[qS (by omega)]at h1;rw[sG];exact⟨_,h1⟩) (by rw[hl,qD h.2];omega)
    simpa using this
  . cases h
end
def iB (c:Bool) (A B:Prop):Prop:=(c=true->A)/\(c=false->B)
def B5j (P:Program) (T:TypeId) (a:Bool):Bool:=match P.underlying T with
 |some (.struct _)=>a
 |some (.array _ _)=>false
 | _=> !a
def bP (P:Program):List TypeId->List AM->Bool
 | [],[]=>true
 |T::ts, .val a ty::as=>iW P 40 T ty&&B5j P T a&&bP P ts as
 | _,_=>false
section
variable {H:Type} {enc:TypeId×Value->H} {P:Program} {W:World}
def A9b {m:Nat} {T:TypeId} {ty:Ty} {a:Bool} {r:Reach} {b0:Nat} {v:Value} {d:DataW H} {p:List MemPlace} (h:iW P m T ty=true) (ha:B5j P T a=true) (hv:Value.okWide P W r b0 T v) (hd:DataW.Trod enc P W 0 (fun _=>true) true T v d p):
 ∃y,Az a ty W (fun b=>b<W.heap.size) v y:=by
 obtain⟨n,hd⟩:=hd;obtain⟨y,hy⟩:=QM h hd;refine⟨y, ?_⟩;cases m with
 |zero=>cases h
 |succ m=>
  simp only[iW]at h;unfold B5j at ha;split at h
  . rename_i k u;simp only[u,rQ]at ha;obtain⟨n,rfl⟩:=okWide_int u hv;subst ha;exact hy
  . rename_i u;simp only[u,rQ]at ha;obtain⟨n,rfl⟩:=okWide_bool u hv;subst ha;exact hy
  . rename_i u;simp only[u,rQ]at ha;obtain⟨n,rfl⟩:=okWide_string u hv;subst ha;exact hy
  . rename_i e u;simp only[u,rQ]at ha;obtain⟨x1,x2,x3,rfl⟩:=okWide_slice u hv;subst ha;exact hy
  . rename_i fs u;simp only[u]at ha;obtain⟨cs,rfl,_⟩:=okWide_struct u hv;subst ha;exact⟨cs.toList,by simp,hy⟩
  . rename_i u;simp only[u]at ha;cases ha
  . cases h
def aK {r:Reach} {b0:Nat} :∀ {ts:List TypeId} {as:List AM} {vs:List Value} {ds:List (DataW H)} {ps:List MemPlace},bP P ts as=true->DataW.TrodAll enc P W 0 (fun _=>true) true ts vs ds ps->(∀(j:Nat) (t:TypeId) (v:Value),ts[j]? =some t->vs[j]? =some v->Value.okWide P W r b0 t v)->∃x,Y4 P W (fun b=>b<W.heap.size) as vs x
 | [],[],vs,ds,ps,_,h,_=>by
  cases vs with
  |nil=>exact⟨(),rfl⟩
  |cons _ _=>cases ds<;>exact h.elim
 | [],_:: _,_,_,_,h,_,_=>by cases h
 | _:: _,[],_,_,_,h,_,_=>by cases h
 |T::ts, .row _ _:: _,_,_,_,h,_,_=>by cases h
 |T::ts, .box _ _:: _,_,_,_,h,_,_=>by cases h
 |T::ts, .fn _ _ _:: _,_,_,_,h,_,_=>by cases h
 |T::ts, .rows _ _ _:: _,_,_,_,h,_,_=>by cases h
 |T::ts, .val a ty::as,vs,ds,ps,h,hA,hv=>by
  simp only[bP,qC]at h;obtain⟨v,a0,d,a1,p,q,rfl,rfl,rfl,h1,h2⟩:=trodAll_cons hA;obtain⟨y,hy⟩:=A9b h.1.1 h.1.2 (hv 0 T v rfl rfl) h1;obtain⟨z,hz⟩:=aK h.2 h2 (fun j t u ht hu=>hv (j+1) t u (by simpa using ht) (by simpa using hu));exact⟨(y,z),v,a0,rfl,hy,hz⟩
def dH (as:List AM):A7:= {args:=as,res:= [.val false .bool],pre:=fun _=>True,post:=fun _ r=>r.1=true}
def A2p {f:FuncId} {as:List AM} {vs:List Value} {x:A2 as} (ha:Ar as=true) (hm:A8 P f (dH as)) (h:Y4 P W (fun b=>b<W.heap.size) as vs x):Gw.YP P f vs W fun v W'=>v= .bool true/\R5 W W':=by
 refine(hm W _ vs x (fun _ h=>h) h (by show Dis W (O4 as vs);rw[BM ha];trivial) trivial).mono fun v w' ⟨hx,r,o,us,Zn,hpost,_,hv,_,hrep,_⟩=>⟨?_,hx.ext (fun b ⟨u,hu,_⟩=>by rw[show O4 (dH as).args vs= []from BM ha vs]at hu;cases hu)⟩
 obtain⟨u,a0,e,h1,_,h2⟩:=hrep;rw[show a0= []from h2]at e;subst e;have h1: [u]= [Value.bool r.1]:=h1;have hr:r.1=true:=hpost;rw[hr]at h1;rw[hv];simpa[Vz]using h1
def jE {f:FuncId} {s:A7} (h:∀x,¬s.pre x):A8 P f s:=fun _ _ _ x _ _ _ u=>absurd u (h x)
def A1:Iw P []:=fun _ _ h=>by cases h
def A0 {f:FuncId} {s:A7} {l:G7} (h1:A8 P f s) (h2:Iw P l) (hi:s.inl=none:=by rfl):Iw P ((f,s)::l):=fun g t h=>by
 unfold Fz at h;cases hb:Nat.beq f g with
 |true=>
  rw[hb]at h;obtain rfl:=qD hb;obtain rfl:s=t:=by simpa using h
  exact⟨h1,fun run u=>by rw[hi]at u;cases u⟩
 |false=>rw[hb]at h;exact h2 g t h
def Eu {f:FuncId} {run:Inl} {l:G7} (h1:NK P f run) (u:Iw P l):Iw P ((f,Gb run)::l):=fun g t h=>by
 unfold Fz at h;cases hb:Nat.beq f g with
 |true=>
  rw[hb]at h;obtain rfl:=qD hb;obtain rfl:Gb run=t:=by simpa using h
  exact⟨fun _ _ _ _ _ _ _ hp=>hp.elim,fun r hr=>by cases hr;exact h1⟩
 |false=>rw[hb]at h;exact u g t h
def Hz:oW P []:=fun _ h=>by cases h
def S9 {d:Nat} {sp:G7} {an:An} {l:List (Nat×G7×An)} (h1:Iw P sp) (u:oW P l):oW P ((d,sp,an)::l):=fun x hx=>by
 rcases qG.1 hx with rfl|hx
 . exact h1
 . exact u x hx
end
end Go.Vc
namespace Go.Vc
open Go Go.RowKit Go.Gw
def CR (g:FuncId) (t:Ty) (e:TypeId) (φ:t.den->t.den->Int) (_:Nat) (st:St) (ss:List SV) (k:St->List SV->Prop):Prop:=
 match ss with
 | [⟨false,[.row q]⟩,⟨false,[.fn g' []]⟩]=>bif Nat.beq g' g then(match Zv st t e q with
  |some l=>l.length<=100000/\∀u:List t.den,(Ty.sl t).wf u->u.Perm l->u.Pairwise (fun a b=>¬φ b a<0)->k (addM [.row t e] (u,()) [q] (dropM st [q])) []
  |none=>False)else False
 | _=>False
def A3u (g:FuncId) (t:Ty) (e:TypeId) (φ:t.den->t.den->Int) {st:St} {d:Nat} {ss:List SV} {k k':St->List SV->Prop} (h:CR g t e φ d st ss k) (u:∀st' ss',C1 st st'->k st' ss'->k' st' ss'):CR g t e φ d st ss k':=by
 unfold CR at h⊢;split at h
 . obtain⟨hb,h⟩:=B4 h;rw[hb,qQ];split at h
   . exact⟨h.1,fun l' hw hp hs=>u _ _ ((C1.dropM _ _).trans (C1.addM _ _ _ _)) (h.2 l' hw hp hs)⟩
   . exact h.elim
 . exact h.elim
def QR (g:FuncId) (t:Ty) (e:TypeId) (φ:t.den->t.den->Int):Inl:= {run:=CR g t e φ,step:=A3u g t e φ}
def Bm (t:Ty) (e:TypeId) (φ:t.den->t.den->Int):A7:=
 { args:= [.row t e],res:= [],shared:=true,pre:=fun _=>True,post:=fun _ _=>True,mpost:=fun(x:List t.den×Unit) _ (o:List t.den×Unit)=>o.1.Perm x.1/\o.1.Pairwise fun a b=>¬φ b a<0}
def pA (P:Program) (f g:FuncId) (t:Ty) (e:TypeId) (φ:t.den->t.den->Int):Prop:=
 ∀(w:World) (Z:Nat->Prop) (v:Value) (l:List t.den),(∀b,Z b->b<w.heap.size)->YO P w Z (.row t e) v l->l.length<=100000->B4p P f (Bm t e φ) [v, .func (.func g) #[] #[]] w Z (l,())
def VL {P:Program} {tys:List (Nat×TI)} {f g:FuncId} {t:Ty} {e:TypeId} {φ:t.den->t.den->Int} (hs:pA P f g t e φ):NK P f (QR g t e φ):=by
 refine {go:= ?_};intro za w0 st E w Z B d ss vs k hb0 h ab ad hr;replace hr:CR g t e φ d st ss k:=hr;unfold CR at hr;split at hr
 . rename_i q g';obtain⟨hg,a1⟩:=B4 hr;clear hr;obtain rfl:=qD hg;split at a1
   . rename_i l hl;obtain⟨a2,aa⟩:=a1;obtain⟨v1,ae,rfl,h1,v2,af,rfl,h2,rfl⟩:=ab;have e1:v1=B q:=by
      obtain⟨u,us,e1,e2,e3⟩:=h1;cases e1;exact e2
     have e2:v2= .func (.func g') #[] #[]:=by
      obtain⟨u,us,e1,e2,e3⟩:=h2;cases e1;exact e2
     subst e1 e2;have hL:=h.locs q;have hq:∃t',∃e',∃l':List t'.den,st.L q= .row t' e' l':=by
      unfold Zv at hl;split at hl
      . exact⟨_,_,_,by assumption⟩
      . cases hl
     obtain⟨t',e',l0,hq⟩:=hq;unfold Zv at hl;rw[hq]at hl hL;simp only at hl;split at hl
     . rename_i ht;subst ht;cases a0:Nat.beq e' e with
       |false=>simp[a0]at hl
       |true=>
        simp only[a0,qQ,rE]at hl;obtain rfl:=qD a0;subst hl;obtain⟨xs,a3,a8,hZ⟩:=hL;have a5:YO P w Z (.row t' e') (B q) l0:=⟨xs,a3,a8,fun b hb=>(hZ b hb).2⟩;have a6:=hs w Z (B q) l0 h.zlt a5 a2;have a9:live (st.L q):=by rw[hq];trivial
        have hz:lz w st [q] B Z true=Z:=by funext b;simp[lz]
        have:=YW (cx:=⟨P,tys⟩) (s:=Bm t' e' φ) (x:=(l0,())) (vs:= [B q, .func (.func g') #[] #[]]) (mu:= [q]) h (by rw[show(Bm t' e' φ).shared=true from rfl,hz];exact a6) rfl
         ⟨⟨rfl,fun b hb=>by rw[hq];exact hb⟩,trivial⟩ (by simp) (fun q2 a4=>by simp at a4;subst a4;exact a9)
        refine Gw.YP.mono this fun v w' ⟨_,r,o,us,_,how,_,hmp,hv,Z',B',h3,h4,_⟩=> ?_
        obtain⟨hp,a7⟩:=hmp rfl;have ac:us= []:=h4;subst ac;exact⟨_,Z',B',[],[],h3,hv,rfl,fun s hs=>(by cases hs),aa o.1 how.1 hp a7⟩
     . cases hl
   . exact a1.elim
 . exact hr.elim
def NQ (P:Program) (as:List (Bool×Ty)) (ra:Bool) (r a:Ty) (φ:a.den->X6 as->r.den):List SV->Option SV
 | [⟨false,[.val u n]⟩]=>if h:u=a then some ⟨false,[.fv P as ra r (fun _=>True) (φ (h▸n))]⟩else none
 | _=>none
def A6x (P:Program) (as:List (Bool×Ty)) (ra:Bool) (r a:Ty) (φ:a.den->X6 as->r.den):Inl:=
 { run:=fun _ st ss k=>match NQ P as ra r a φ ss with
    |some sv=>k st [sv]
    |none=>False
   res:=NQ P as ra r a φ
   step:=fun {st d ss k k'} h hk=>by
    cases u:NQ P as ra r a φ ss with
    |none=>rw[u]at h;exact h.elim
    |some sv=>rw[u]at h;exact hk _ _ (C1.refl _) h}
def C2k (P:Program) (f:FuncId) (as:List (Bool×Ty)) (ra:Bool) (r a:Ty) (φ:a.den->X6 as->r.den):Prop:=
 ∀(w:World) (Z:Nat->Prop) (v:Value) (n:a.den),C4 a w Z [v] n->Gw.YP P f [v] w fun u w'=>R5 w w'/\∃Zn:Nat->Prop,(∀b,Zn b->Z b\/(w.heap.size<=b/\b<w'.heap.size))/\lE P w' Zn u as ra r (fun _=>True) (φ n)
def lE.mono {P:Program} {w:World} {Z Z':Nat->Prop} {v:Value} {as:List (Bool×Ty)} {ra:Bool} {r:Ty} {ok:X6 as->Prop} {φ:X6 as->r.den} (h:lE P w Z v as ra r ok φ) (u:∀b,Z b->Z' b):lE P w Z' v as ra r ok φ:=
 RC.mono (B:=fun _=>v) (B':=fun _=>v) (n:=0) (c:= .fv P as ra r ok φ) u (fun _ _=>rfl) (fun _ _=>rfl) trivial h
def A6y {P:Program} {f:FuncId} {as:List (Bool×Ty)} {ra:Bool} {r a:Ty} {φ:a.den->X6 as->r.den} (hs:C2k P f as ra r a φ):NK P f (A6x P as ra r a φ):=by
 have res:∀ {za:Zn} {w0:World} {st:St} {E:F8} {w:World} {Z:Nat->Prop} {B:Nat->Value} {ss:List SV} {vs:List Value} {sv:SV},B7 za w0 st E w Z B->Qz w Z B ss vs->NQ P as ra r a φ ss=some sv->
  Gw.YP P f vs w fun v w'=>R5 w w'/\∃Z':Nat->Prop,(∀b,Z b->Z' b)/\(∀b,Z' b->Z b\/(w.heap.size<=b/\b<w'.heap.size))/\RS w' Z' B sv v:=by
  intro za w0 st E w Z B ss vs sv h a1 a0;unfold NQ at a0;split at a0
  . rename_i a' n;split at a0
    . rename_i ha;subst ha;cases a0;obtain⟨v1,a3,rfl,h1,rfl⟩:=a1;obtain⟨u,us,e1,e2,e3⟩:=h1;cases e1;refine Gw.YP.mono (hs w Z v1 n e2) fun u w' ⟨hx,Zn,hz,hf⟩=>⟨hx,fun b=>Z b\/Zn b,fun _=> .inl,fun b hb=>hb.elim .inl (hz b), ?_⟩
      exact⟨u,[],rfl,hf.mono fun _=> .inr,rfl⟩
    . cases a0
  . cases a0
 refine {go:= ?_,res:=res};intro za w0 st E w Z B d ss vs k hb0 h a1 a2 hr;replace hr:(match NQ P as ra r a φ ss with|some sv=>k st [sv] |none=>False):=hr;cases hv:NQ P as ra r a φ ss with
 |none=>rw[hv]at hr;exact hr.elim
 |some sv=>
  rw[hv]at hr;refine Gw.YP.mono (res h a1 hv) fun v w' ⟨hx,Z',hz,hz',hrep⟩=>⟨st,Z',B,[sv],[v],h.more hx hz hz',rfl,⟨v,[],rfl,hrep,rfl⟩,fun s hs=> ?_,hr⟩
  rw[qR]at hs;subst hs;unfold NQ at hv;split at hv
  . split at hv
    . cases hv;intro c hc;rw[qR]at hc;subst hc;trivial
    . cases hv
  . cases hv
end Go.Vc
namespace Go.Proofs.YtiflhbllbgajeaaGreat
def Uj {s:List Int} {k:Nat} {v i:Int} (u:k<s.length):I1 (s.set k v) i=if i.toNat=k then v else I1 s i:=by
 unfold I1;simp only[qF,xL];by_cases h:k=i.toNat
 . subst h;simp[u]
 . rw[qL h,qL (fun hh=>h hh.symm)]
def UF.le {s:List Int} (h:UF s) {b:Int} (u:0<=b) (h1:b<(s.length:Int)):0<=I1 s b/\I1 s b<=b:=by
 have:=h b.toNat (by omega);rw[show((b.toNat:Nat):Int)=b from by omega]at this;exact this
def Ux {s:List Int} (h:UF s):∀(k:Nat) (b:Int),0<=b->b<(s.length:Int)->b.toNat<=k->JH s k b=JH s b.toNat b
 |0,b,h0,h1,hk=>by rw[show b.toNat=0 from by omega]
 |k+1,b,h0,h1,hk=>by
  obtain⟨u,a1⟩:=h.le h0 h1;by_cases hb:I1 s b=b
  . simp only[JH,qT hb];cases hm:b.toNat with
    |zero=>rfl
    |succ m=>simp only[JH,qT hb]
  . simp only[JH,qL hb];have a2:I1 s b<b:=by omega
    rw[Ux h k (I1 s b) u (by omega) (by omega)];cases hm:b.toNat with
    |zero=>omega
    |succ m=>
     simp only[JH,qL hb];rw[Ux h m (I1 s b) u (by omega) (by omega)]
def A0u {s:List Int} (h:UF s) {b:Int} (u:0<=b) (h1:b<(s.length:Int)):root s b=if I1 s b=b then b else root s (I1 s b):=by
 obtain⟨a0,a1⟩:=h.le u h1;unfold root;rw[<-Ux h (b.toNat+1) b u h1 (by omega)];simp only[JH];split
 . rfl
 . exact Ux h _ _ a0 (by omega) (by omega)
def Cr {s:List Int} (h:UF s) {b:Int} (u:0<=b) (h1:b<(s.length:Int)) (hb:I1 s b=b):root s b=b:=by rw[A0u h u h1,qT hb]
def Dv {s:List Int} (h:UF s) {b:Int} (u:0<=b) (h1:b<(s.length:Int)):root s (I1 s b)=root s b:=by
 by_cases hb:I1 s b=b
 . rw[hb]
 . rw[A0u h u h1,qL hb]
def VE {s:List Int} (h:UF s) {q:Int->Prop} (h1:∀b,0<=b->b<(s.length:Int)->I1 s b=b->q b) (h2:∀b,0<=b->b<(s.length:Int)->I1 s b<b->0<=I1 s b->q (I1 s b)->q b):∀b,0<=b->b<(s.length:Int)->q b:=by
 have key:∀(k:Nat) (b:Int),b.toNat<=k->0<=b->b<(s.length:Int)->q b:=by
  intro k
  induction k with
  |zero=>
   intro b hk u hl;obtain⟨a0,a1⟩:=h.le u hl;exact h1 b u hl (by omega)
  |succ k ih=>
   intro b hk u hl;obtain⟨a0,a1⟩:=h.le u hl;by_cases hb:I1 s b=b
   . exact h1 b u hl hb
   . exact h2 b u hl (by omega) a0 (ih _ (by omega) a0 (by omega))
 exact fun b u hl=>key b.toNat b (rB _) u hl
def eN {s:List Int} (h:UF s) {b:Int} (u:0<=b) (h1:b<(s.length:Int)):0<=root s b/\root s b<=b/\I1 s (root s b)=root s b:=by
 refine VE h (q:=fun b=>0<=root s b/\root s b<=b/\I1 s (root s b)=root s b) (fun b u h1 hb=> ?_) (fun b u h1 hb hn hq=> ?_) b u h1
 . rw[Cr h u h1 hb];exact⟨u,qI _,hb⟩
 . rw[Dv h u h1]at hq;exact⟨hq.1,by omega,hq.2.2⟩
def A3h {s s':List Int} (h:UF s) (h':UF s') (hl:s'.length=s.length) (hr:∀i:Int,0<=i->i<(s.length:Int)->root s (I1 s' i)=root s i) (hf:∀i:Int,0<=i->i<(s.length:Int)->I1 s' i=i->I1 s i=i):∀i:Int,0<=i->i<(s.length:Int)->root s' i=root s i:=by
 intro i u h1;refine VE h' (q:=fun i=>root s' i=root s i) (fun b u h1 hb=> ?_) (fun b u h1 hb hn hq=> ?_) i u (by omega)
 . rw[Cr h' u h1 hb,Cr h u (by omega) (hf b u (by omega) hb)]
 . rw[<-Dv h' u h1,hq,hr b u (by omega)]
def B9k {s:List Int} (h:UF s) {b:Int} (h0:0<=b) (h1:b<(s.length:Int)):UF (s.set b.toNat (I1 s (I1 s b)))/\∀i:Int,0<=i->i<(s.length:Int)->root (s.set b.toNat (I1 s (I1 s b))) i=root s i:=by
 have hb:b.toNat<s.length:=by omega
 obtain⟨u,a1⟩:=h.le h0 h1;obtain⟨c0,c1⟩:=h.le u (by omega:I1 s b<(s.length:Int));have hu:UF (s.set b.toNat (I1 s (I1 s b))):=fun i hi=>by
  rw[qN]at hi;rw[Uj hb];split
  . rename_i e;rw[show((i:Nat):Int)=b from by omega];omega
  . exact h i hi
 refine⟨hu,A3h h hu (by rw[qN]) (fun i i0 i1=> ?_) (fun i i0 i1=> ?_)⟩
 . rw[Uj hb];split
   . rw[show i=b from by omega,Dv h u (by omega),Dv h h0 h1]
   . exact Dv h i0 i1
 . rw[Uj hb];split
   . intro e;have:i=b:=by omega
     subst this;omega
   . exact id
def A7t {s:List Int} (h:UF s) {m M:Int} (m0:0<=m) (mM:m<=M) (hM:M<(s.length:Int)) (fm:I1 s m=m) (fM:I1 s M=M):
 UF (s.set M.toNat m)/\∀i:Int,0<=i->i<(s.length:Int)->root (s.set M.toNat m) i=if root s i=M then m else root s i:=by
 have hk:M.toNat<s.length:=by omega
 have hu:UF (s.set M.toNat m):=fun i hi=>by
  rw[qN]at hi;rw[Uj hk];split
  . omega
  . exact h i hi
 have hl:(s.set M.toNat m).length=s.length:=qN;refine⟨hu,fun i u h1=> ?_⟩;refine VE hu (q:=fun i=>root (s.set M.toNat m) i=if root s i=M then m else root s i) (fun b u h1 hb=> ?_) (fun b u h1 hb hn hq=> ?_) i u (by omega)
 . rw[Cr hu u h1 hb];rw[Uj hk]at hb;split at hb
   . have e:b=M:=by omega
     rw[e,Cr h (by omega) (by omega) fM,qT rfl];omega
   . rename_i a0;rw[Cr h u (by omega) hb,qL (by omega)]
 . rw[<-Dv hu u h1,hq];rw[Uj hk]at hb⊢;split at hb
   . rename_i e;have e:b=M:=by omega
     have e2:b.toNat=M.toNat:=by omega
     rw[qT e2,e,Cr h (by omega) (by omega) fM,Cr h m0 (by omega) fm,qT rfl];split<;>rfl
   . rename_i a0;rw[qL a0,Dv h u (by omega)]
end Go.Proofs.YtiflhbllbgajeaaGreat
namespace Go.Proofs.YtiflhbllbgajeaaGreat
open Go.Vc Go.Gw
def A0f {n:Int} {ls:List Ln} :Ro n ls=0↔A8q n ls:=by
 unfold Ro A8q;split
 . constructor
   . intro h;omega
   . intro h;omega
 . split
   . rename_i h1 u;exact⟨fun _=>⟨by omega,by omega,u⟩,fun _=>rfl⟩
   . rename_i h1 u;exact⟨fun h=>by omega,fun h=>absurd h.2.2 u⟩
variable {α:Type}
def A7o (q:α->α->Prop) (d:α) (l:List α) (a i j:Nat):Prop:=∀s t,a<=s->s<t->t<=i->t≠j->q (l.getD s d) (l.getD t d)
def JL (d:α) (l:List α) (j:Nat):List α:=(l.set j (l.getD (j-1) d)).set (j-1) (l.getD j d)
def VN {d:α} {l:List α} {j:Nat} (h0:0<j) (h1:j<l.length) (k:Nat):(JL d l j).getD k d=if k=j then l.getD (j-1) d else if k=j-1 then l.getD j d else l.getD k d:=by
 unfold JL;simp only[qF,xL,qN];by_cases h:k=j
 . subst h;rw[qL (by omega),qT rfl,qT rfl,qT h1];rfl
 . rw[qL h];by_cases u:k=j-1
   . subst u;rw[qT rfl,qT (by omega),qT rfl];rfl
   . rw[qL (by omega),qL (by omega),qL u]
def oK {d:α} {l:List α} {j:Nat} (h1:j<l.length):(JL d l j).Perm l:=by
 have u:j-1<l.length:=by omega
 have:=List.set_set_perm (as:=l) h1 u;unfold JL;simp only[qF,qS h1,qS u];exact this
def oL {d:α} {l:List α} {j a:Nat} (h:a<=j-1):(JL d l j).take a=l.take a:=by
 unfold JL;rw[yV h,yV (by omega)]
def oJ {d:α} {l:List α} {j b:Nat} (h:j<b):(JL d l j).drop b=l.drop b:=by
 unfold JL;rw[yU (by omega),yU (by omega)]
def mS {q:α->α->Prop} {d:α} {l:List α} {a i:Nat} (h:∀s t,a<=s->s<t->t<i->q (l.getD s d) (l.getD t d)):A7o q d l a i i:=fun s t h1 u h3 h4=>h s t h1 u (by omega)
def A2h {q:α->α->Prop} {d:α} {l:List α} {a i j:Nat} (h:A7o q d l a i j) (ha:a<j) (hj:j<l.length) (hi:j<=i) (hq:q (l.getD j d) (l.getD (j-1) d)):A7o q d (JL d l j) a i (j-1):=by
 intro s t h1 h2 h3 h4;rw[VN (by omega) hj,VN (by omega) hj,qL h4];by_cases ht:t=j
 . rw[qT ht,qL (by omega)];by_cases u:s=j-1
   . rw[qT u];exact hq
   . rw[qL u];exact h s (j-1) h1 (by omega) (by omega) (by omega)
 . rw[qL ht];by_cases u:s=j
   . rw[qT u];exact h (j-1) t (by omega) (by omega) h3 ht
   . rw[qL u];by_cases a0:s=j-1
     . rw[qT a0];exact h j t (by omega) (by omega) h3 ht
     . rw[qL a0];exact h s t h1 h2 h3 ht
def A7p {q:α->α->Prop} {d:α} {l:List α} {a i j:Nat} (h:A7o q d l a i j) (u:∀x y z,q x y->q y z->q x z) (hi:j<=i) (hq:a<j->q (l.getD (j-1) d) (l.getD j d)):∀s t,a<=s->s<t->t<i+1->q (l.getD s d) (l.getD t d):=by
 intro s t h1 h2 h3;by_cases ht:t=j
 . subst ht;by_cases hs:s=t-1
   . rw[hs];exact hq (by omega)
   . exact u _ _ _ (h s (t-1) h1 (by omega) (by omega) (by omega)) (hq (by omega))
 . exact h s t h1 h2 (by omega) ht
def UV {q:α->α->Prop} {d:α} {l:List α} {a b:Nat} (hb:b<=l.length) (h:∀s t,a<=s->s<t->t<b->q (l.getD s d) (l.getD t d)):((l.drop a).take (b-a)).Pairwise q:=by
 rw[uA];intro i j hi hj u;rw[qW,sN]at hi hj;have e:∀k (hk:k<((l.drop a).take (b-a)).length),((l.drop a).take (b-a))[k]=l.getD (a+k) d:=fun k hk=>by
  rw[qW,sN]at hk;rw[g1h,List.getElem_drop,qF,qS (by omega)];rfl
 rw[e i (by rw[qW,sN];omega),e j (by rw[qW,sN];omega)];exact h _ _ (by omega) (by omega) (by omega)
def UW:∀(n:Nat) (f:Nat->Nat),(∀a,a<n+1->f a<n)->∃a b,a<b/\b<n+1/\f a=f b
 |0,f,h=>absurd (h 0 (by omega)) (by omega)
 |n+1,f,h=>by
  by_cases hv:∃a,a<n+1/\f a=f (n+1)
  . obtain⟨a,h1,h2⟩:=hv;exact⟨a,n+1,h1,by omega,h2⟩
  . have u:∀a,a<n+1->f a≠f (n+1):=fun a ha e=>hv ⟨a,ha,e⟩
    obtain⟨a,b,h1,h2,h3⟩:=UW n (fun a=>if f a<f (n+1)then f a else f a-1) fun a ha=>by
     have:=h a (by omega);have:=h (n+1) (by omega);have:=u a ha;split<;>omega
    refine⟨a,b,h1,by omega, ?_⟩;have e1:=u a (by omega);have e2:=u b (by omega);split at h3<;>split at h3<;>omega
def Ga {n:Nat} {q:Nat->Nat} (hl:∀a,a<n->q a<n) (hi:∀a b,a<n->b<n->q a=q b->a=b) {j:Nat} (hj:j<n):∃a,a<n/\q a=j:=
 qU fun hn=>by
  have a0:∀a,a<n->q a≠j:=fun a ha e=>hn ⟨a,ha,e⟩
  obtain⟨a,b,h1,h2,u⟩:=UW n (fun a=>if a<n then q a else j) fun a ha=>by
   split
   . rename_i h;exact hl a h
   . exact hj
  by_cases hb:b<n
  . rw[qT hb,qT (by omega)]at u;have:=hi a b (by omega) hb u;omega
  . rw[qL hb,qT (by omega)]at u;exact a0 a (by omega) u
def dot (n:Nat) (u x:Nat->Rat):Rat:=C9 n fun j=>u j*x j
def B1v (n k:Nat) (l:Nat->Rat) (R:Nat->Nat->Rat) (u x:Nat->Rat):C9 n (fun j=>(C9 k (fun m=>l m*R m j)+u j)*x j)=C9 k (fun m=>l m*dot n (R m) x)+dot n u x:=by
 have:(fun j=>(C9 k (fun m=>l m*R m j)+u j)*x j)=fun j=>C9 k (fun m=>l m*(R m j*x j))+u j*x j:=by
  funext j;rw[g2z, <-MV];congr 1;exact B9 fun m _=>wL _ _ _
 rw[this,Gl,Lk];congr 1;exact B9 fun m _=>Mm n (l m) _
def B3t (a b c:Rat):a+b=a+c+(b-c):=by grind
structure HN (n k:Nat) (A:Nat->Nat->Rat) (p q:Nat->Nat) (R Lo:Nat->Nat->Rat):Prop where
 kn:k<=n
 plt:∀m,m<k->p m<n
 qlt:∀m,m<k->q m<n
 pinj:∀a b,a<k->b<k->p a=p b->a=b
 qinj:∀a b,a<k->b<k->q a=q b->a=b
 dec:∀i j,i<n->j<n->A i j=C9 k (fun m=>Lo i m*R (p m) j)+R i j
 zero:∀m i,m<k->i<n->(∀a,a<=m->i≠p a)->R i (q m)=0
 piv:∀m,m<k->R (p m) (q m)≠0
 low:∀a m,a<k->m<k->a<=m->Lo (p a) m=0
def HN.init (n:Nat) (A:Nat->Nat->Rat) (p q:Nat->Nat) (Lo:Nat->Nat->Rat):HN n 0 A p q A Lo:=
 ⟨rN _,fun _ h=>absurd h (uZ _),fun _ h=>absurd h (uZ _),fun _ _ h=>absurd h (uZ _),fun _ _ h=>absurd h (uZ _),fun i j _ _=>by rw[C9,tH],fun _ _ h=>absurd h (uZ _),fun _ h=>absurd h (uZ _),fun _ _ h=>absurd h (uZ _)⟩
section
variable {n k:Nat} {A R Lo R' Lo':Nat->Nat->Rat} {p q p' q':Nat->Nat}
def HN.step (h:HN n k A p q R Lo) {r c:Nat} {fac:Nat->Rat} (hk:k<n) (hr:r<n) (hc:c<n) (a3:∀a,a<k->r≠p a) (a4:∀a,a<k->c≠q a) (hp:R r c≠0)
 (p1:∀m,m<k->p' m=p m) (p2:p' k=r) (q1:∀m,m<k->q' m=q m) (q2:q' k=c)
 (f1:∀i,i<n->i≠r->(∀a,a<k->i≠p a)->fac i=R i c/R r c) (f2:fac r=0) (f3:∀a,a<k->fac (p a)=0)
 (hR:∀i j,i<n->j<n->R' i j=R i j-fac i*R r j) (l1:∀i m,i<n->m<k->Lo' i m=Lo i m) (l2:∀i,i<n->Lo' i k=fac i):HN n (k+1) A p' q' R' Lo':=by
 have rr:∀j,j<n->R' r j=R r j:=fun j hj=>by rw[hR r j hr hj,f2,tL,tK,wM,rO]
 have rp:∀a j,a<k->j<n->R' (p a) j=R (p a) j:=fun a j ha hj=>by rw[hR _ j (h.plt a ha) hj,f3 a ha,tL,tK,wM,rO]
 have a1:∀m,m<k+1->m<k\/m=k:=fun m u=>by omega
 refine⟨hk,fun m u=> ?_,fun m u=> ?_,fun a b ha hb a0=> ?_,fun a b ha hb a0=> ?_,fun i j hi hj=> ?_,fun m i u hi a2=> ?_,fun m u=> ?_,fun a m ha u a5=> ?_⟩
 . rcases a1 m u with u|rfl
   . rw[p1 m u];exact h.plt m u
   . rw[p2];exact hr
 . rcases a1 m u with u|rfl
   . rw[q1 m u];exact h.qlt m u
   . rw[q2];exact hc
 . rcases a1 a ha with ha|rfl<;>rcases a1 b hb with hb|rfl
   . rw[p1 a ha,p1 b hb]at a0;exact h.pinj a b ha hb a0
   . rw[p1 a ha,p2]at a0;exact absurd a0.symm (a3 a ha)
   . rw[p2,p1 b hb]at a0;exact absurd a0 (a3 b hb)
   . rfl
 . rcases a1 a ha with ha|rfl<;>rcases a1 b hb with hb|rfl
   . rw[q1 a ha,q1 b hb]at a0;exact h.qinj a b ha hb a0
   . rw[q1 a ha,q2]at a0;exact absurd a0.symm (a4 a ha)
   . rw[q2,q1 b hb]at a0;exact absurd a0 (a4 b hb)
   . rfl
 . have e1:C9 k (fun m=>Lo' i m*R' (p' m) j)=C9 k (fun m=>Lo i m*R (p m) j):=B9 fun m u=>by rw[l1 i m hi u,p1 m u,rp m j u hj]
   rw[C9,p2,rr j hj,l2 i hi,hR i j hi hj,h.dec i j hi hj,e1];exact B3t _ _ _
 . rcases a1 m u with u|rfl
   . have h1:=h.zero m i u hi fun a ha=>by have:=a2 a ha;rwa[p1 a (by omega)]at this
     have h2:=h.zero m r u hr fun a ha=>a3 a (by omega)
     rw[q1 m u,hR i _ hi (h.qlt m u),h1,h2,uX,tK,wM,rO]
   . have a7:i≠r:=by have:=a2 m (rB _);rwa[p2]at this
     have a6:∀a,a<m->i≠p a:=fun a ha=>by have:=a2 a (by omega);rwa[p1 a ha]at this
     rw[q2,hR i c hi hc,f1 i hi a7 a6,wX,wL,g1a _ hp,g3d,tK,g3s]
 . rcases a1 m u with u|rfl
   . rw[p1 m u,q1 m u,rp m _ u (h.qlt m u)];exact h.piv m u
   . rw[p2,q2,rr c hc];exact hp
 . rcases a1 m u with u|rfl
   . rw[p1 a (by omega),l1 _ m (h.plt a (by omega)) u];exact h.low a m (by omega) u a5
   . rcases a1 a ha with ha|rfl
     . rw[p1 a ha,l2 _ (h.plt a ha)];exact f3 a ha
     . rw[p2,l2 r hr];exact f2
def HN.dot (h:HN n k A p q R Lo) (x:Nat->Rat) {i:Nat} (hi:i<n):C9 n (fun j=>A i j*x j)=C9 k (fun m=>Lo i m*dot n (R (p m)) x)+Go.Proofs.YtiflhbllbgajeaaGreat.dot n (R i) x:=by
 rw[<-B1v n k (Lo i) (fun m=>R (p m)) (R i) x];exact B9 fun j u=>by rw[h.dec i j hi u]
def HN.stuck (h:HN n k A p q R Lo) {c:Nat} (hc:c<n) (a5:∀a,a<k->c≠q a) (hz:∀i,i<n->(∀a,a<k->i≠p a)->R i c=0):¬nonsing n A:=by
 have key:∀t,t<=k->∃x:Nat->Rat,x c=1/\(∀j,j≠c->(∀m,m<k->j≠q m)->x j=0)/\∀m,k-t<=m->m<k->Go.Proofs.YtiflhbllbgajeaaGreat.dot n (R (p m)) x=0:=by
  intro t
  induction t with
  |zero=>exact fun _=>⟨fun j=>if j=c then 1 else 0,qT rfl,fun j hj _=>qL hj,fun m hm hmk=>by omega⟩
  |succ t ih=>
   intro ht;obtain⟨x,x1,x2,x3⟩:=ih (by omega);have a0:k-(t+1)<k:=by omega
   generalize hm:k-(t+1)=m0 at a0;have hd:∀(u:Nat->Rat) (d:Rat),Go.Proofs.YtiflhbllbgajeaaGreat.dot n u (fun j=>x j+if j=q m0 then d else 0)=Go.Proofs.YtiflhbllbgajeaaGreat.dot n u x+u (q m0)*d:=fun u d=>by
    unfold Go.Proofs.YtiflhbllbgajeaaGreat.dot;rw[B9 (g:=fun j=>u j*x j+u j*if j=q m0 then d else 0) fun j _=>Rat.mul_add _ _ _,Gl];congr 1;rw[O5 (h.qlt m0 a0) fun j _ hj=>by rw[qL hj,uX],qT rfl]
   refine⟨fun j=>x j+if j=q m0 then-(Go.Proofs.YtiflhbllbgajeaaGreat.dot n (R (p m0)) x)/R (p m0) (q m0)else 0, ?_,fun j hj hq=> ?_,fun m h1 h2=> ?_⟩
   . show x c+(if c=q m0 then _ else 0)=1;rw[qL (a5 m0 a0),x1,rO]
   . show x j+(if j=q m0 then _ else 0)=0;rw[qL (hq m0 a0),x2 j hj hq,rO]
   . rw[hd];by_cases a6:m=m0
     . subst a6;have:=h.piv m h2;rw[wX,g4e,wL,g1a _ this,g3d,g3s]
     . rw[x3 m (by omega) h2,h.zero m0 (p m) a0 (h.plt m h2) fun a ha e=>by have:=h.pinj m a h2 (by omega) e;omega,tL,rO]
 obtain⟨x,x1,x2,x3⟩:=key k (rB _);intro a7;have a2:∀i,i<n->C9 n (fun j=>A i j*x j)=0:=fun i hi=>by
  rw[h.dot x hi,Bq fun m hm=>by rw[x3 m (by omega) hm,uX],tH];by_cases a1:∃a,a<k/\i=p a
  . obtain⟨a,ha,rfl⟩:=a1;exact x3 a (by omega) ha
  . refine Bq fun j hj=> ?_
    by_cases a3:j=c
    . rw[a3,hz i hi fun a ha e=>a1 ⟨a,ha,e⟩,tL]
    . by_cases a4:∃m,m<k/\j=q m
      . obtain⟨m,hm,rfl⟩:=a4;rw[h.zero m i hm hi fun a ha e=>a1 ⟨a,by omega,e⟩,tL]
      . rw[x2 j a3 fun m hm e=>a4 ⟨m,hm,e⟩,uX]
 have:=a7 x a2 c hc;rw[x1]at this;exact absurd this (by decide)
def HN.nonsing (h:HN n n A p q R Lo):nonsing n A:=by
 intro x hx;have hy:∀a,a<n->Go.Proofs.YtiflhbllbgajeaaGreat.dot n (R (p a)) x=0:=by
  intro a
  induction a using Nat.strongRecOn with
  |ind a ih=>
   intro ha;have h1:=hx (p a) (h.plt a ha);rw[h.dot x (h.plt a ha),Bq fun m hm=> ?_,tH]at h1
   . exact h1
   . by_cases a1:m<a
     . rw[ih m a1 hm,uX]
     . rw[h.low a m ha hm (by omega),tL]
 have hz:∀t b,t<n->b=n-1-t->x (q b)=0:=by
  intro t
  induction t using Nat.strongRecOn with
  |ind t ih=>
   intro b ht hb;have u:b<n:=by omega
   have h1:=hy b u;unfold Go.Proofs.YtiflhbllbgajeaaGreat.dot at h1;rw[O5 (h.qlt b u) fun j hj a0=> ?_]at h1
   . exact(g0g.1 h1).resolve_left (h.piv b u)
   . obtain⟨m,hm,rfl⟩:=Ga h.qlt h.qinj hj;by_cases a2:m<b
     . rw[h.zero m (p b) hm (h.plt b u) fun a ha e=>by have:=h.pinj b a u (by omega) e;omega,tL]
     . have a3:m≠b:=fun e=>a0 (by rw[e])
       rw[ih (n-1-m) (by omega) m (by omega) (by omega),uX]
 intro j hj;obtain⟨b,hb,rfl⟩:=Ga h.qlt h.qinj hj;exact hz (n-1-b) b (by omega) (by omega)
def HN.prod (h:HN n n A p q R Lo) {a b:Nat} (u:a<n) (hb:b<n):A (p a) (q b)=C9 n fun m=>(Lo (p a) m+if m=a then 1 else 0)*R (p m) (q b):=by
 rw[h.dec _ _ (h.plt a u) (h.qlt b hb),B9 (f:=fun m=>(Lo (p a) m+if m=a then 1 else 0)*R (p m) (q b)) (g:=fun m=>Lo (p a) m*R (p m) (q b)+(if m=a then 1 else 0)*R (p m) (q b)) fun m _=>g2z _ _ _,Gl];congr 1;rw[O5 u fun m _ hm=>by rw[qL hm,tL],qT rfl,xW]
end
end Go.Proofs.YtiflhbllbgajeaaGreat
namespace Go.Proofs.YtiflhbllbgajeaaGreat
def Lab (L:List Int):Prop:=∀i:Int,0<=i->i<(L.length:Int)->0<=I1 L i/\I1 L i<=i/\I1 L (I1 L i)=I1 L i
def Dp (L:List Int) (l:Ln):(Fj L l).length=L.length:=by simp[Fj]
def QH {L:List Int} {i:Int} (u:0<=i) (h1:i<(L.length:Int)):L[i.toNat]? =some (I1 L i):=by
 have:i.toNat<L.length:=by omega
 unfold I1;rw[qF,qS this];rfl
def Dr {L:List Int} {l:Ln} {i:Int} (h0:0<=i) (h1:i<(L.length:Int)):I1 (Fj L l) i=if I1 L i=max (I1 L l.1) (I1 L l.2)then min (I1 L l.1) (I1 L l.2)else I1 L i:=by
 have u:=QH (L:=Fj L l) h0 (by rw[Dp];exact h1);unfold Fj at u;rw[wR,QH h0 h1]at u;simp only[vT,rE]at u;exact u.symm
def Og (n:Int):(mP n).length=n.toNat:=by simp[mP]
def CE {n i:Int} (h0:0<=i) (h1:i<n):I1 (mP n) i=i:=by
 have u:=QH (L:=mP n) h0 (by rw[Og];omega);unfold mP at u;rw[wR,g0l (by omega)]at u;simp only[vT,rE]at u;rw[show I1 (mP n) i= _ from u.symm];show((i.toNat:Nat):Int)=i;omega
def pU (n:Int):Lab (mP n):=fun i u h1=>by
 rw[Og]at h1;rw[CE u (by omega),CE u (by omega)];omega
def Lab.join {L:List Int} {l:Ln} (h:Lab L) (hl:XO L.length l):Lab (Fj L l):=fun i u h1=>by
 rw[Dp]at h1;obtain⟨a0,a1,b0,b1⟩:=hl;obtain⟨p0,p1,p2⟩:=h _ a0 a1;obtain⟨q0,q1,q2⟩:=h _ b0 b1;obtain⟨r0,r1,r2⟩:=h i u h1;rw[Dr u h1];have hm:I1 L (min (I1 L l.1) (I1 L l.2))=min (I1 L l.1) (I1 L l.2):=by
  rcases(by omega:min (I1 L l.1) (I1 L l.2)=I1 L l.1\/min (I1 L l.1) (I1 L l.2)=I1 L l.2)with e|e<;>rw[e]<;>assumption
 split
 . rename_i e;refine⟨by omega,by omega, ?_⟩;rw[Dr (by omega) (by omega),hm];split<;>rfl
 . rename_i e;refine⟨r0,r1, ?_⟩;rw[Dr r0 (by omega),r2,qL e]
def A2o (n:Int) (ls:List Ln) (l:Ln):Al n (ls++ [l])=Fj (Al n ls) l:=by simp[Al,List.foldl_append]
def Yz (n:Int) (ls:List Ln):(Al n ls).length=n.toNat:=by
 unfold Al;have:∀(ls:List Ln) (L:List Int),(ls.foldl Fj L).length=L.length:=by
  intro ls
  induction ls with
  |nil=>intro L;rfl
  |cons l ls u=>intro L;rw[yC,u,Dp]
 rw[this,Og]
def A7z {n:Int} {ls:List Ln} (hn:0<=n) (h:∀l∈ls,XO n l):Lab (Al n ls):=by
 unfold Al;have:∀(ls:List Ln) (L:List Int),L.length=n.toNat->(∀l∈ls,XO n l)->Lab L->Lab (ls.foldl Fj L):=by
  intro ls
  induction ls with
  |nil=>intro L _ _ h;exact h
  |cons l ls u=>
   intro L hl hb h;rw[yC];refine u _ (by rw[Dp];exact hl) (fun x hx=>hb x (by simp[hx])) (h.join ?_);have:=hb l (by simp);rw[hl,show((n.toNat:Nat):Int)=n from by omega];exact this
 exact this ls _ (Og n) h (pU n)
def A3y {α:Type} {l:List α} {j:Nat} {d:α} (h:j<l.length):l.take (j+1)=l.take j++ [l.getD j d]:=by
 rw[rR,qS h,qF,qS h];rfl
def mW {L:List Int} {l:Ln} {u v:Int} (u0:0<=u) (u1:u<(L.length:Int)) (v0:0<=v) (v1:v<(L.length:Int)) (h:I1 L u=I1 L v):I1 (Fj L l) u=I1 (Fj L l) v:=by
 rw[Dr u0 u1,Dr v0 v1,h]
def A2l {L:List Int} {l:Ln} (hl:XO L.length l):I1 (Fj L l) l.1=I1 (Fj L l) l.2:=by
 obtain⟨u,a1,b0,b1⟩:=hl;rw[Dr u a1,Dr b0 b1];split<;>split<;>omega
def TA {n:Int} (hn:0<=n) {u v:Int} (u0:0<=u) (u1:u<n) (v0:0<=v) (v1:v<n):∀(ls:List Ln) (L:List Int),L.length=n.toNat->I1 L u=I1 L v->I1 (ls.foldl Fj L) u=I1 (ls.foldl Fj L) v
 | [],_,_,h=>h
 |l::ls,L,hL,h=>by
  rw[yC];exact TA hn u0 u1 v0 v1 ls _ (by rw[Dp];exact hL) (mW u0 (by omega) v0 (by omega) h)
def ZM {n:Int} (hn:0<=n) {l:Ln} :∀(ls:List Ln) (L:List Int),L.length=n.toNat->(∀l∈ls,XO n l)->l∈ls->I1 (ls.foldl Fj L) l.1=I1 (ls.foldl Fj L) l.2
 | [],_,_,_,h=>by cases h
 |x::ls,L,u,hb,h=>by
  rw[yC];have hx:=hb x (by simp);rcases qG.1 h with rfl|h
  . obtain⟨a0,a1,b0,b1⟩:=hx;exact TA hn a0 a1 b0 b1 ls _ (by rw[Dp];exact u) (A2l (by rw[u];exact⟨a0,by omega,b0,by omega⟩))
  . exact ZM hn ls _ (by rw[Dp];exact u) (fun y hy=>hb y (by simp[hy])) h
def A2n {n:Int} {ls:List Ln} (u:0<=n) (hb:∀l∈ls,XO n l) {l:Ln} (h:l∈ls):I1 (Al n ls) l.1=I1 (Al n ls) l.2:=ZM u ls _ (Og n) hb h
def ZL {α:Type} {n:Int} (hn:0<=n) {f:Int->α} :∀(ls:List Ln) (L:List Int),L.length=n.toNat->Lab L->(∀l∈ls,XO n l/\f l.1=f l.2)->(∀i:Int,0<=i->i<n->f (I1 L i)=f i)->∀i:Int,0<=i->i<n->f (I1 (ls.foldl Fj L) i)=f i
 | [],_,_,_,_,h=>h
 |l::ls,L,hL,u,hb,h=>by
  rw[yC];obtain⟨⟨a0,a1,b0,b1⟩,hl⟩:=hb l (by simp);have a2:XO (L.length:Int) l:=by rw[hL];exact⟨a0,by omega,b0,by omega⟩
  refine ZL hn ls _ (by rw[Dp];exact hL) (u.join a2) (fun y hy=>hb y (by simp[hy])) fun i i0 i1=> ?_
  rw[Dr i0 (by omega)];split
  . rename_i e;have ea:=h _ a0 a1;have eb:=h _ b0 b1;have ei:=h i i0 i1;rcases(by omega:min (I1 L l.1) (I1 L l.2)=I1 L l.1\/min (I1 L l.1) (I1 L l.2)=I1 L l.2)with e1|e1<;>
    rcases(by omega:max (I1 L l.1) (I1 L l.2)=I1 L l.1\/max (I1 L l.1) (I1 L l.2)=I1 L l.2)with e2|e2
    . rw[e1, <-ei,e,e2]
    . rw[e1, <-ei,e,e2,ea,eb,hl]
    . rw[e1, <-ei,e,e2,ea,eb,hl]
    . rw[e1, <-ei,e,e2]
  . exact h i i0 i1
def A2m {α:Type} {n:Int} {ls:List Ln} (hn:0<=n) (hb:∀l∈ls,XO n l) {f:Int->α} (u:∀l∈ls,f l.1=f l.2):∀i:Int,0<=i->i<n->f (I1 (Al n ls) i)=f i:=
 ZL hn ls _ (Og n) (pU n) (fun l hl=>⟨hb l hl,u l hl⟩) fun i i0 i1=>by rw[CE i0 i1]
end Go.Proofs.YtiflhbllbgajeaaGreat
namespace Go.Vc
open Go Go.RowKit Go.Gw
def N8 (o:Oper):List Nat:=(o.after.toList.filter fun e=>Region.binds .any e).map (·.on)
def A1b {α:Type} [DecidableEq α]:∀ {a b:List α},a.Nodup->(∀x∈a,x∈b)->a.length<=b.length
 | [],_,_,_=>rN _
 |x::a,b,hn,h=>by
  obtain⟨h1,u⟩:=sH.1 hn;have hx:=h x (rC);have:=A1b (a:=a) (b:=b.erase x) u fun y hy=>(g0b (fun e=>h1 (by rw[<-e];exact hy))).2 (h y (qJ _ hy))
  rw[yZ hx]at this;have:=zP hx;rw[rH];omega
def LO {l:Array Bool} {j:Nat} (u:j<l.size) (a b:Bool):l.getD j a=l.getD j b:=by
 simp only[uO,tZ u,vA]
def B1j {P:Program} {n:Nat} {all:List Oper} {Q:Exit->F8->World->Prop} (hn:ZE n all=true) (aa:∀i o,all[i]? =some o->∀j∈N8 o,j<i) {Inv:List Nat->F8->World->Prop}
 (a4:∀(L:List Nat) (i:Nat) (o:Oper) (E:F8) (w:World),all[i]? =some o->i∉L->(∀j∈N8 o,j∈L)->Inv L E w->I0 P all o (Inv (i::L)) E w)
 (a1:∀(L:List Nat) (E:F8) (w:World),(∀i,i<all.length->i∈L)->Inv L E w->Q .normal E w):
 ∀(fuel:Nat) (listed:Array Bool) (L:List Nat) (a:Act) (E:F8) (w:World),listed.size=all.length->(∀i,i∈L↔listed.getD i false=true)->L.Nodup->L.length+fuel=all.length->Gw.C4 n a E->Inv L E w->wpAny P .any all.toArray (DL n Q) fuel listed a w:=by
 have a8:∀ {listed:Array Bool} {L:List Nat},listed.size=all.length->(∀i,i∈L↔listed.getD i false=true)->∀i∈L,i<all.length:=fun {listed L} u hL i hi=>by
  have h1:=(hL i).1 hi;rw[<-u];refine qU fun hh=> ?_
  rw[uO,zK (by omega)]at h1;cases h1
 intro fuel
 induction fuel with
 |zero=>
  intro listed L a E w u hL a3 a6 hr hI;have a0:∀i,i<all.length->i∈L:=fun i hi=>qU fun hh=>by
   have:=A1b (a:=i::L) (b:=List.range all.length) (sH.2 ⟨hh,a3⟩) fun x hx=>by
    rcases qG.1 hx with rfl|hx
    . exact xB.2 hi
    . exact xB.2 (a8 u hL x hx)
   rw[rH,g1i]at this;omega
  refine⟨List.eq_nil_iff_forall_not_mem.2 fun j hj=> ?_,E,hr,a1 L E w a0 hI⟩;obtain⟨h0,o,ho,_⟩:=mem_ready.1 hj;rw[vP]at ho;have a9:=(sD.1 ho).1;have:=(hL j).1 (a0 j a9);rw[LO (by omega) true false,this]at h0;cases h0
 |succ fuel ih=>
  intro listed L a E w u hL a3 a6 hr hI;refine⟨fun ab=>⟨E,hr,a1 L E w (fun i=> ?_) hI⟩,fun i hi=> ?_⟩
  . induction i using Nat.strongRecOn with
    | _ i ac=>
     intro hi;refine qU fun hh=> ?_
     have:i∈Region.ready .any all.toArray listed:=mem_ready.2 ⟨?_,all[i],by rw[vP,qS hi],fun e he hb=> ?_⟩
     . rw[ab]at this;cases this
     . cases hv:listed.getD i true with
       |false=>rfl
       |true=>exact absurd ((hL i).2 (by rw[LO (by omega) false true];exact hv)) hh
     . have hd:e.on∈N8 all[i]:=tC.2 ⟨e,wC.2 ⟨g2n.2 he,hb⟩,rfl⟩;have a7:=aa i _ (qS hi) _ hd;exact(hL _).1 (ac _ a7 (by omega))
  . obtain⟨h0,o,ho,hd⟩:=mem_ready.1 hi;rw[vP]at ho;have ad:=(sD.1 ho).1;have a5:i∉L:=fun hh=>by
     have:=(hL i).1 hh;rw[LO (by omega) true false,this]at h0;cases h0
    refine Vh hn ho (fun a' E' w' hr' hh=>ih _ (i::L) a' E' w' (by rw[Array.size_setIfInBounds];exact u) (fun j=> ?_) (sH.2 ⟨a5,a3⟩) (by rw[rH];omega) hr' hh) hr (a4 L i o E w ho a5 (fun j hj=> ?_) hI)
    . by_cases a2:j=i
      . subst a2;simp only[qG,true_or,true_iff,uO];rw[Array.getElem?_setIfInBounds_self_of_lt (by omega)];rfl
      . rw[getD_set_ne false (Ne.symm a2), <-hL j,qG];exact⟨fun h=>h.resolve_left a2, .inr⟩
    . obtain⟨e,he,rfl⟩:=tC.1 hj;obtain⟨h1,h2⟩:=wC.1 he;exact(hL _).2 (hd e (g2n.1 h1) h2)
section
variable {za:Zn} {w0:World} {cx:Cx} {sp:G7} {an:An} {n:Nat}
def B7.look {st:St} {E:F8} {w:World} {Z:Nat->Prop} {B:Nat->Value} (h:B7 za w0 st E w Z B) {st2:St} (hS:∀s,st2.S s=st.S s\/st2.S s= .dead) (u:∀k,st2.L k=st.L k) (hm:st2.nm=st.nm) (a1:st2.nm<=st2.nx) (hf:st2.fr= []) (a0:st.fr= [])
 (hr:∀s,Nu st2.nx (st2.S s)) (hl:∀k,Ky st2.nx (st2.L k)) (hn:∀k,st2.nx<=k->st2.L k= .none):B7 za w0 st2 E w Z B:=
 ⟨h.ext,h.zlt,fun s=>by
  rcases hS s with e|e
  . rw[e];exact h.slots s
  . rw[e];trivial,fun k=>by rw[u];exact h.locs k,fun k k' b=>by rw[u,u];exact h.disj k k' b,hr,hl,hn,h.bone,h.zin,⟨hm.trans h.nms.1,by rw[<-h.nms.1, <-hm];exact a1⟩,h.bfix,⟨h.mrk.1,fun k b hk hb=>by rw[u]at hb;exact h.mrk.2 k b hk hb⟩,by
  have:=h.frs;rw[a0]at this;rw[hf];exact this,fun f hh=>by rw[hf]at hh;cases hh⟩
def B0a {P:Program} {a b:Code} {ka:St->Prop} {Q:Exit->F8->World->Prop} {E:F8} {w:World} (ha:Gw.Wp P n a (post za w0 ⟨ka,fun _ _=>False,fun _=>False⟩) E w) (hb:∀st E w Z B,B7 za w0 st E w Z B->ka st->Gw.Wp P n b Q E w):Gw.Wp P n (.seq a b) Q E w:=by
 intro u a0 hr;simp only[X0,qC]at u;refine wp_seq (wp_mono (ha u.1 a0 hr) ?_);rintro e a' w' ⟨E',hr',st',Z',B',h',hq⟩;cases e with
 |normal=>exact hb _ _ _ _ _ h' hq u.2 a' hr'
 | _=>exact hq.elim
def B3g {P:Program} {id:Nat} {ops:Array Oper} {Q:Exit->F8->World->Prop} {E:F8} {w:World} (hm:P.follows .mixedOrders=true) (a3:∀i o,ops.toList[i]? =some o->∀j∈N8 o,j<i) {Inv:List Nat->F8->World->Prop}
 (u:∀(L:List Nat) (i:Nat) (o:Oper) (E:F8) (w:World),ops.toList[i]? =some o->i∉L->(∀j∈N8 o,j∈L)->Inv L E w->I0 P ops.toList o (Inv (i::L)) E w)
 (a0:∀(L:List Nat) (E:F8) (w:World),(∀i,i<ops.toList.length->i∈L)->Inv L E w->Q .normal E w) (hI:Inv [] E w.drew):Gw.Wp P n (.region id ops true) Q E w:=by
 intro a1 a hr;simp only[X0]at a1;have a2:ops=ops.toList.toArray:=by simp
 rw[a2];refine wp_region_any hm ?_;have:=B1j (P:=P) a1 a3 u a0 ops.toList.length (Array.replicate ops.toList.length false) [] a E w.drew (by simp) (fun i=> ?_) xU (by simp) hr hI
 . simpa using this
 . simp only[sA,false_iff,uO,xP];split<;>simp
end
def hd1 (st:St) (d:Nat) (v:DV):St:=⟨(d,0,v)::st.sl,st.lc,st.nx,st.ct,st.nm,st.fr⟩
def hdL (st:St) (k:Nat) (l:LC):St:=⟨st.sl,(k,0,l)::st.lc,st.nx,st.ct,st.nm,st.fr⟩
def EL (st:St) (d s:Nat) (v:DV):(hd1 st d v).S s=if s=d then v else st.S s:=by
 show(find (0, .dead) s ((d,0,v)::st.sl)).2= _;simp only[find];by_cases h:s=d
 . subst h;simp
 . rw[C8 (Ne.symm h),qL h];rfl
def oX (st:St) (k q:Nat) (l:LC):(hdL st k l).L q=if q=k then l else st.L q:=by
 show(find (0, .none) q ((k,0,l)::st.lc)).2= _;simp only[find];by_cases h:q=k
 . subst h;simp
 . rw[C8 (Ne.symm h),qL h];rfl
def A8u {n k:Nat} (u:n<=k):∀ {c:C},Cd n c->XN k c=false
 | .row j,h=>C8 (tU (rD h u))
 | .mp j,h=>C8 (tU (rD h u))
 | .win j _ _ _,h=>C8 (tU (rD h u))
 | .box _ _,_=>rfl
 | .elp _ _ _ _,_=>rfl
 | .val _ _,_=>rfl
 | .pf _ _ _,_=>rfl
 | .fn _ _,_=>rfl
 | .fv _ _ _ _ _ _,_=>rfl
 | .raw _,_=>rfl
 | .dead,_=>rfl
def nJ {n k:Nat} (hk:n<=k) {s:SV} (h:Kz n s):s.cs.any (XN k)=false:=by
 rw[wP];intro c u;rw[A8u hk (h c u)];simp
def B7c {n k:Nat} (u:n<=k):∀ {d:DV},Nu n d->Vu k d=false
 | .one s,h=>nJ u h
 | .cnd _ _ s,h=>nJ u h
 | .dead,_=>rfl
 | .tup ss,h=>by
  show ss.any _=false;rw[wP];intro s hs;rw[nJ u (h s hs)];simp
def B7d {n k:Nat} (hk:n<=k):∀ {l:LC},Ky n l->TC k l=false
 | .box _ cs,h=>by
  show cs.any _=false;rw[wP];intro c u;rw[A8u hk (h c u)];simp
 | .none,_=>rfl
 | .row _ _ _,_=>rfl
 | .map _ _ _ _ _,_=>rfl
 | .rows _ _ _ _ _ _,_=>rfl
 | .al _,_=>rfl
 | .sbox _ _ _,_=>rfl
 | .mapE _ _ _ _ _ _ _,_=>rfl
 | .iter _ _ _ _ _ _,_=>rfl
 | .nest _ _ _ _ _ _,_=>rfl
 | .itM _ _ _ _ _ _ _ _,_=>rfl
section
variable {za:Zn} {w0:World} {st:St} {E:F8} {w:World} {Z:Nat->Prop} {B:Nat->Value}
def B7.hd1 (h:B7 za w0 st E w Z B) {d:Nat} {v:DV} (u:st.S d=v):B7 za w0 (hd1 st d v) E w Z B:=by
 have e:∀s,(Vc.hd1 st d v).S s=st.S s:=fun s=>by
  rw[EL];split
  . rename_i h;subst h;exact u.symm
  . rfl
 exact⟨h.ext,h.zlt,fun s=>by rw[e];exact h.slots s,h.locs,h.disj,fun s=>by rw[e];exact h.refs s,h.refl,h.fresh,h.bone,h.zin,h.nms,h.bfix,h.mrk,h.frs,h.frf⟩
def B7.hdL (h:B7 za w0 st E w Z B) {k:Nat} {l:LC} (u:st.L k=l):B7 za w0 (hdL st k l) E w Z B:=by
 have e:∀s,(Vc.hdL st k l).L s=st.L s:=fun s=>by
  rw[oX];split
  . rename_i h;subst h;exact u.symm
  . rfl
 exact⟨h.ext,h.zlt,h.slots,fun s=>by rw[e];exact h.locs s,fun a b c=>by rw[e,e];exact h.disj a b c,h.refs,fun s=>by rw[e];exact h.refl s,fun s u=>by rw[e];exact h.fresh s u,h.bone,h.zin,h.nms,h.bfix,⟨h.mrk.1,fun a b hk hb=>by rw[e]at hb;exact h.mrk.2 a b hk hb⟩,h.frs,h.frf⟩
def B7.unrow {d:Nat} {t:Ty} {e:TypeId} {l:List t.den} (h:B7 za w0 (rowS st d t e l) E w Z B) (hn:st.nm<=st.nx) (hf:st.fr= []) (hr:∀s,Nu st.nx (st.S s)) (hl:∀k,Ky st.nx (st.L k)) (a0:∀k,st.nx<=k->st.L k= .none) (hc:∀s,Lw d (st.S s)=false):
 ∃Z',B7 za w0 (Vc.hd1 st d (.one ⟨false,[.val (.sl t) l]⟩)) E w Z' B:=by
 obtain⟨Z',h'⟩:=h.settle [.row st.nx];have hk:(rowS st d t e l).L st.nx= .row t e l:=by
  show((st.newL (.row t e l)).setS d (one1 (.row st.nx))).L st.nx= _;rw[St.L_setS,St.L_newL,qT rfl]
 have a1:(rowS st d t e l).nm=st.nm:=rfl;simp only[Vc.settle,hk,a1,Nat.ble_eq_true_of_le hn,qQ]at h';refine⟨Z',h'.look (fun s=> .inl ?_) (fun k=> ?_) rfl hn hf ?_ (fun s=> ?_) hl a0⟩
 . rw[EL,St.S_freeze];show _=DI st.nx _ (((st.newL (.row t e l)).setS d (one1 (.row st.nx))).S s);rw[St.S_setS,St.S_newL];by_cases hs:s=d
   . subst hs;rw[qT rfl,qT rfl];simp[DI,cR,one1,Yu]
   . rw[qL hs,qL hs,hc s];simp only[rF];rw[LP (B7c (rB _) (hr s))]
 . rw[St.L_freeze];show st.L k=cQ st.nx _ (if k=st.nx then LC.none else(st.newL (.row t e l)).L k);rw[St.L_newL];by_cases u:k=st.nx
   . subst u;rw[qT rfl,a0 _ (rB _)];rfl
   . rw[qL u,qL u,ZO (B7d (rB _) (hl k))]
 . show(rowS st d t e l).fr.map _= [];show st.fr.map _= [];rw[hf];rfl
 . rw[EL];split
   . intro c hc;simp only[qR]at hc;subst hc;trivial
   . exact hr s
end
section
variable {za:Zn} {w0:World} {cx:Cx} {sp:G7} {an:An} {n:Nat}
def A2w {f:FuncId} {fn:Func} {c:Code} {s:A7} (hf:cx.P.funcs[f]? =some fn) (hb:fn.body=some c) (hn:s.args.length<=fn.ntmps) (ah:X0 fn.ntmps c=true) (hty:H1 cx.P cx.tys=true)
 (ag:∀x,awf s.args x->s.pre x->∀(za:Zn) (w0:World) (E:F8) (w:World) (Z:Nat->Prop) (B:Nat->Value),za.b0=0->B7 za w0 (TH cx.P s.args x) E w Z B->Gw.Wp cx.P fn.ntmps c (post za w0 ⟨fin cx s fn.results.toList x,fun _ _=>False,fin cx s fn.results.toList x⟩) E w):A8 cx.P f s:=by
 intro w Z vs x hz a8 aa ad;have a4:vs.length=s.args.length:=a8.len;generalize a3:zn0 w Z s.args vs=za;have a6:=pQ hz a8 aa;rw[a3]at a6;refine Yj hf hb (by rw[a4];exact hn) ah (fun E w'=>Nx za w (fin cx s fn.results.toList x) E w') ?_ ⟨fun ab a hr=> ?_⟩
 . rintro E w' tmps ht ⟨st,Z',B',h,a1⟩;unfold fin at a1;split at a1
   . rename_i ss ai;split at a1
     . rename_i aj af;split at a1
       . rename_i r o hr ho;obtain⟨a2,a0⟩:=B4 a1;simp only[qC]at a2;obtain⟨Z0,h0⟩:=B7.settleR (rs:=s.res) (ss:=ss) h;obtain⟨Z1,h1⟩:=B7.settleM (as:=s.args) (j:=0) h0;obtain⟨us,g1,g2⟩:=Zu hty h1 ht af;have ae:(results fn tmps).run cx.P w'= .ok (Vz us) w':=by
          have hm:(fn.results.mapM (XM tmps)).run cx.P w'= .ok us.toArray w':=by
           rw[xE];simp[g1]
          have e:results fn tmps=(do let vs<-fn.results.mapM (XM tmps);pure (if h:vs.size=1 then vs[0]else .tuple vs)):=by
           unfold results;congr 1
          rw[e];simp only[Sem.run_bind,hm,Result.andThen_ok,Sem.run_pure]
          match us with
          | []=>rfl
          | [u]=>rfl
          |u::u'::r=>rfl
         have a5:s.post x r/\(N0 s.args=true->s.mpost x r o):=by
          unfold B6k at a0;cases hm:N0 s.args with
          |true=>simp only[hm,qQ]at a0;exact⟨a0.1,fun _=>a0.2⟩
          |false=>simp only[hm,rF]at a0;exact⟨a0,fun hh=>by cases hh⟩
         refine⟨_,ae, ?_,r,o,us,(fun b=>s.shared=true/\Z1 b),a5.1,a5.2,rfl,fun b hb=> ?_, ?_, ?_⟩
         . have:=h.ext;rw[<-a3]at this;exact this
         . rcases h1.zin b hb.2 with hh|hh
           . rw[<-a3]at hh;exact .inr ⟨hb.1,hh⟩
           . exact .inl ⟨hh,h1.zlt b hb.2⟩
         . refine(Mh h1 (Zn:=fun b=>s.shared=true/\Z1 b) (fun b hb=>hb.2) ?_ g2 hr (Fk a2.1.1) a2.1.2).1;cases a9:s.shared with
           |true=>exact .inl fun b hb=>⟨rfl,hb⟩
           |false=>rw[a9]at a2;simp only[vX,qC]at a2;exact .inr a2.2.1
         . refine Ue (Zn:=fun b=>s.shared=true/\Z1 b) h1 (j:=0) ?_ (fun m u hm=> ?_) (fun m p hm b hu=> ?_) a4 ho
           . cases a9:s.shared with
             |true=>exact .inl fun b hb=>⟨rfl,hb⟩
             |false=>rw[a9]at a2;simp only[vX,qC]at a2;exact .inr a2.2.2
           . have a7:=EM hm;rw[R6 a4]at a7;have:=h1.bfix m (by rw[<-a3];exact a7);rw[sG,this, <-a3];show TW s.args vs m=u;simp only[TW,hm,vA]
           . rw[<-a3,sG]at hu;rcases hu with⟨hu,_⟩ | ⟨_,p',ac,hb⟩
             . have a7:=EM (show(D1 s.args vs)[m]? =some p.2 by rw[Ly,wR,hm];rfl);rw[R6 a4]at a7;have hu:Jx s.args<=m:=hu;omega
             . rw[hm]at ac;cases ac;exact hb
       . exact a1.elim
     . exact a1.elim
   . exact a1.elim
 . refine wp_mono (ag x a8.awf ad za w _ _ _ _ (by rw[<-a3];rfl) a6 ab a hr) ?_;rintro e a' w' ⟨E',hr',st',Z',B',h',hq⟩;refine⟨E',hr', ?_⟩;cases e with
   |normal=>exact⟨st',Z',B',h',hq⟩
   |ret=>exact⟨st',Z',B',h',hq⟩
   | _=>exact hq.elim
end
end Go.Vc
