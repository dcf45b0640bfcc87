/- Part. -/
import Derived.WalkKit
import Derived.ProofKit
import Derived.OpenShut
import Derived.Carry
import Derived.ChangeSlices
import Derived.ChangeSame
import Derived.Test.YthiimnbdinlfeaaGreatKBD
set_option linter.all false
namespace Go.Proofs.YthiimnbdinlfeaaGreat
open Go.Vc Go.Gw
abbrev Yy:=Int×Int×C0×C0
abbrev Uh:=Int×List Yy
def dB:Yy:=(0,0,((false,[]),[]),((false,[]),[]))
def Fd (E:List Yy) (i:Nat):Nat:=(E.getD i dB).1.toNat
def Gi (E:List Yy) (i:Nat):Nat:=(E.getD i dB).2.1.toNat
def IZ (E:List Yy) (i:Nat):Rat:=rv (E.getD i dB).2.2.1
def bX (E:List Yy) (i:Nat):Rat:=rv (E.getD i dB).2.2.2
def cW (n:Int) (e:Yy):Prop:=0<=e.1/\e.1<n/\0<=e.2.1/\e.2.1<n/\e.1≠e.2.1/\0<rv e.2.2.1
instance (n:Int) (e:Yy):Decidable (cW n e):=by unfold cW;infer_instance
def E7 (N:Uh):Prop:=0<=N.1/\N.1<=16384/\N.2.length<=16384/\∀e∈N.2,cW N.1 e
instance (N:Uh):Decidable (E7 N):=by unfold E7;infer_instance
def Pw (E:List Yy):List Ln:=E.map fun e=>(e.1,e.2.1)
def W6 (N:Uh) (b:Nat):Nat:=(D0 (L9 N.1 (Pw N.2)) (b:Int)).toNat
def Ry (E:List Yy) (b c:Nat):Rat:=JW E.length (Fd E) (Gi E) (IZ E) b c
def Zj (E:List Yy) (f:Nat->Rat) (b:Nat):Rat:=QK E.length (Fd E) (Gi E) f b
def Ur (E:List Yy) (t:Nat->Rat) (i:Nat):Rat:=flw (Fd E) (Gi E) (IZ E) (bX E) t i
abbrev K2:Nat:=4294967296
def N7 (l:List C0) (i:Nat):Rat:=rv (l.getD i zr)
def U3 (s:List Int) (x:List C0):Prop:=∀t,t<s.length->C6 s.length (fun b=>(if s.getD b 0=(t:Int)then 1 else 0)*N7 x b)=0
instance (s:List Int) (x:List C0):Decidable (U3 s x):=by unfold U3;infer_instance
def szN (k:Nat) (E:List Yy):Prop:=∀e∈E,sz k e.2.2.1/\sz k e.2.2.2
def Al (N:Uh):Prop:=N.1<=7/\N.2.length<=9/\szN 2 N.2
def A7m (N:Uh):Prop:=E7 N/\1<=N.1/\N.1<=6/\N.2.length<=9/\∀e∈N.2,Kk e.2.2.1/\Kk e.2.2.2
def LV (n:Nat) (f:Nat->Rat):List C0:=(List.range n).map fun i=>rc (f i)
end Go.Proofs.YthiimnbdinlfeaaGreat
namespace Go.Gw
open Go Go.RowKit Go.ChangeShapes Go.WideShapes Go.ChangeAt
section
variable {H:Type} {enc:TypeId×Value->H} {P:Program}
def CF (hl:laidOutB P=true) {W W':World} {sp:Nat->Bool} (hb:R0 W W'):∀(ts:List TypeId) (vs:List Value) (ds:List (DataW H)) (u:List MemPlace),
 (∀t∈ts,P.readableRec t=true/\t<P.types.size)->DataW.TrodAll enc P W 0 (fun _=>true) true ts vs ds u->(∀x∈u,x.block<W.heap.size)->(∀x∈u,sp x.block=true)->DataW.TrodAll enc P W' 0 sp true ts vs ds u
 | [],vs,ds,u,_,h,_,_=>by
  cases vs<;>cases ds<;>simp[DataW.TrodAll]at h⊢;exact h
 |t::ts,vs,ds,u,ht,h,a0,hsp=>by
  obtain⟨v,a2,d,a1,p,q,rfl,rfl,rfl,h1,h2⟩:=trodAll_cons h;refine trodAll_cons_mk ?_ (CF hl hb ts a2 a1 q (fun x hx=>ht x (by simp[hx])) h2 (fun x hx=>a0 x (by simp[hx])) (fun x hx=>hsp x (by simp[hx])));exact WideElems.Trod_stays hl (ht t (by simp)).1 (ht t (by simp)).2 h1 (fun x hx=>hb.same (a0 x (by simp[hx]))) (fun x hx=>hsp x (by simp[hx]))
def A5h (hl:laidOutB P=true) {f:Func} {s:ChangeSpec} {W W':World} {args:Array Value} {ds gs:List (DataW H)} {before:List MemPlace} {tb:TypeId}
 (hW:DataW.Whole enc P f.params.toList s.vars false W args.toList ds gs before) (hv:s.vars= []) (a2:f.resultTypes= #[tb]) (a4:P.underlying tb=some .bool)
 (u:s.fn H ds= {results:= [.lit (.bool true)],args:=ds}) (hr:∀t∈f.params.toList,P.readableRec t=true/\t<P.types.size) (hb:R0 W W'):
 s.post enc P f false true false false W args (.bool true) W':=by
 have a0:∀p∈before,p.block<W.heap.size:=fun p hp=>hW.lt p hp
 have a3:=hW;obtain⟨p,q,hA,hV,a1,_,_⟩:=hW;rw[hv]at hV;obtain⟨rfl,rfl⟩:=trodVars_none hV;rw[vK]at a1;subst a1;refine⟨ds,[],before,[],before,[],a3, ?_, ?_, ?_, ?_,fun h=>by cases h⟩
 . rw[vK,u,a2];exact trodAll_mk1 (shut_bool a4 _)
 . rw[vK,u];exact CF hl hb _ _ _ _ hr hA a0 (fun x hx=>by simpa using a0 x hx)
 . rw[vK,u,hv];rfl
 . refine World.keptBut_mono ?_ (hb.frame (· ∈before));intro x hx;exact⟨hx, .inr (.inl hx)⟩
end
end Go.Gw
namespace Go.Vc
open Go Go.RowKit Go.Gw Go.ChangeShapes Go.WideShapes Go.ChangeAt
def eY (P:Program):Nat->TypeId->Ty->Bool
 |0,_,_=>false
 |n+1,T,ty=>match P.underlying T with
  |some (.int k)=>(match ty with| .int k'=>decide (k=k') | _=>false)
  |some .bool=>(match ty with| .bool=>true| _=>false)
  |some .string=>(match ty with| .str=>true| _=>false)
  |some (.slice e)=>(match ty with| .sl t=>eY P n e t&&Nat.beq (P.cellsOf e) t.size&&Nat.ble 1 t.size| _=>false)
  |some (.struct u)=>aK P (eY P n) u.toList 0 ty&&Nat.beq (P.cellsOf T) ty.size
  |some (.array k e)=>aI (eY P n e) (P.cellsOf e) k ty&&Nat.beq (P.cellsOf T) ty.size
  | _=>false
section
variable {H:Type} {α:Type} {enc:TypeId×Value->H} {P:Program} {W:World}
def cells?_at {base:Nat} {a:Addr} {n:Nat} {cs:List Value} (h:W.cells? base a n=some cs):cs.length=n/\I1 W a cs:=by
 obtain⟨_,hl,hc⟩:=World.cells?_some h;exact⟨hl,fun j v u=>by have:=hc j (by have:=LN u;omega);rw[this];exact u⟩
def A0o {a:Addr} {v:Value} (h:W.cell? a=some v):a.spot=none:=by
 unfold World.cell? at h;split at h
 . cases u:a.spot with
   |none=>rfl
   |some _=>simp[u]at h
 . cases h
def QN {R:List Value->α->Prop} {b o sz:Nat} :∀(len:Nat),(∀i,i<len->∃u y,u.length=sz/\I1 W ⟨b,o+i*sz,none⟩ u/\R u y)->∃u l,l.length=len/\u.length=len*sz/\I1 W ⟨b,o,none⟩ u/\F2 R u l
 |0,_=>⟨[],[],rfl,by simp,fun j v hj=>by simp at hj,rfl⟩
 |len+1,h=>by
  obtain⟨u,l,h1,h2,h3,h4⟩:=QN (R:=R) (b:=b) (o:=o) (sz:=sz) len (fun i hi=>h i (by omega));obtain⟨a0,y,g1,g2,g3⟩:=h len (by omega);refine⟨u++a0,l++ [y],by simp[h1],by rw[rQ,h2,g1,uI],fun j v hj=> ?_,h4.append ⟨a0,[],by simp,g3,rfl⟩⟩;rw[List.getElem?_append]at hj;split at hj
  . exact h3 j v hj
  . rename_i a1;have:=g2 _ v hj;rw[I9]at this⊢;rw[h2]at this a1;rw[show o+len*sz+(j-len*sz)=o+j from by omega]at this;exact this
def mL {n:Nat} {r:TypeId->Ty->Bool} {Z:Nat->Prop} {cs:List Value} (hr:∀ {T:TypeId} {ty:Ty} {cs:List Value} {x:DataW H×List MemPlace},r T ty=true->DataW.trod enc P W 0 (fun _=>true) true n T cs=some x->∃y,C5 ty W Z cs y):
 ∀ {fs:List Field} {off:Nat} {ty:Ty},aK P r fs off ty=true->(∀f∈fs,∃x,DataW.trod enc P W 0 (fun _=>true) true n f.type ((cs.drop f.offset).take (P.cellsOf f.type))=some x)->cs.length=off+ty.size->∃y,C5 ty W Z (cs.drop off) y
 | [],off,ty,h,hx,hl=>by
  cases ty<;>simp[aK]at h;exact⟨(),by rw[sC (by simp[Ty.size]at hl;omega)];rfl⟩
 | [f],off,ty,h,hx,hl=>by
  have h':(Nat.beq f.offset off&&r f.type ty&&Nat.beq (P.cellsOf f.type) ty.size)=true:=by cases ty<;>exact h
  simp only[qC]at h';obtain⟨x,hx⟩:=hx f (by simp);obtain⟨y,u⟩:=hr h'.1.2 hx;rw[qE h'.1.1,qE h'.2,qR (by rw[sR];omega)]at u;exact⟨y,u⟩
 |f::g::fs,off,ty,h,hx,hl=>by
  cases ty<;>simp only[aK]at h<;>try cases h
  rename_i a b;simp only[qC]at h;obtain⟨⟨⟨h1,h2⟩,h3⟩,h4⟩:=h;obtain⟨x,a0⟩:=hx f (by simp);obtain⟨y,u⟩:=hr h2 a0;rw[qE h1,qE h3]at u;obtain⟨z,hz⟩:=mL hr h4 (fun q hq=>hx q (qM _ hq)) (by rw[hl];simp only[Ty.size];omega);exact⟨(y,z),(cs.drop off).take a.size,cs.drop (off+a.size),by rw[<-vJ,uT],u,hz⟩
def mJ {n:Nat} {r:TypeId->Ty->Bool} {Z:Nat->Prop} {cs:List Value} {e:TypeId} {sz:Nat} (hr:∀ {T:TypeId} {ty:Ty} {cs:List Value} {x:DataW H×List MemPlace},r T ty=true->DataW.trod enc P W 0 (fun _=>true) true n T cs=some x->∃y,C5 ty W Z cs y):
 ∀ {k i:Nat} {ty:Ty},aI (r e) sz k ty=true->(∀j,j<k->∃x,DataW.trod enc P W 0 (fun _=>true) true n e ((cs.drop ((i+j)*sz)).take sz)=some x)->cs.length=i*sz+ty.size->∃y,C5 ty W Z (cs.drop (i*sz)) y
 |0,i,ty,h,hx,hl=>by
  cases ty<;>simp[aI]at h;exact⟨(),by rw[sC (by simp[Ty.size]at hl;omega)];rfl⟩
 |1,i,ty,h,hx,hl=>by
  have h':(r e ty&&Nat.beq ty.size sz)=true:=by cases ty<;>exact h
  simp only[qC]at h';obtain⟨x,hx⟩:=hx 0 (by omega);rw[tA]at hx;obtain⟨y,u⟩:=hr h'.1 hx;have:=qE h'.2;rw[qR (by rw[sR];omega)]at u;exact⟨y,u⟩
 |k+2,i,ty,h,hx,hl=>by
  cases ty<;>simp only[aI]at h<;>try cases h
  rename_i a b;simp only[qC]at h;obtain⟨⟨h1,h2⟩,h3⟩:=h;obtain⟨x,a0⟩:=hx 0 (by omega);rw[tA]at a0;obtain⟨y,u⟩:=hr h1 a0;have h2:=qE h2;have u:C5 a W Z ((cs.drop (i*sz)).take a.size) y:=by rw[h2];exact u
  have hi:(i+1)*sz=i*sz+a.size:=by rw[uI,h2]
  obtain⟨z,hz⟩:=mJ hr (i:=i+1) h3 (fun j hj=>by
   have:=hx (j+1) (by omega);rw[show i+(j+1)=i+1+j from by omega]at this;exact this) (by rw[hl,hi];simp only[Ty.size];omega)
  rw[hi]at hz;exact⟨(y,z),(cs.drop (i*sz)).take a.size,cs.drop (i*sz+a.size),by rw[<-vJ,uT],u,hz⟩
def OU:∀ {m n:Nat} {T:TypeId} {ty:Ty} {cs:List Value} {x:DataW H×List MemPlace},eY P m T ty=true->DataW.trod enc P W 0 (fun _=>true) true n T cs=some x->∃y,C5 ty W (fun b=>b<W.heap.size) cs y
 |0,_,_,_,_,_,h,_=>by cases h
 |m+1,n,T,ty,cs,x,h,hx=>by
  simp only[eY]at h;split at h
  . rename_i k hu;cases ty<;>simp only at h<;>try cases h
    rename_i k';have:=qA h;subst this;obtain⟨z,e,_,hw⟩:=DataW.trod_int hu hx;exact⟨z,e,by simp only[Lit.wf,qC,sA]at hw;exact hw⟩
  . rename_i hu;cases ty<;>simp only at h<;>try cases h
    obtain⟨b,e,_⟩:=DataW.trod_bool hu hx;exact⟨b,e⟩
  . rename_i hu;cases ty<;>simp only at h<;>try cases h
    obtain⟨s,e,_⟩:=DataW.trod_string hu hx;exact⟨s,e⟩
  . rename_i e hu;cases ty<;>simp only at h<;>try cases h
    rename_i t;simp only[qC]at h;have a7:=qE h.1.2;rcases DataW.trod_slice hu hx with⟨hc,_⟩ | ⟨a,len,a1,QM,rest,q,hq,hc,_,_,ac,a2,ab,a3,_⟩
    . exact⟨[],none,0,hc,rA _,rM _,fun _=>rfl, .inl rfl⟩
    . by_cases h0:len=0
      . subst h0;exact⟨[],some a,a1,hc,rM _,a2,fun hh=>(by cases hh), .inl rfl⟩
      . have a0:∀i,i<len->∃ec y,ec.length=t.size/\I1 W (a.add (i*t.size)) ec/\C5 t W (fun b=>b<W.heap.size) ec y:=fun i hi=>by
         have h1:=a3 i hi;rw[qN (by omega),a7]at h1;obtain⟨ec,a5,a9⟩:=g1k.1 h1;obtain⟨g1,g2⟩:=cells?_at a5;obtain⟨y,hy⟩:=OU (m:=m) h.1.1 a9;exact⟨ec,y,g1,g2,hy⟩
        obtain⟨e0,y0,g1,g2,_⟩:=a0 0 (by omega);have ad:=qQ h.2;obtain⟨v0,a8⟩:=A7h (l:=e0) (i:=0) (by omega);have u:=g2 0 v0 a8;have a4:(a.add (0*t.size)).add 0=a:=by simp[Addr.add]
        rw[a4]at u;have hsp:=A0o u;obtain⟨b,o,sp⟩:=a;simp only at hsp;subst hsp;have hb:b<W.heap.size:=block_lt_of_cell u;obtain⟨ec,l,k1,_,k3,k4⟩:=QN (R:=C5 t W (fun b=>b<W.heap.size)) (b:=b) (o:=o) (sz:=t.size) len (fun i hi=>by
         obtain⟨ec,y,q1,q2,q3⟩:=a0 i hi;rw[I9]at q2;exact⟨ec,y,q1,q2,q3⟩)
        exact⟨l,some ⟨b,o,none⟩,a1,by rw[hc,k1],by omega,a2,fun hh=>(by cases hh), .inr ⟨b,o,ec,rfl,hb,k3,k4⟩⟩
  . rename_i fs hu;simp only[qC]at h;obtain⟨xs,q,hq,_,hl,aa,hf⟩:=DataW.trod_struct hu hx;have:=mL (enc:=enc) (P:=P) (W:=W) (n:=q) (Z:=fun b=>b<W.heap.size) (cs:=cs) (fun hh hx=>OU (m:=m) hh hx) h.1 (fun f hf'=>by
     obtain⟨i,hi,he⟩:=List.getElem_of_mem hf';have a6:i<fs.size:=by simpa using hi
     have h1:=hf i f (by rw[uD a6];simpa using he);rw[qN (by omega)]at h1;exact⟨_,h1⟩) (by rw[hl,qE h.2];omega)
    simpa using this
  . rename_i k e hu;simp only[qC]at h;obtain⟨xs,q,hq,_,hl,aa,hf⟩:=DataW.trod_array hu hx;have:=mJ (enc:=enc) (P:=P) (W:=W) (n:=q) (Z:=fun b=>b<W.heap.size) (cs:=cs) (e:=e) (i:=0) (fun hh hx=>OU (m:=m) hh hx) h.1 (fun j hj=>by
     have h1:=hf j hj;rw[qN (by omega)]at h1;rw[sI];exact⟨_,h1⟩) (by rw[hl,qE h.2];omega)
    simpa using this
  . cases h
end
def iB (c:Bool) (A B:Prop):Prop:=(c=true->A)/\(c=false->B)
def A9z (P:Program) (T:TypeId) (a:Bool):Bool:=match P.underlying T with
 |some (.struct _)=>a
 |some (.array _ _)=>false
 | _=> !a
def ZG (P:Program):List TypeId->List AM->Bool
 | [],[]=>true
 |T::ts, .val a ty::as=>eY P 40 T ty&&A9z P T a&&ZG P ts as
 | _,_=>false
section
variable {H:Type} {enc:TypeId×Value->H} {P:Program} {W:World}
def A4v {m:Nat} {T:TypeId} {ty:Ty} {a:Bool} {r:Reach} {b0:Nat} {v:Value} {d:DataW H} {p:List MemPlace} (h:eY P m T ty=true) (ha:A9z P T a=true) (hv:Value.okWide P W r b0 T v) (hd:DataW.Trod enc P W 0 (fun _=>true) true T v d p):
 ∃y,Am a ty W (fun b=>b<W.heap.size) v y:=by
 obtain⟨n,hd⟩:=hd;obtain⟨y,hy⟩:=OU h hd;refine⟨y, ?_⟩;cases m with
 |zero=>cases h
 |succ m=>
  simp only[eY]at h;unfold A9z at ha;split at h
  . rename_i k u;simp only[u,rN]at ha;obtain⟨n,rfl⟩:=okWide_int u hv;subst ha;exact hy
  . rename_i u;simp only[u,rN]at ha;obtain⟨n,rfl⟩:=okWide_bool u hv;subst ha;exact hy
  . rename_i u;simp only[u,rN]at ha;obtain⟨n,rfl⟩:=okWide_string u hv;subst ha;exact hy
  . rename_i e u;simp only[u,rN]at ha;obtain⟨x1,x2,x3,rfl⟩:=okWide_slice u hv;subst ha;exact hy
  . rename_i fs u;simp only[u]at ha;obtain⟨cs,rfl,_⟩:=okWide_struct u hv;subst ha;exact⟨cs.toList,by simp,hy⟩
  . rename_i u;simp only[u]at ha;cases ha
  . cases h
def YE {r:Reach} {b0:Nat} :∀ {ts:List TypeId} {as:List AM} {vs:List Value} {ds:List (DataW H)} {ps:List MemPlace},ZG P ts as=true->DataW.TrodAll enc P W 0 (fun _=>true) true ts vs ds ps->(∀(j:Nat) (t:TypeId) (v:Value),ts[j]? =some t->vs[j]? =some v->Value.okWide P W r b0 t v)->∃x,X0 P W (fun b=>b<W.heap.size) as vs x
 | [],[],vs,ds,ps,_,h,_=>by
  cases vs with
  |nil=>exact⟨(),rfl⟩
  |cons _ _=>cases ds<;>exact h.elim
 | [],_:: _,_,_,_,h,_,_=>by cases h
 | _:: _,[],_,_,_,h,_,_=>by cases h
 |T::ts, .row _ _:: _,_,_,_,h,_,_=>by cases h
 |T::ts, .box _ _:: _,_,_,_,h,_,_=>by cases h
 |T::ts, .fn _ _ _:: _,_,_,_,h,_,_=>by cases h
 |T::ts, .rows _ _ _:: _,_,_,_,h,_,_=>by cases h
 |T::ts, .val a ty::as,vs,ds,ps,h,hA,hv=>by
  simp only[ZG,qC]at h;obtain⟨v,a0,d,a1,p,q,rfl,rfl,rfl,h1,h2⟩:=trodAll_cons hA;obtain⟨y,hy⟩:=A4v h.1.1 h.1.2 (hv 0 T v rfl rfl) h1;obtain⟨z,hz⟩:=YE h.2 h2 (fun j t u ht hu=>hv (j+1) t u (by simpa using ht) (by simpa using hu));exact⟨(y,z),v,a0,rfl,hy,hz⟩
def aO (as:List AM):A6:= {args:=as,res:= [.val false .bool],pre:=fun _=>True,post:=fun _ r=>r.1=true}
def pG {f:FuncId} {as:List AM} {vs:List Value} {x:A2 as} (ha:Ag as=true) (hm:A7 P f (aO as)) (h:X0 P W (fun b=>b<W.heap.size) as vs x):Gw.WJ P f vs W fun v W'=>v= .bool true/\R0 W W':=by
 refine(hm W _ vs x (fun _ h=>h) h (by show Dis W (N6 as vs);rw[Yz ha];trivial) trivial).mono fun v w' ⟨hx,r,o,us,Zn,hpost,_,hv,_,hrep,_⟩=>⟨?_,hx.ext (fun b ⟨u,hu,_⟩=>by rw[show N6 (aO as).args vs= []from Yz ha vs]at hu;cases hu)⟩
 obtain⟨u,a0,e,h1,_,h2⟩:=hrep;rw[show a0= []from h2]at e;subst e;have h1: [u]= [Value.bool r.1]:=h1;have hr:r.1=true:=hpost;rw[hr]at h1;rw[hv];simpa[Xo]using h1
def fI {f:FuncId} {s:A6} (h:∀x,¬s.pre x):A7 P f s:=fun _ _ _ x _ _ _ u=>absurd u (h x)
def A1:Rd P []:=fun _ _ h=>by cases h
def A0 {f:FuncId} {s:A6} {l:H2} (h1:A7 P f s) (h2:Rd P l) (hi:s.inl=none:=by rfl):Rd P ((f,s)::l):=fun g t h=>by
 unfold Fh at h;cases hb:Nat.beq f g with
 |true=>
  rw[hb]at h;obtain rfl:=qE hb;obtain rfl:s=t:=by simpa using h
  exact⟨h1,fun run u=>by rw[hi]at u;cases u⟩
 |false=>rw[hb]at h;exact h2 g t h
def Eg {f:FuncId} {run:Inl} {l:H2} (h1:LG P f run) (u:Rd P l):Rd P ((f,Fk run)::l):=fun g t h=>by
 unfold Fh at h;cases hb:Nat.beq f g with
 |true=>
  rw[hb]at h;obtain rfl:=qE hb;obtain rfl:Fk run=t:=by simpa using h
  exact⟨fun _ _ _ _ _ _ _ hp=>hp.elim,fun r hr=>by cases hr;exact h1⟩
 |false=>rw[hb]at h;exact u g t h
def Hi:lN P []:=fun _ h=>by cases h
def R6 {d:Nat} {sp:H2} {an:An} {l:List (Nat×H2×An)} (h1:Rd P sp) (u:lN P l):lN P ((d,sp,an)::l):=fun x hx=>by
 rcases qV.1 hx with rfl|hx
 . exact h1
 . exact u x hx
end
end Go.Vc
namespace Go.Vc
open Go Go.RowKit Go.Gw
def AB (g:FuncId) (t:Ty) (e:TypeId) (φ:t.den->t.den->Int) (_:Nat) (st:St) (ss:List SV) (k:St->List SV->Prop):Prop:=
 match ss with
 | [⟨false,[.row q]⟩,⟨false,[.fn g' []]⟩]=>bif Nat.beq g' g then(match Xg st t e q with
  |some l=>l.length<=100000/\∀u:List t.den,(Ty.sl t).wf u->u.Perm l->u.Pairwise (fun a b=>¬φ b a<0)->k (addM [.row t e] (u,()) [q] (dropM st [q])) []
  |none=>False)else False
 | _=>False
def A0n (g:FuncId) (t:Ty) (e:TypeId) (φ:t.den->t.den->Int) {st:St} {d:Nat} {ss:List SV} {k k':St->List SV->Prop} (h:AB g t e φ d st ss k) (u:∀st' ss',B9 st st'->k st' ss'->k' st' ss'):AB g t e φ d st ss k':=by
 unfold AB at h⊢;split at h
 . obtain⟨hb,h⟩:=B4 h;rw[hb,qP];split at h
   . exact⟨h.1,fun l' hw hp hs=>u _ _ ((B9.dropM _ _).trans (B9.addM _ _ _ _)) (h.2 l' hw hp hs)⟩
   . exact h.elim
 . exact h.elim
def OZ (g:FuncId) (t:Ty) (e:TypeId) (φ:t.den->t.den->Int):Inl:= {run:=AB g t e φ,step:=A0n g t e φ}
def Bc (t:Ty) (e:TypeId) (φ:t.den->t.den->Int):A6:=
 { args:= [.row t e],res:= [],shared:=true,pre:=fun _=>True,post:=fun _ _=>True,mpost:=fun(x:List t.den×Unit) _ (o:List t.den×Unit)=>o.1.Perm x.1/\o.1.Pairwise fun a b=>¬φ b a<0}
def lS (P:Program) (f g:FuncId) (t:Ty) (e:TypeId) (φ:t.den->t.den->Int):Prop:=
 ∀(w:World) (Z:Nat->Prop) (v:Value) (l:List t.den),(∀b,Z b->b<w.heap.size)->WI P w Z (.row t e) v l->l.length<=100000->A9m P f (Bc t e φ) [v, .func (.func g) #[] #[]] w Z (l,())
def TP {P:Program} {tys:List (Nat×TI)} {f g:FuncId} {t:Ty} {e:TypeId} {φ:t.den->t.den->Int} (hs:lS P f g t e φ):LG P f (OZ g t e φ):=by
 refine {go:= ?_};intro za w0 st E w Z B d ss vs k ae h ab ad hr;replace hr:AB g t e φ d st ss k:=hr;unfold AB at hr;split at hr
 . rename_i q g';obtain⟨hg,a1⟩:=B4 hr;clear hr;obtain rfl:=qE hg;split at a1
   . rename_i l hl;obtain⟨a2,aa⟩:=a1;obtain⟨v1,af,rfl,h1,v2,ag,rfl,h2,rfl⟩:=ab;have e1:v1=B q:=by
      obtain⟨u,us,e1,e2,e3⟩:=h1;cases e1;exact e2
     have e2:v2= .func (.func g') #[] #[]:=by
      obtain⟨u,us,e1,e2,e3⟩:=h2;cases e1;exact e2
     subst e1 e2;have hL:=h.locs q;have hq:∃t',∃e',∃l':List t'.den,st.L q= .row t' e' l':=by
      unfold Xg at hl;split at hl
      . exact⟨_,_,_,by assumption⟩
      . cases hl
     obtain⟨t',e',l0,hq⟩:=hq;unfold Xg at hl;rw[hq]at hl hL;simp only at hl;split at hl
     . rename_i ht;subst ht;cases a0:Nat.beq e' e with
       |false=>simp[a0]at hl
       |true=>
        simp only[a0,qP,qZ]at hl;obtain rfl:=qE a0;subst hl;obtain⟨xs,a3,a8,hZ⟩:=hL;have a5:WI P w Z (.row t' e') (B q) l0:=⟨xs,a3,a8,fun b hb=>(hZ b hb).2⟩;have a6:=hs w Z (B q) l0 h.zlt a5 a2;have a9:live (st.L q):=by rw[hq];trivial
        have hz:lz w st [q] B Z true=Z:=by funext b;simp[lz]
        have:=WP (cx:=⟨P,tys⟩) (s:=Bc t' e' φ) (x:=(l0,())) (vs:= [B q, .func (.func g') #[] #[]]) (mu:= [q]) h (by rw[show(Bc t' e' φ).shared=true from rfl,hz];exact a6) rfl
         ⟨⟨rfl,fun b hb=>by rw[hq];exact hb⟩,trivial⟩ (by simp) (fun q2 a4=>by simp at a4;subst a4;exact a9)
        refine Gw.WJ.mono this fun v w' ⟨_,r,o,us,_,how,_,hmp,hv,Z',B',h3,h4,_⟩=> ?_
        obtain⟨hp,a7⟩:=hmp rfl;have ac:us= []:=h4;subst ac;exact⟨_,Z',B',[],[],h3,hv,rfl,fun s hs=>(by cases hs),aa o.1 how.1 hp a7⟩
     . cases hl
   . exact a1.elim
 . exact hr.elim
def LP (P:Program) (as:List (Bool×Ty)) (ra:Bool) (r a:Ty) (φ:a.den->W3 as->r.den):List SV->Option SV
 | [⟨false,[.val u n]⟩]=>if h:u=a then some ⟨false,[.fv P as ra r (fun _=>True) (φ (h▸n))]⟩else none
 | _=>none
def A2z (P:Program) (as:List (Bool×Ty)) (ra:Bool) (r a:Ty) (φ:a.den->W3 as->r.den):Inl:=
 { run:=fun _ st ss k=>match LP P as ra r a φ ss with
    |some sv=>k st [sv]
    |none=>False
   res:=LP P as ra r a φ
   step:=fun {st d ss k k'} h hk=>by
    cases u:LP P as ra r a φ ss with
    |none=>rw[u]at h;exact h.elim
    |some sv=>rw[u]at h;exact hk _ _ (B9.refl _) h}
def B4h (P:Program) (f:FuncId) (as:List (Bool×Ty)) (ra:Bool) (r a:Ty) (φ:a.den->W3 as->r.den):Prop:=
 ∀(w:World) (Z:Nat->Prop) (v:Value) (n:a.den),C5 a w Z [v] n->Gw.WJ P f [v] w fun u w'=>R0 w w'/\∃Zn:Nat->Prop,(∀b,Zn b->Z b\/(w.heap.size<=b/\b<w'.heap.size))/\iJ P w' Zn u as ra r (fun _=>True) (φ n)
def iJ.mono {P:Program} {w:World} {Z Z':Nat->Prop} {v:Value} {as:List (Bool×Ty)} {ra:Bool} {r:Ty} {ok:W3 as->Prop} {φ:W3 as->r.den} (h:iJ P w Z v as ra r ok φ) (u:∀b,Z b->Z' b):iJ P w Z' v as ra r ok φ:=
 RC.mono (B:=fun _=>v) (B':=fun _=>v) (n:=0) (c:= .fv P as ra r ok φ) u (fun _ _=>rfl) (fun _ _=>rfl) trivial h
def A3a {P:Program} {f:FuncId} {as:List (Bool×Ty)} {ra:Bool} {r a:Ty} {φ:a.den->W3 as->r.den} (hs:B4h P f as ra r a φ):LG P f (A2z P as ra r a φ):=by
 have res:∀ {za:Zn} {w0:World} {st:St} {E:G1} {w:World} {Z:Nat->Prop} {B:Nat->Value} {ss:List SV} {vs:List Value} {sv:SV},B8 za w0 st E w Z B->Om w Z B ss vs->LP P as ra r a φ ss=some sv->
  Gw.WJ P f vs w fun v w'=>R0 w w'/\∃Z':Nat->Prop,(∀b,Z b->Z' b)/\(∀b,Z' b->Z b\/(w.heap.size<=b/\b<w'.heap.size))/\RS w' Z' B sv v:=by
  intro za w0 st E w Z B ss vs sv h a1 a0;unfold LP at a0;split at a0
  . rename_i a' n;split at a0
    . rename_i ha;subst ha;cases a0;obtain⟨v1,a4,rfl,h1,rfl⟩:=a1;obtain⟨u,us,e1,e2,e3⟩:=h1;cases e1;refine Gw.WJ.mono (hs w Z v1 n e2) fun u w' ⟨hx,Zn,hz,hf⟩=>⟨hx,fun b=>Z b\/Zn b,fun _=> .inl,fun b hb=>hb.elim .inl (hz b), ?_⟩
      exact⟨u,[],rfl,hf.mono fun _=> .inr,rfl⟩
    . cases a0
  . cases a0
 refine {go:= ?_,res:=res};intro za w0 st E w Z B d ss vs k a3 h a1 a2 hr;replace hr:(match LP P as ra r a φ ss with|some sv=>k st [sv] |none=>False):=hr;cases hv:LP P as ra r a φ ss with
 |none=>rw[hv]at hr;exact hr.elim
 |some sv=>
  rw[hv]at hr;refine Gw.WJ.mono (res h a1 hv) fun v w' ⟨hx,Z',hz,hz',hrep⟩=>⟨st,Z',B,[sv],[v],h.more hx hz hz',rfl,⟨v,[],rfl,hrep,rfl⟩,fun s hs=> ?_,hr⟩
  rw[qY]at hs;subst hs;unfold LP at hv;split at hv
  . split at hv
    . cases hv;intro c hc;rw[qY]at hc;subst hc;trivial
    . cases hv
  . cases hv
end Go.Vc
namespace Go.Proofs.YthiimnbdinlfeaaGreat
def Db {s:List Int} {k:Nat} {v i:Int} (u:k<s.length):D0 (s.set k v) i=if i.toNat=k then v else D0 s i:=by
 unfold D0;simp only[qF,xF];by_cases h:k=i.toNat
 . subst h;simp[u]
 . rw[qT h,qT (fun hh=>h hh.symm)]
def UF.le {s:List Int} (h:UF s) {b:Int} (u:0<=b) (h1:b<(s.length:Int)):0<=D0 s b/\D0 s b<=b:=by
 have:=h b.toNat (by omega);rw[show((b.toNat:Nat):Int)=b from by omega]at this;exact this
def So {s:List Int} (h:UF s):∀(k:Nat) (b:Int),0<=b->b<(s.length:Int)->b.toNat<=k->HG s k b=HG s b.toNat b
 |0,b,h0,h1,hk=>by rw[show b.toNat=0 from by omega]
 |k+1,b,h0,h1,hk=>by
  obtain⟨u,a1⟩:=h.le h0 h1;by_cases hb:D0 s b=b
  . simp only[HG,rB hb];cases hm:b.toNat with
    |zero=>rfl
    |succ m=>simp only[HG,rB hb]
  . simp only[HG,qT hb];have a2:D0 s b<b:=by omega
    rw[So h k (D0 s b) u (by omega) (by omega)];cases hm:b.toNat with
    |zero=>omega
    |succ m=>
     simp only[HG,qT hb];rw[So h m (D0 s b) u (by omega) (by omega)]
def nN {s:List Int} (h:UF s) {b:Int} (u:0<=b) (h1:b<(s.length:Int)):root s b=if D0 s b=b then b else root s (D0 s b):=by
 obtain⟨a0,a1⟩:=h.le u h1;unfold root;rw[<-So h (b.toNat+1) b u h1 (by omega)];simp only[HG];split
 . rfl
 . exact So h _ _ a0 (by omega) (by omega)
def Cc {s:List Int} (h:UF s) {b:Int} (u:0<=b) (h1:b<(s.length:Int)) (hb:D0 s b=b):root s b=b:=by rw[nN h u h1,rB hb]
def Dg {s:List Int} (h:UF s) {b:Int} (u:0<=b) (h1:b<(s.length:Int)):root s (D0 s b)=root s b:=by
 by_cases hb:D0 s b=b
 . rw[hb]
 . rw[nN h u h1,qT hb]
def TG {s:List Int} (h:UF s) {q:Int->Prop} (h1:∀b,0<=b->b<(s.length:Int)->D0 s b=b->q b) (h2:∀b,0<=b->b<(s.length:Int)->D0 s b<b->0<=D0 s b->q (D0 s b)->q b):∀b,0<=b->b<(s.length:Int)->q b:=by
 have key:∀(k:Nat) (b:Int),b.toNat<=k->0<=b->b<(s.length:Int)->q b:=by
  intro k
  induction k with
  |zero=>
   intro b hk u hl;obtain⟨a0,a1⟩:=h.le u hl;exact h1 b u hl (by omega)
  |succ k ih=>
   intro b hk u hl;obtain⟨a0,a1⟩:=h.le u hl;by_cases hb:D0 s b=b
   . exact h1 b u hl hb
   . exact h2 b u hl (by omega) a0 (ih _ (by omega) a0 (by omega))
 exact fun b u hl=>key b.toNat b (rA _) u hl
def bL {s:List Int} (h:UF s) {b:Int} (u:0<=b) (h1:b<(s.length:Int)):0<=root s b/\root s b<=b/\D0 s (root s b)=root s b:=by
 refine TG h (q:=fun b=>0<=root s b/\root s b<=b/\D0 s (root s b)=root s b) (fun b u h1 hb=> ?_) (fun b u h1 hb hn hq=> ?_) b u h1
 . rw[Cc h u h1 hb];exact⟨u,qI _,hb⟩
 . rw[Dg h u h1]at hq;exact⟨hq.1,by omega,hq.2.2⟩
def A0a {s s':List Int} (h:UF s) (h':UF s') (hl:s'.length=s.length) (hr:∀i:Int,0<=i->i<(s.length:Int)->root s (D0 s' i)=root s i) (hf:∀i:Int,0<=i->i<(s.length:Int)->D0 s' i=i->D0 s i=i):∀i:Int,0<=i->i<(s.length:Int)->root s' i=root s i:=by
 intro i u h1;refine TG h' (q:=fun i=>root s' i=root s i) (fun b u h1 hb=> ?_) (fun b u h1 hb hn hq=> ?_) i u (by omega)
 . rw[Cc h' u h1 hb,Cc h u (by omega) (hf b u (by omega) hb)]
 . rw[<-Dg h' u h1,hq,hr b u (by omega)]
def B2v {s:List Int} (h:UF s) {b:Int} (h0:0<=b) (h1:b<(s.length:Int)):UF (s.set b.toNat (D0 s (D0 s b)))/\∀i:Int,0<=i->i<(s.length:Int)->root (s.set b.toNat (D0 s (D0 s b))) i=root s i:=by
 have hb:b.toNat<s.length:=by omega
 obtain⟨u,a1⟩:=h.le h0 h1;obtain⟨c0,c1⟩:=h.le u (by omega:D0 s b<(s.length:Int));have hu:UF (s.set b.toNat (D0 s (D0 s b))):=fun i hi=>by
  rw[qL]at hi;rw[Db hb];split
  . rename_i e;rw[show((i:Nat):Int)=b from by omega];omega
  . exact h i hi
 refine⟨hu,A0a h hu (by rw[qL]) (fun i i0 i1=> ?_) (fun i i0 i1=> ?_)⟩
 . rw[Db hb];split
   . rw[show i=b from by omega,Dg h u (by omega),Dg h h0 h1]
   . exact Dg h i0 i1
 . rw[Db hb];split
   . intro e;have:i=b:=by omega
     subst this;omega
   . exact id
def A3t {s:List Int} (h:UF s) {m M:Int} (m0:0<=m) (mM:m<=M) (hM:M<(s.length:Int)) (fm:D0 s m=m) (fM:D0 s M=M):
 UF (s.set M.toNat m)/\∀i:Int,0<=i->i<(s.length:Int)->root (s.set M.toNat m) i=if root s i=M then m else root s i:=by
 have hk:M.toNat<s.length:=by omega
 have hu:UF (s.set M.toNat m):=fun i hi=>by
  rw[qL]at hi;rw[Db hk];split
  . omega
  . exact h i hi
 have hl:(s.set M.toNat m).length=s.length:=qL;refine⟨hu,fun i u h1=> ?_⟩;refine TG hu (q:=fun i=>root (s.set M.toNat m) i=if root s i=M then m else root s i) (fun b u h1 hb=> ?_) (fun b u h1 hb hn hq=> ?_) i u (by omega)
 . rw[Cc hu u h1 hb];rw[Db hk]at hb;split at hb
   . have e:b=M:=by omega
     rw[e,Cc h (by omega) (by omega) fM,rB rfl];omega
   . rename_i a0;rw[Cc h u (by omega) hb,qT (by omega)]
 . rw[<-Dg hu u h1,hq];rw[Db hk]at hb⊢;split at hb
   . rename_i e;have e:b=M:=by omega
     have e2:b.toNat=M.toNat:=by omega
     rw[rB e2,e,Cc h (by omega) (by omega) fM,Cc h m0 (by omega) fm,rB rfl];split<;>rfl
   . rename_i a0;rw[qT a0,Dg h u (by omega)]
end Go.Proofs.YthiimnbdinlfeaaGreat
namespace Go.Proofs.YthiimnbdinlfeaaGreat
open Go.Vc Go.Gw
def nB {n:Int} {ls:List Ln} :Se n ls=0↔SB n ls:=by
 unfold Se SB;split
 . constructor
   . intro h;omega
   . intro h;omega
 . split
   . rename_i h1 u;exact⟨fun _=>⟨by omega,by omega,u⟩,fun _=>rfl⟩
   . rename_i h1 u;exact⟨fun h=>by omega,fun h=>absurd h.2.2 u⟩
variable {α:Type}
def A3m (q:α->α->Prop) (d:α) (l:List α) (a i j:Nat):Prop:=∀s t,a<=s->s<t->t<=i->t≠j->q (l.getD s d) (l.getD t d)
def HK (d:α) (l:List α) (j:Nat):List α:=(l.set j (l.getD (j-1) d)).set (j-1) (l.getD j d)
def TS {d:α} {l:List α} {j:Nat} (h0:0<j) (h1:j<l.length) (k:Nat):(HK d l j).getD k d=if k=j then l.getD (j-1) d else if k=j-1 then l.getD j d else l.getD k d:=by
 unfold HK;simp only[qF,xF,qL];by_cases h:k=j
 . subst h;rw[qT (by omega),rB rfl,rB rfl,rB h1];rfl
 . rw[qT h];by_cases u:k=j-1
   . subst u;rw[rB rfl,rB (by omega),rB rfl];rfl
   . rw[qT (by omega),qT (by omega),qT u]
def lD {d:α} {l:List α} {j:Nat} (h1:j<l.length):(HK d l j).Perm l:=by
 have u:j-1<l.length:=by omega
 have:=List.set_set_perm (as:=l) h1 u;unfold HK;simp only[qF,qN h1,qN u];exact this
def lE {d:α} {l:List α} {j a:Nat} (h:a<=j-1):(HK d l j).take a=l.take a:=by
 unfold HK;rw[yR h,yR (by omega)]
def lC {d:α} {l:List α} {j b:Nat} (h:j<b):(HK d l j).drop b=l.drop b:=by
 unfold HK;rw[yQ (by omega),yQ (by omega)]
def jR {q:α->α->Prop} {d:α} {l:List α} {a i:Nat} (h:∀s t,a<=s->s<t->t<i->q (l.getD s d) (l.getD t d)):A3m q d l a i i:=fun s t h1 u h3 h4=>h s t h1 u (by omega)
def pA {q:α->α->Prop} {d:α} {l:List α} {a i j:Nat} (h:A3m q d l a i j) (ha:a<j) (hj:j<l.length) (hi:j<=i) (hq:q (l.getD j d) (l.getD (j-1) d)):A3m q d (HK d l j) a i (j-1):=by
 intro s t h1 h2 h3 h4;rw[TS (by omega) hj,TS (by omega) hj,qT h4];by_cases ht:t=j
 . rw[rB ht,qT (by omega)];by_cases u:s=j-1
   . rw[rB u];exact hq
   . rw[qT u];exact h s (j-1) h1 (by omega) (by omega) (by omega)
 . rw[qT ht];by_cases u:s=j
   . rw[rB u];exact h (j-1) t (by omega) (by omega) h3 ht
   . rw[qT u];by_cases a0:s=j-1
     . rw[rB a0];exact h j t (by omega) (by omega) h3 ht
     . rw[qT a0];exact h s t h1 h2 h3 ht
def A3n {q:α->α->Prop} {d:α} {l:List α} {a i j:Nat} (h:A3m q d l a i j) (u:∀x y z,q x y->q y z->q x z) (hi:j<=i) (hq:a<j->q (l.getD (j-1) d) (l.getD j d)):∀s t,a<=s->s<t->t<i+1->q (l.getD s d) (l.getD t d):=by
 intro s t h1 h2 h3;by_cases ht:t=j
 . subst ht;by_cases hs:s=t-1
   . rw[hs];exact hq (by omega)
   . exact u _ _ _ (h s (t-1) h1 (by omega) (by omega) (by omega)) (hq (by omega))
 . exact h s t h1 h2 (by omega) ht
def SX {q:α->α->Prop} {d:α} {l:List α} {a b:Nat} (hb:b<=l.length) (h:∀s t,a<=s->s<t->t<b->q (l.getD s d) (l.getD t d)):((l.drop a).take (b-a)).Pairwise q:=by
 rw[uE];intro i j hi hj u;rw[qU,sR]at hi hj;have e:∀k (hk:k<((l.drop a).take (b-a)).length),((l.drop a).take (b-a))[k]=l.getD (a+k) d:=fun k hk=>by
  rw[qU,sR]at hk;rw[g0y,List.getElem_drop,qF,qN (by omega)];rfl
 rw[e i (by rw[qU,sR];omega),e j (by rw[qU,sR];omega)];exact h _ _ (by omega) (by omega) (by omega)
def SY:∀(n:Nat) (f:Nat->Nat),(∀a,a<n+1->f a<n)->∃a b,a<b/\b<n+1/\f a=f b
 |0,f,h=>absurd (h 0 (by omega)) (by omega)
 |n+1,f,h=>by
  by_cases hv:∃a,a<n+1/\f a=f (n+1)
  . obtain⟨a,h1,h2⟩:=hv;exact⟨a,n+1,h1,by omega,h2⟩
  . have u:∀a,a<n+1->f a≠f (n+1):=fun a ha e=>hv ⟨a,ha,e⟩
    obtain⟨a,b,h1,h2,h3⟩:=SY n (fun a=>if f a<f (n+1)then f a else f a-1) fun a ha=>by
     have:=h a (by omega);have:=h (n+1) (by omega);have:=u a ha;split<;>omega
    refine⟨a,b,h1,by omega, ?_⟩;have e1:=u a (by omega);have e2:=u b (by omega);split at h3<;>split at h3<;>omega
def Fj {n:Nat} {q:Nat->Nat} (hl:∀a,a<n->q a<n) (hi:∀a b,a<n->b<n->q a=q b->a=b) {j:Nat} (hj:j<n):∃a,a<n/\q a=j:=
 qX fun hn=>by
  have a0:∀a,a<n->q a≠j:=fun a ha e=>hn ⟨a,ha,e⟩
  obtain⟨a,b,h1,h2,u⟩:=SY n (fun a=>if a<n then q a else j) fun a ha=>by
   split
   . rename_i h;exact hl a h
   . exact hj
  by_cases hb:b<n
  . rw[rB hb,rB (by omega)]at u;have:=hi a b (by omega) hb u;omega
  . rw[qT hb,rB (by omega)]at u;exact a0 a (by omega) u
def dot (n:Nat) (u x:Nat->Rat):Rat:=C6 n fun j=>u j*x j
def A7e (n k:Nat) (l:Nat->Rat) (R:Nat->Nat->Rat) (u x:Nat->Rat):C6 n (fun j=>(C6 k (fun m=>l m*R m j)+u j)*x j)=C6 k (fun m=>l m*dot n (R m) x)+dot n u x:=by
 have:(fun j=>(C6 k (fun m=>l m*R m j)+u j)*x j)=fun j=>C6 k (fun m=>l m*(R m j*x j))+u j*x j:=by
  funext j;rw[g2l, <-KQ];congr 1;exact C1 fun m _=>wG _ _ _
 rw[this,Kz,Kd];congr 1;exact C1 fun m _=>La n (l m) _
def A9b (a b c:Rat):a+b=a+c+(b-c):=by grind
structure FK (n k:Nat) (A:Nat->Nat->Rat) (p q:Nat->Nat) (R Lo:Nat->Nat->Rat):Prop where
 kn:k<=n
 plt:∀m,m<k->p m<n
 qlt:∀m,m<k->q m<n
 pinj:∀a b,a<k->b<k->p a=p b->a=b
 qinj:∀a b,a<k->b<k->q a=q b->a=b
 dec:∀i j,i<n->j<n->A i j=C6 k (fun m=>Lo i m*R (p m) j)+R i j
 zero:∀m i,m<k->i<n->(∀a,a<=m->i≠p a)->R i (q m)=0
 piv:∀m,m<k->R (p m) (q m)≠0
 low:∀a m,a<k->m<k->a<=m->Lo (p a) m=0
def FK.init (n:Nat) (A:Nat->Nat->Rat) (p q:Nat->Nat) (Lo:Nat->Nat->Rat):FK n 0 A p q A Lo:=
 ⟨rM _,fun _ h=>absurd h (vM _),fun _ h=>absurd h (vM _),fun _ _ h=>absurd h (vM _),fun _ _ h=>absurd h (vM _),fun i j _ _=>by rw[C6,tV],fun _ _ h=>absurd h (vM _),fun _ h=>absurd h (vM _),fun _ _ h=>absurd h (vM _)⟩
section
variable {n k:Nat} {A R Lo R' Lo':Nat->Nat->Rat} {p q p' q':Nat->Nat}
def FK.step (h:FK n k A p q R Lo) {r c:Nat} {fac:Nat->Rat} (hk:k<n) (hr:r<n) (hc:c<n) (a3:∀a,a<k->r≠p a) (a4:∀a,a<k->c≠q a) (hp:R r c≠0)
 (p1:∀m,m<k->p' m=p m) (p2:p' k=r) (q1:∀m,m<k->q' m=q m) (q2:q' k=c)
 (f1:∀i,i<n->i≠r->(∀a,a<k->i≠p a)->fac i=R i c/R r c) (f2:fac r=0) (f3:∀a,a<k->fac (p a)=0)
 (hR:∀i j,i<n->j<n->R' i j=R i j-fac i*R r j) (l1:∀i m,i<n->m<k->Lo' i m=Lo i m) (l2:∀i,i<n->Lo' i k=fac i):FK n (k+1) A p' q' R' Lo':=by
 have rr:∀j,j<n->R' r j=R r j:=fun j hj=>by rw[hR r j hr hj,f2,tB,tK,wH,rP]
 have rp:∀a j,a<k->j<n->R' (p a) j=R (p a) j:=fun a j ha hj=>by rw[hR _ j (h.plt a ha) hj,f3 a ha,tB,tK,wH,rP]
 have a1:∀m,m<k+1->m<k\/m=k:=fun m u=>by omega
 refine⟨hk,fun m u=> ?_,fun m u=> ?_,fun a b ha hb a0=> ?_,fun a b ha hb a0=> ?_,fun i j hi hj=> ?_,fun m i u hi a2=> ?_,fun m u=> ?_,fun a m ha u a5=> ?_⟩
 . rcases a1 m u with u|rfl
   . rw[p1 m u];exact h.plt m u
   . rw[p2];exact hr
 . rcases a1 m u with u|rfl
   . rw[q1 m u];exact h.qlt m u
   . rw[q2];exact hc
 . rcases a1 a ha with ha|rfl<;>rcases a1 b hb with hb|rfl
   . rw[p1 a ha,p1 b hb]at a0;exact h.pinj a b ha hb a0
   . rw[p1 a ha,p2]at a0;exact absurd a0.symm (a3 a ha)
   . rw[p2,p1 b hb]at a0;exact absurd a0 (a3 b hb)
   . rfl
 . rcases a1 a ha with ha|rfl<;>rcases a1 b hb with hb|rfl
   . rw[q1 a ha,q1 b hb]at a0;exact h.qinj a b ha hb a0
   . rw[q1 a ha,q2]at a0;exact absurd a0.symm (a4 a ha)
   . rw[q2,q1 b hb]at a0;exact absurd a0 (a4 b hb)
   . rfl
 . have e1:C6 k (fun m=>Lo' i m*R' (p' m) j)=C6 k (fun m=>Lo i m*R (p m) j):=C1 fun m u=>by rw[l1 i m hi u,p1 m u,rp m j u hj]
   rw[C6,p2,rr j hj,l2 i hi,hR i j hi hj,h.dec i j hi hj,e1];exact A9b _ _ _
 . rcases a1 m u with u|rfl
   . have h1:=h.zero m i u hi fun a ha=>by have:=a2 a ha;rwa[p1 a (by omega)]at this
     have h2:=h.zero m r u hr fun a ha=>a3 a (by omega)
     rw[q1 m u,hR i _ hi (h.qlt m u),h1,h2,uQ,tK,wH,rP]
   . have a7:i≠r:=by have:=a2 m (rA _);rwa[p2]at this
     have a6:∀a,a<m->i≠p a:=fun a ha=>by have:=a2 a (by omega);rwa[p1 a ha]at this
     rw[q2,hR i c hi hc,f1 i hi a7 a6,wS,wG,g0s _ hp,g2p,tK,Rat.add_neg_cancel]
 . rcases a1 m u with u|rfl
   . rw[p1 m u,q1 m u,rp m _ u (h.qlt m u)];exact h.piv m u
   . rw[p2,q2,rr c hc];exact hp
 . rcases a1 m u with u|rfl
   . rw[p1 a (by omega),l1 _ m (h.plt a (by omega)) u];exact h.low a m (by omega) u a5
   . rcases a1 a ha with ha|rfl
     . rw[p1 a ha,l2 _ (h.plt a ha)];exact f3 a ha
     . rw[p2,l2 r hr];exact f2
def FK.dot (h:FK n k A p q R Lo) (x:Nat->Rat) {i:Nat} (hi:i<n):C6 n (fun j=>A i j*x j)=C6 k (fun m=>Lo i m*dot n (R (p m)) x)+Go.Proofs.YthiimnbdinlfeaaGreat.dot n (R i) x:=by
 rw[<-A7e n k (Lo i) (fun m=>R (p m)) (R i) x];exact C1 fun j u=>by rw[h.dec i j hi u]
def FK.stuck (h:FK n k A p q R Lo) {c:Nat} (hc:c<n) (a5:∀a,a<k->c≠q a) (hz:∀i,i<n->(∀a,a<k->i≠p a)->R i c=0):¬nonsing n A:=by
 have key:∀t,t<=k->∃x:Nat->Rat,x c=1/\(∀j,j≠c->(∀m,m<k->j≠q m)->x j=0)/\∀m,k-t<=m->m<k->Go.Proofs.YthiimnbdinlfeaaGreat.dot n (R (p m)) x=0:=by
  intro t
  induction t with
  |zero=>exact fun _=>⟨fun j=>if j=c then 1 else 0,rB rfl,fun j hj _=>qT hj,fun m hm hmk=>by omega⟩
  |succ t ih=>
   intro ht;obtain⟨x,x1,x2,x3⟩:=ih (by omega);have a0:k-(t+1)<k:=by omega
   generalize hm:k-(t+1)=m0 at a0;have hd:∀(u:Nat->Rat) (d:Rat),Go.Proofs.YthiimnbdinlfeaaGreat.dot n u (fun j=>x j+if j=q m0 then d else 0)=Go.Proofs.YthiimnbdinlfeaaGreat.dot n u x+u (q m0)*d:=fun u d=>by
    unfold Go.Proofs.YthiimnbdinlfeaaGreat.dot;rw[C1 (g:=fun j=>u j*x j+u j*if j=q m0 then d else 0) fun j _=>Rat.mul_add _ _ _,Kz];congr 1;rw[N8 (h.qlt m0 a0) fun j _ hj=>by rw[qT hj,uQ],rB rfl]
   refine⟨fun j=>x j+if j=q m0 then-(Go.Proofs.YthiimnbdinlfeaaGreat.dot n (R (p m0)) x)/R (p m0) (q m0)else 0, ?_,fun j hj hq=> ?_,fun m h1 h2=> ?_⟩
   . show x c+(if c=q m0 then _ else 0)=1;rw[qT (a5 m0 a0),x1,rP]
   . show x j+(if j=q m0 then _ else 0)=0;rw[qT (hq m0 a0),x2 j hj hq,rP]
   . rw[hd];by_cases a6:m=m0
     . subst a6;have:=h.piv m h2;rw[wS,g3e,wG,g0s _ this,g2p,Rat.add_neg_cancel]
     . rw[x3 m (by omega) h2,h.zero m0 (p m) a0 (h.plt m h2) fun a ha e=>by have:=h.pinj m a h2 (by omega) e;omega,tB,rP]
 obtain⟨x,x1,x2,x3⟩:=key k (rA _);intro a7;have a2:∀i,i<n->C6 n (fun j=>A i j*x j)=0:=fun i hi=>by
  rw[h.dot x hi,Dh fun m hm=>by rw[x3 m (by omega) hm,uQ],tV];by_cases a1:∃a,a<k/\i=p a
  . obtain⟨a,ha,rfl⟩:=a1;exact x3 a (by omega) ha
  . refine Dh fun j hj=> ?_
    by_cases a3:j=c
    . rw[a3,hz i hi fun a ha e=>a1 ⟨a,ha,e⟩,tB]
    . by_cases a4:∃m,m<k/\j=q m
      . obtain⟨m,hm,rfl⟩:=a4;rw[h.zero m i hm hi fun a ha e=>a1 ⟨a,by omega,e⟩,tB]
      . rw[x2 j a3 fun m hm e=>a4 ⟨m,hm,e⟩,uQ]
 have:=a7 x a2 c hc;rw[x1]at this;exact absurd this (by decide)
def FK.nonsing (h:FK n n A p q R Lo):nonsing n A:=by
 intro x hx;have hy:∀a,a<n->Go.Proofs.YthiimnbdinlfeaaGreat.dot n (R (p a)) x=0:=by
  intro a
  induction a using Nat.strongRecOn with
  |ind a ih=>
   intro ha;have h1:=hx (p a) (h.plt a ha);rw[h.dot x (h.plt a ha),Dh fun m hm=> ?_,tV]at h1
   . exact h1
   . by_cases a1:m<a
     . rw[ih m a1 hm,uQ]
     . rw[h.low a m ha hm (by omega),tB]
 have hz:∀t b,t<n->b=n-1-t->x (q b)=0:=by
  intro t
  induction t using Nat.strongRecOn with
  |ind t ih=>
   intro b ht hb;have u:b<n:=by omega
   have h1:=hy b u;unfold Go.Proofs.YthiimnbdinlfeaaGreat.dot at h1;rw[N8 (h.qlt b u) fun j hj a0=> ?_]at h1
   . exact(zW.1 h1).resolve_left (h.piv b u)
   . obtain⟨m,hm,rfl⟩:=Fj h.qlt h.qinj hj;by_cases a2:m<b
     . rw[h.zero m (p b) hm (h.plt b u) fun a ha e=>by have:=h.pinj b a u (by omega) e;omega,tB]
     . have a3:m≠b:=fun e=>a0 (by rw[e])
       rw[ih (n-1-m) (by omega) m (by omega) (by omega),uQ]
 intro j hj;obtain⟨b,hb,rfl⟩:=Fj h.qlt h.qinj hj;exact hz (n-1-b) b (by omega) (by omega)
def FK.prod (h:FK n n A p q R Lo) {a b:Nat} (u:a<n) (hb:b<n):A (p a) (q b)=C6 n fun m=>(Lo (p a) m+if m=a then 1 else 0)*R (p m) (q b):=by
 rw[h.dec _ _ (h.plt a u) (h.qlt b hb),C1 (f:=fun m=>(Lo (p a) m+if m=a then 1 else 0)*R (p m) (q b)) (g:=fun m=>Lo (p a) m*R (p m) (q b)+(if m=a then 1 else 0)*R (p m) (q b)) fun m _=>g2l _ _ _,Kz];congr 1;rw[N8 u fun m _ hm=>by rw[qT hm,tB],rB rfl,yI]
end
end Go.Proofs.YthiimnbdinlfeaaGreat
namespace Go.Proofs.YthiimnbdinlfeaaGreat
def Lab (L:List Int):Prop:=∀i:Int,0<=i->i<(L.length:Int)->0<=D0 L i/\D0 L i<=i/\D0 L (D0 L i)=D0 L i
def Cz (L:List Int) (l:Ln):(Ev L l).length=L.length:=by simp[Ev]
def Rz {L:List Int} {i:Int} (u:0<=i) (h1:i<(L.length:Int)):L[i.toNat]? =some (D0 L i):=by
 have:i.toNat<L.length:=by omega
 unfold D0;rw[qF,qN this];rfl
def Da {L:List Int} {l:Ln} {i:Int} (h0:0<=i) (h1:i<(L.length:Int)):D0 (Ev L l) i=if D0 L i=max (D0 L l.1) (D0 L l.2)then min (D0 L l.1) (D0 L l.2)else D0 L i:=by
 have u:=Rz (L:=Ev L l) h0 (by rw[Cz];exact h1);unfold Ev at u;rw[vT,Rz h0 h1]at u;simp only[vN,qZ]at u;exact u.symm
def Hx (n:Int):(eN n).length=n.toNat:=by simp[eN]
def Mn {n i:Int} (h0:0<=i) (h1:i<n):D0 (eN n) i=i:=by
 have u:=Rz (L:=eN n) h0 (by rw[Hx];omega);unfold eN at u;rw[vT,g0b (by omega)]at u;simp only[vN,qZ]at u;rw[show D0 (eN n) i= _ from u.symm];show((i.toNat:Nat):Int)=i;omega
def mN (n:Int):Lab (eN n):=fun i u h1=>by
 rw[Hx]at h1;rw[Mn u (by omega),Mn u (by omega)];omega
def Lab.join {L:List Int} {l:Ln} (h:Lab L) (hl:NV L.length l):Lab (Ev L l):=fun i u h1=>by
 rw[Cz]at h1;obtain⟨a0,a1,b0,b1⟩:=hl;obtain⟨p0,p1,p2⟩:=h _ a0 a1;obtain⟨q0,q1,q2⟩:=h _ b0 b1;obtain⟨r0,r1,r2⟩:=h i u h1;rw[Da u h1];have hm:D0 L (min (D0 L l.1) (D0 L l.2))=min (D0 L l.1) (D0 L l.2):=by
  rcases(by omega:min (D0 L l.1) (D0 L l.2)=D0 L l.1\/min (D0 L l.1) (D0 L l.2)=D0 L l.2)with e|e<;>rw[e]<;>assumption
 split
 . rename_i e;refine⟨by omega,by omega, ?_⟩;rw[Da (by omega) (by omega),hm];split<;>rfl
 . rename_i e;refine⟨r0,r1, ?_⟩;rw[Da r0 (by omega),r2,qT e]
def pF (n:Int) (ls:List Ln) (l:Ln):L9 n (ls++ [l])=Ev (L9 n ls) l:=by simp[L9,List.foldl_append]
def Kl (n:Int) (ls:List Ln):(L9 n ls).length=n.toNat:=by
 unfold L9;have:∀(ls:List Ln) (L:List Int),(ls.foldl Ev L).length=L.length:=by
  intro ls
  induction ls with
  |nil=>intro L;rfl
  |cons l ls u=>intro L;rw[xQ,u,Cz]
 rw[this,Hx]
def fB {n:Int} {ls:List Ln} (hn:0<=n) (h:∀l∈ls,NV n l):Lab (L9 n ls):=by
 unfold L9;have:∀(ls:List Ln) (L:List Int),L.length=n.toNat->(∀l∈ls,NV n l)->Lab L->Lab (ls.foldl Ev L):=by
  intro ls
  induction ls with
  |nil=>intro L _ _ h;exact h
  |cons l ls ih=>
   intro L u hb h;rw[xQ];refine ih _ (by rw[Cz];exact u) (fun x hx=>hb x (by simp[hx])) (h.join ?_);have:=hb l (by simp);rw[u,show((n.toNat:Nat):Int)=n from by omega];exact this
 exact this ls _ (Hx n) h (mN n)
def A0r {α:Type} {l:List α} {j:Nat} {d:α} (h:j<l.length):l.take (j+1)=l.take j++ [l.getD j d]:=by
 rw[rX,qN h,qF,qN h];rfl
def jU {L:List Int} {l:Ln} {u v:Int} (u0:0<=u) (u1:u<(L.length:Int)) (v0:0<=v) (v1:v<(L.length:Int)) (h:D0 L u=D0 L v):D0 (Ev L l) u=D0 (Ev L l) v:=by
 rw[Da u0 u1,Da v0 v1,h]
def pE {L:List Int} {l:Ln} (hl:NV L.length l):D0 (Ev L l) l.1=D0 (Ev L l) l.2:=by
 obtain⟨u,a1,b0,b1⟩:=hl;rw[Da u a1,Da b0 b1];split<;>split<;>omega
def QY {n:Int} (hn:0<=n) {u v:Int} (u0:0<=u) (u1:u<n) (v0:0<=v) (v1:v<n):∀(ls:List Ln) (L:List Int),L.length=n.toNat->D0 L u=D0 L v->D0 (ls.foldl Ev L) u=D0 (ls.foldl Ev L) v
 | [],_,_,h=>h
 |l::ls,L,hL,h=>by
  rw[xQ];exact QY hn u0 u1 v0 v1 ls _ (by rw[Cz];exact hL) (jU u0 (by omega) v0 (by omega) h)
def XB {n:Int} (hn:0<=n) {l:Ln} :∀(ls:List Ln) (L:List Int),L.length=n.toNat->(∀l∈ls,NV n l)->l∈ls->D0 (ls.foldl Ev L) l.1=D0 (ls.foldl Ev L) l.2
 | [],_,_,_,h=>by cases h
 |x::ls,L,u,hb,h=>by
  rw[xQ];have hx:=hb x (by simp);rcases qV.1 h with rfl|h
  . obtain⟨a0,a1,b0,b1⟩:=hx;exact QY hn a0 a1 b0 b1 ls _ (by rw[Cz];exact u) (pE (by rw[u];exact⟨a0,by omega,b0,by omega⟩))
  . exact XB hn ls _ (by rw[Cz];exact u) (fun y hy=>hb y (by simp[hy])) h
def XN {n:Int} {ls:List Ln} (u:0<=n) (hb:∀l∈ls,NV n l) {l:Ln} (h:l∈ls):D0 (L9 n ls) l.1=D0 (L9 n ls) l.2:=XB u ls _ (Hx n) hb h
def XA {α:Type} {n:Int} (hn:0<=n) {f:Int->α} :∀(ls:List Ln) (L:List Int),L.length=n.toNat->Lab L->(∀l∈ls,NV n l/\f l.1=f l.2)->(∀i:Int,0<=i->i<n->f (D0 L i)=f i)->∀i:Int,0<=i->i<n->f (D0 (ls.foldl Ev L) i)=f i
 | [],_,_,_,_,h=>h
 |l::ls,L,hL,u,hb,h=>by
  rw[xQ];obtain⟨⟨a0,a1,b0,b1⟩,hl⟩:=hb l (by simp);have a2:NV (L.length:Int) l:=by rw[hL];exact⟨a0,by omega,b0,by omega⟩
  refine XA hn ls _ (by rw[Cz];exact hL) (u.join a2) (fun y hy=>hb y (by simp[hy])) fun i i0 i1=> ?_
  rw[Da i0 (by omega)];split
  . rename_i e;have ea:=h _ a0 a1;have eb:=h _ b0 b1;have ei:=h i i0 i1;rcases(by omega:min (D0 L l.1) (D0 L l.2)=D0 L l.1\/min (D0 L l.1) (D0 L l.2)=D0 L l.2)with e1|e1<;>
    rcases(by omega:max (D0 L l.1) (D0 L l.2)=D0 L l.1\/max (D0 L l.1) (D0 L l.2)=D0 L l.2)with e2|e2
    . rw[e1, <-ei,e,e2]
    . rw[e1, <-ei,e,e2,ea,eb,hl]
    . rw[e1, <-ei,e,e2,ea,eb,hl]
    . rw[e1, <-ei,e,e2]
  . exact h i i0 i1
def XM {α:Type} {n:Int} {ls:List Ln} (hn:0<=n) (hb:∀l∈ls,NV n l) {f:Int->α} (hf:∀l∈ls,f l.1=f l.2):∀i:Int,0<=i->i<n->f (D0 (L9 n ls) i)=f i:=
 XA hn ls _ (Hx n) (mN n) (fun l u=>⟨hb l u,hf l u⟩) fun i i0 i1=>by rw[Mn i0 i1]
def A7r {n:Int} {L:List Int} {l:Ln} (hn:0<=n) (u:L.length=n.toNat) (h:NV n l):NV (L.length:Int) l:=by
 rw[u,show((n.toNat:Nat):Int)=n from by omega];exact h
def EN:List Int->Int
 | []=>0
 |a::r=>a+EN r
def TR:∀ {l:List Int} {k:Nat} {v:Int},k<l.length->EN (l.set k v)=EN l-l.getD k 0+v
 | [],_,_,h=>by simp at h
 |a::r,0,v,_=>by simp[EN];omega
 |a::r,k+1,v,h=>by
  have:=TR (l:=r) (k:=k) (v:=v) (by simpa using h);simp only[List.set_cons_succ,EN,this,List.getD_cons_succ];omega
def MK:∀ {l:List Int},(∀x∈l,0<=x)->0<=EN l
 | [],_=>qI _
 |a::r,h=>by
  have h1:=h a (by simp);have u:=MK (l:=r) fun x hx=>h x (by simp[hx])
  simp only[EN];omega
def A8c {L:List Int} {x:Int} (h:x∈L):∃i:Int,0<=i/\i<(L.length:Int)/\D0 L i=x:=by
 obtain⟨i,hi,u⟩:=tW.1 h;refine⟨i,by omega,by omega, ?_⟩;have:=Rz (L:=L) (i:=(i:Int)) (by omega) (by omega);rw[qJ,qN hi,u]at this;exact(vZ this).symm
def aN {A B:List Int} (hl:A.length=B.length) (h:∀i:Int,0<=i->i<(A.length:Int)->D0 A i=D0 B i):A=B:=by
 apply vS;intro j;by_cases hj:j<A.length
 . have u:=Rz (L:=A) (i:=(j:Int)) (by omega) (by omega);have g2:=Rz (L:=B) (i:=(j:Int)) (by omega) (by omega);rw[qJ]at u g2;rw[u,g2,h j (by omega) (by omega)]
 . rw[rS (by omega),rS (by omega)]
def fC {n:Int} {ls:List Ln} (hn:0<=n) (hb:∀l∈ls,NV n l) {L:List Int} (hl:L.length=n.toNat) (h1:∀i:Int,0<=i->i<n->0<=D0 L i/\D0 L i<=i/\D0 (L9 n ls) (D0 L i)=D0 (L9 n ls) i) (h2:∀l∈ls,D0 L l.1=D0 L l.2):L=L9 n ls:=by
 refine aN (by rw[hl,Kl]) fun i i0 i1=> ?_
 rw[hl]at i1;have u:=fB hn hb;have a3:=Kl n ls;obtain⟨m0,m1,m2⟩:=u i i0 (by omega);have e1:=XM hn hb (f:=fun j=>D0 L j) h2 i i0 (by omega);obtain⟨a0,a1,a2⟩:=h1 _ m0 (by omega);obtain⟨_,b1,_⟩:=u (D0 L (D0 (L9 n ls) i)) a0 (by omega);rw[m2]at a2;omega
end Go.Proofs.YthiimnbdinlfeaaGreat
