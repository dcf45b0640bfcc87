/- Part. -/
import Derived.Laws.CopyRow
import Derived.Test.YtiflhbllbgajeaaGreatKEA
set_option linter.all false
namespace Go.Vc
open Go Go.RowKit Go.Gw
open Go.IntKind (i64)
section
variable {za:Zn} {w0 w:World} {Z:Nat->Prop} {B:Nat->Value} {st:St} {E:F8} {P:Program}
def oZ (w:World) (Z:Nat->Prop) (B:Nat->Value):List (Nat×List C)->List (Nat×Value)->Prop
 | [],vs=>vs= []
 | (i,ps)::r,vs=>∃v u,vs=(i,v)::u/\Dh w Z B ps v.cells.toList/\oZ w Z B r u
def cP {place:Nat->Option (Nat×Nat)} :∀ {a0:List (Nat×List C)} {a1:List (Nat×Value)} {cs cs':List C} {vs:Array Value},oZ w Z B a0 a1->Dh w Z B cs vs.toList->Ys place cs a0=some cs'->∃a2,Instr.fill place vs a1=some a2/\Dh w Z B cs' a2.toList
 | [],_,cs,cs',vs,hp,h,hf=>by
  rw[show _= _ from hp];simp only[Ys,rE]at hf;subst hf;exact⟨vs,rfl,h⟩
 | (i,ps)::r,_,cs,cs',vs,⟨v,a1,e,h1,h2⟩,h,hf=>by
  subst e;simp only[Ys]at hf;cases a3:place i with
  |none=>simp[a3]at hf
  |some q=>
   obtain⟨off,sz⟩:=q;simp only[a3]at hf;cases hb:Nat.beq ps.length sz&&Nat.ble (off+sz) cs.length with
   |false=>simp[hb]at hf
   |true=>
    simp only[hb,qQ]at hf;simp only[qC]at hb;have a4:ps.length=sz:=qD hb.1;have a9:off+sz<=cs.length:=qP hb.2;have a5:v.cells.size=sz:=by rw[<-a4,h1.len];simp
    have a8:cs.length=vs.size:=by rw[h.len];simp
    have u:=Vg off v.cells.toList 0 vs (by simp;omega);simp only[tD]at u;generalize hc':(v.cells.toList.zipIdx 0).foldl (fun cs (x:Value×Nat)=>cs.setIfInBounds (off+x.2) x.1) vs=a7 at u;have hr:Dh w Z B (cs.take off++ps++cs.drop (off+sz)) a7.toList:=by
     rw[u];have a6:v.cells.toList.length=sz:=by simpa using a5
     rw[a6];exact((h.take off).append h1).append (h.drop (off+sz))
    obtain⟨a2,h3,h4⟩:=cP h2 hr hf;refine⟨a2, ?_,h4⟩;unfold Instr.fill;simp only[a3];rw[qL (by simp;omega)];rw[<-h3, <-hc', <-g3n];simp
def LN {place:Nat->Option (Nat×Nat)} {Q:C->Prop} :∀ {u:List (Nat×List C)} {cs cs':List C},(∀x∈u,∀c∈x.2,Q c)->(∀c∈cs,Q c)->Ys place cs u=some cs'->∀c∈cs',Q c
 | [],cs,cs',_,h,hf=>by
  simp only[Ys,rE]at hf;subst hf;exact h
 | (i,ps)::r,cs,cs',hp,h,hf=>by
  simp only[Ys]at hf;cases a0:place i with
  |none=>simp[a0]at hf
  |some q=>
   simp only[a0]at hf;cases hb:Nat.beq ps.length q.2&&Nat.ble (q.1+q.2) cs.length with
   |false=>simp[hb]at hf
   |true=>
    simp only[hb,qQ]at hf;refine LN (fun x hx=>hp x (qJ _ hx)) ?_ hf;intro c hc;simp only[rA]at hc;rcases hc with(hc|hc) |hc
    . exact h c (rZ hc)
    . exact hp (i,ps) (by simp) c hc
    . exact h c (vF hc)
def Kt (st:St) (ctx:Kf):List (Nat×Operand)->Option (List (Nat×List C))
 | []=>some []
 | (i,x)::r=>match st.ev ctx x with
  |some s=>bif s.cs.all Ex then(Kt st ctx r).map fun l=>(i,s.cs)::l else none
  |none=>none
def RS.cells (h:B7 za w0 st E w Z B) {s:SV} {v:Value} (hs:RS w Z B s v) (hd:s.cs.all Ex=true):Dh w Z B s.cs v.cells.toList:=by
 obtain⟨a,cs⟩:=s;cases a with
 |true=>obtain⟨vs,e,hs⟩:=hs;subst e;exact hs
 |false=>
  have hs:Dh w Z B cs [v]:=hs
  match cs,hs with
  | [c],a0=>
   obtain⟨u,us,e,h1,h2⟩:=a0;cases e;have a1:=RC.one h (by simpa using hd) h1;have:v.cells= #[v]:=by cases v<;>simp[Value.cells,Value.oneCell']at a1⊢
   rw[this];exact⟨v,[],rfl,h1,h2⟩
  | [],a0=>cases a0
  |c::c'::r,a0=>obtain⟨u,us,e,h1,⟨_,_,e2,_⟩⟩:=a0;cases e;cases e2
def Lu (h:B7 za w0 st E w Z B) {ctx:Kf} (hc:P6 E ctx):∀ {u:List (Nat×Operand)} {l:List (Nat×List C)},Kt st ctx u=some l->oZ w Z B l (u.map fun x=>(x.1,Gw.ev E x.2))/\∀x∈l,∀c∈x.2,Cd st.nx c
 | [],l,hl=>by cases hl;exact⟨rfl,by simp⟩
 | (i,x)::r,l,hl=>by
  simp only[Kt]at hl;cases hv:st.ev ctx x with
  |none=>simp[hv]at hl
  |some s=>
   simp only[hv]at hl;cases hd:s.cs.all Ex with
   |false=>simp only[hd,rF]at hl;cases hl
   |true=>
    simp only[hd,qQ]at hl;cases hr:Kt st ctx r with
    |none=>simp[hr]at hl
    |some l'=>
     simp[hr]at hl;subst hl;obtain⟨h1,h2⟩:=h.ev hc hv;obtain⟨h3,h4⟩:=Lu h hc hr;refine⟨⟨Gw.ev E x,_,rfl,RS.cells h h1 hd,h3⟩,fun y hy=> ?_⟩;rcases qG.1 hy with rfl|hy
     . exact h2
     . exact h4 y hy
def Ke (t:Ty):List C:=(Dg t).map Jt
def Fs {T:TypeId} {t:Ty} (h:Qy P T t=true):∃z,He P T=some z/\z.cells.toList=Dg t:=by
 unfold Qy at h;split at h
 . rename_i z hz;split at h
   . rename_i u;exact⟨z,hz,by rw[fC u];simp⟩
   . cases h
 . cases h
def A5t (h:B7 za w0 st E w Z B) {ctx:Kf} (hc:P6 E ctx) {T ty:TypeId} {t:Ty} {u:List (Nat×Operand)} {l:List (Nat×List C)} {cs:List C} {pl:List (Nat×Nat)} (hz:Qy P T t=true) (hp:CN P T=some pl)
 (hl:Kt st ctx u=some l) (hf:Ys (fun i=>pl[i]?) (Ke t) l=some cs):Xx P st E w Z B ty (.build T u.toArray) (.one ⟨true,cs⟩):=by
 obtain⟨z,a1,a2⟩:=Fs hz;obtain⟨h1,h2⟩:=Lu h hc hl;have h3:=Ci (w:=w) (Z:=Z) (B:=B) (n:=st.nx) (Dg t);obtain⟨a0,h4,h5⟩:=cP (vs:=z.cells) h1 (by rw[a2];exact h3.1) hf;exact⟨.agg a0,fun w' _=>B4l a0 a1 hp h4,fun _=>⟨a0.toList,by simp,h5⟩,LN h2 h3.2 hf⟩
def cA (h:B7 za w0 st E w Z B) {ctx:Kf} (hc:P6 E ctx) {T ty e:TypeId} {t:Ty} {len sz:Nat} {u:List (Nat×Operand)} {l:List (Nat×List C)} {cs:List C} (hz:Qy P T t=true) (hT:P.underlying T=some (.array len e)) (hs:Sv P e sz=true)
 (hl:Kt st ctx u=some l) (hf:Ys (fun i=>some (i*sz,sz)) (Ke t) l=some cs):Xx P st E w Z B ty (.build T u.toArray) (.one ⟨true,cs⟩):=by
 obtain⟨z,a1,a2⟩:=Fs hz;obtain⟨h1,h2⟩:=Lu h hc hl;have h3:=Ci (w:=w) (Z:=Z) (B:=B) (n:=st.nx) (Dg t);obtain⟨a0,h4,h5⟩:=cP (vs:=z.cells) h1 (by rw[a2];exact h3.1) hf;exact⟨.agg a0,fun w' _=>kU a0 a1 hT hs h4,fun _=>⟨a0.toList,by simp,h5⟩,LN h2 h3.2 hf⟩
def A1p:List SV->Option (List Nat)
 | []=>some []
 | ⟨false,[.box k 0]⟩::r=>(A1p r).map (k:: ·)
 | _=>none
def evL (st:St) (ctx:Kf):List Operand->Option (List SV)
 | []=>some []
 |x::r=>match st.ev ctx x with
  |some s=>(evL st ctx r).map (s:: ·)
  |none=>none
def ST (h:B7 za w0 st E w Z B) {ctx:Kf} (hc:P6 E ctx):∀ {xs:List Operand} {ss:List SV},evL st ctx xs=some ss->Qz w Z B ss (xs.map (Gw.ev E))/\∀s∈ss,Kz st.nx s
 | [],ss,u=>by cases u;exact⟨rfl,by simp⟩
 |x::r,ss,u=>by
  simp only[evL]at u;cases hv:st.ev ctx x with
  |none=>simp[hv]at u
  |some s=>
   simp only[hv]at u;cases hr:evL st ctx r with
   |none=>simp[hr]at u
   |some l=>
    simp[hr]at u;subst u;obtain⟨h1,h2⟩:=h.ev hc hv;obtain⟨h3,h4⟩:=ST h hc hr;refine⟨⟨_,_,rfl,h1,h3⟩,fun y hy=> ?_⟩;rcases qG.1 hy with rfl|hy
    . exact h2
    . exact h4 y hy
def pH {n:Nat} :∀ {ss:List SV} {ks:List Nat} {vs:List Value},Qz w Z B ss vs->(∀s∈ss,Kz n s)->A1p ss=some ks->vs=ks.map B/\∀k∈ks,k<n
 | [],ks,vs,h,_,u=>by cases u;exact⟨h,by simp⟩
 |s::r,ks,vs,⟨v,a2,e,h1,h2⟩,hr,u=>by
  unfold A1p at u;split at u
  . rename_i a0;cases a0
  . rename_i k r' a0;cases a0;cases hr':A1p r with
    |none=>simp[hr']at u
    |some l=>
     simp[hr']at u;subst u;obtain⟨h3,h4⟩:=pH h2 (fun s hs=>hr s (qJ _ hs)) hr';obtain⟨_,_,e1,⟨b,hb,hv⟩,_⟩:=h1;cases e1;have a1:=hr ⟨false,[.box k 0]⟩ (by simp) (.box k 0) (by simp);refine⟨by rw[e,h3,hv, <-hb];rfl,fun q hq=> ?_⟩;rcases qG.1 hq with rfl|hq
     . exact a1
     . exact h4 q hq
  . cases u
def B7a (h:B7 za w0 st E w Z B) {ctx:Kf} (hc:P6 E ctx) {ty:TypeId} {f:FuncId} {caps:List Operand} {ss:List SV} {u:List Nat} (h1:evL st ctx caps=some ss) (h2:A1p ss=some u):
 Xx P st E w Z B ty (.makeFunc (.func f) #[] caps.toArray) (.one ⟨false,[.fn f u]⟩):=by
 obtain⟨h3,h4⟩:=ST h hc h1;obtain⟨h5,h6⟩:=pH h3 h4 h2;exact Ig (fun w' _=>C1y h5) rfl h6
def A9l (e:Bool):C->C->Option C
 | .val t x, .val u y=>if h:u=t then some (.val t (K8 e x (h▸y)))else none
 | _,_=>none
def A9m {e:Bool} {c1 c2 c:C} {v1 v2:Value} (h:A9l e c1 c2=some c) (h1:e=true->RC w Z B c1 v1) (h2:e=false->RC w Z B c2 v2):RC w Z B c (bif e then v1 else v2)/\∀n,Cd n c:=by
 unfold A9l at h;split at h
 . split at h
   . rename_i t x t' y u;subst u;cases h;refine⟨?_,fun _=>trivial⟩;cases e with
     |true=>exact h1 rfl
     |false=>exact h2 rfl
   . cases h
 . cases h
end
def Rp:Ty->Bool
 | .ptr _=>false
 | .pair a b=>Rp a&&Rp b
 | _=>true
def KN {w:World} {Z:Nat->Prop} :∀ {t:Ty},Rp t=true->C4 t w Z (Dg t) t.dflt
 | .int k,_=>⟨rfl,iT k⟩
 | .bool,_=>rfl
 | .str,_=>rfl
 | .unit,_=>rfl
 | .pair a b,h=>by
  simp only[Rp,qC]at h;exact⟨_,_,rfl,KN h.1,KN h.2⟩
 | .sl _,_=>⟨none,0,rfl,rB _,rN _,fun _=>rfl, .inl rfl⟩
 | .ptr _,h=>by cases h
 | .mp _ _ _ _,_=> .inl ⟨rfl,rfl⟩
def B2q (st:St) (ka:Bool) (kt:Ty) (va:Bool) (vt:Ty):C->Option (List (kt.den×vt.den))
 | .mp k=>match st.L k with
  | .map u a0 a1 a2 es=>if h:Ty.mp u a0 a1 a2=Ty.mp ka kt va vt then some (h▸(show(Ty.mp u a0 a1 a2).den from es):(Ty.mp ka kt va vt).den)else none
  | .mapE u a0 a1 a2 es _ _=>if h:Ty.mp u a0 a1 a2=Ty.mp ka kt va vt then some (h▸(show(Ty.mp u a0 a1 a2).den from es):(Ty.mp ka kt va vt).den)else none
  | _=>none
 | .val t es=>if h:t=Ty.mp ka kt va vt then some (h▸es:(Ty.mp ka kt va vt).den)else none
 | .raw (.map none)=>some []
 | _=>none
def B2s (st:St) (ctx:Kf) (x:Operand):Option (Option Prop×DV):=
 match st.ev ctx x with
 |some s=>some (none, .one s)
 |none=>match x with
  | .tmp t=>match st.S t with
   | .tup vs=>some (none, .tup vs)
   | _=>none
  | _=>none
def B7j (st:St) (b:Bool):Operand->Kf
 | .tmp t=>gctx st 20 t b
 | _=> []
def one1 (c:C):DV:= .one ⟨false,[c]⟩
def nX (st:St) (ctx:Kf) (c a b:Operand):Option (Option Prop×DV):=do
 let e<-(st.ev ctx c).bind NM
 let u<-(st.ev (B7j st true c++ctx) a).bind c1
 let cb<-(st.ev (B7j st false c++ctx) b).bind c1
 (A9l e u cb).map fun c=>(none,one1 c)
def B0p (st:St) (ctx:Kf) (op:UnOp) (x:Operand):Option (Option Prop×DV):=do
 let c<-(st.ev ctx x).bind c1
 (unC op c).map fun c=>(none,one1 c)
def dA:C->Bool
 | .val .bool _=>true
 | _=>false
def mB (cx:Cx) (st:St) (ctx:Kf) (op:BinOp) (T:TypeId) (x y:Operand):Option (Option Prop×DV):=do
 let u<-st.ev ctx x
 let sy<-st.ev ctx y
 match c1 u,c1 sy with
 |some a,some b=>bif dA a&& !(isB cx.P T)then none else(B5x op a b).map fun r=>(r.1,one1 r.2)
 | _,_=>do
  let ti<-cx.ti T
  let a<-Rz true ti.ty u
  let b<-Rz true ti.ty sy
  bif ti.eq&&ti.agg then(match op with
   | .eql=>some (none,one1 (.val .bool (EN ti.ty a b)))
   | .neq=>some (none,one1 (.val .bool (!(EN ti.ty a b))))
   | _=>none)else none
def LK (st:St) (x:Operand) (i:Nat):Option (Option Prop×DV):=
 match x with
 | .tmp t=>match st.S t with
  | .tup vs=>(vs[i]?).map fun s=>(none, .one s)
  | _=>none
 | _=>none
def Yq (cx:Cx) (st:St) (ctx:Kf) (T:TypeId) (x:Operand) (f:Nat):Option (Option Prop×DV):=do
 let ti<-cx.ti T
 let q<-ti.fields[f]?
 let c<-(st.ev ctx x).bind c1
 (faC q.1 c).map fun c=>(none,one1 c)
def cO (cx:Cx) (st:St) (ctx:Kf) (T:TypeId) (x:Operand) (f:Nat):Option (Option Prop×DV):=do
 let ti<-cx.ti T
 let q<-ti.fields[f]?
 let s<-st.ev ctx x
 bif s.agg then(cut q.1 q.2.1 s.cs).map fun cs=>(none, .one ⟨q.2.2,cs⟩)else none
def nB (cx:Cx) (st:St) (ctx:Kf) (T:TypeId) (x:Operand):Option (Option Prop×DV):=do
 let ti<-cx.ti T
 let c<-(st.ev ctx x).bind c1
 (A8c st ti.ty.size c).map fun cs=>(none, .one ⟨ti.agg,cs⟩)
def B9n (cx:Cx) (st:St) (ctx:Kf) (ti:TI) (x ix:Operand):Option (Option Prop×DV):=do
 let u<-cx.ti ti.elem
 let c<-(st.ev ctx x).bind c1
 let i<-(st.ev ctx ix).bind cX
 (faC (i.toNat*u.ty.size) c).map fun c'=>(some (0<=i/\i<(ti.arr:Int)),one1 c')
def A5e (u:Ty):Nat->Ty
 |0=> .unit
 |1=>u
 |n+2=> .pair u (A5e u (n+1))
def selA (u:Ty):(n:Nat)->(A5e u n).den->Int->u.den
 |0,_,_=>u.dflt
 |1,x,_=>x
 |n+2,x,i=>K8 (decide (i=0)) x.1 (selA u (n+1) x.2 (i-1))
def B9p (cx:Cx) (st:St) (ctx:Kf) (ti:TI) (x ix:Operand):Option (Option Prop×DV):=do
 let u<-cx.ti ti.elem
 let c<-(st.ev ctx x).bind c1
 let i<-(st.ev ctx ix).bind cX
 match c with
 | .pf t y 0=>if h:t=A5e u.ty ti.arr then some (some (0<=i/\i<(ti.arr:Int)),one1 (.pf u.ty (selA u.ty ti.arr (h▸y) i) 0))else none
 | _=>none
def pS:Operand->Bool
 | .const _=>true
 | _=>false
def B9o (cx:Cx) (st:St) (ctx:Kf) (T:TypeId) (x:Operand):Option (Option Prop×DV):=do
 let ti<-cx.ti T
 let c<-(st.ev ctx x).bind c1
 match ti.ty,c with
 | .sl t, .raw (.slice none 0 0)=>some (some False,one1 (.pf t t.dflt 0))
 | _,_=>none
def B6o (cx:Cx) (st:St) (ctx:Kf) (T:TypeId) (x ix:Operand):Option (Option Prop×DV):=do
 let ti<-cx.ti T
 let c<-(st.ev ctx x).bind c1
 let i<-(st.ev ctx ix).bind cX
 let r<-B6n st i c
 match ti.ty,r.2 with
 | .sl t, .pf u _ _=>bif decide (t=u)then some (r.1,one1 r.2)else none
 | .sl t, .elp _ sz _ _=>bif Nat.beq t.size sz then some (r.1,one1 r.2)else none
 | _,_=>none
def A7j (cx:Cx) (st:St) (ctx:Kf) (T:TypeId) (x ix:Operand):Option (Option Prop×DV):=
 match cx.ti T with
 |some ti=>bif Nat.beq ti.arr 0 then(match B9o cx st ctx T x with
  |some r=>some r
  |none=>B6o cx st ctx T x ix)else(bif pS ix then B9n cx st ctx ti x ix else B9p cx st ctx ti x ix)
 |none=>none
def B9x:C->Bool
 | .box _ _=>true
 | .elp _ _ _ _=>true
 | .pf _ _ _=>true
 | .fn _ _=>true
 | .fv _ _ _ _ _ _=>true
 | _=>false
def A8s (st:St) (ctx:Kf) (x:Operand):Option (Option Prop×DV):=do
 let c<-(st.ev ctx x).bind c1
 bif B9x c then some (none,one1 c)else none
def B2x (st:St) (ctx:Kf):Option Operand->Option (Option Int)
 |none=>some none
 |some o=>((st.ev ctx o).bind cX).map some
def eP (cx:Cx) (st:St) (ctx:Kf) (T:TypeId) (x:Operand) (lo hi:Option Operand):Option (Option Prop×DV):=do
 let ti<-cx.ti T
 let c<-(st.ev ctx x).bind c1
 let l<-B2x st ctx lo
 let h<-B2x st ctx hi
 let r<-oE st l h c
 match ti.ty,r.2 with
 | .sl t, .val (.sl u) _=>bif decide (t=u)then some (r.1,one1 r.2)else none
 | .sl t, .win _ sz _ _=>bif Nat.beq t.size sz then some (r.1,one1 r.2)else none
 | _,_=>none
def mH (cx:Cx) (st:St) (ctx:Kf) (T T':TypeId) (x:Operand):Option (Option Prop×DV):=do
 let ti<-cx.ti T
 let u<-cx.ti T'
 let c<-(st.ev ctx x).bind c1
 match ti.ty,u.ty,c with
 | .int _, .int k', .val (.int _) a=>some (none,one1 (.val (.int k') (k'.wrap a)))
 | _,_,_=>none
def bZ (cx:Cx) (st:St) (ctx:Kf) (T:TypeId) (u:List (Nat×Operand)):Option (Option Prop×DV):=do
 let ti<-cx.ti T
 let l<-Kt st ctx u
 bif ti.fields.isEmpty then(do
  let te<-cx.ti ti.elem
  bif Nat.beq ti.arr 0 then none else(Ys (fun i=>some (i*te.ty.size,te.ty.size)) (Ke ti.ty) l).map fun cs=>(none, .one ⟨true,cs⟩))
 else(Ys (fun i=>(ti.fields.map fun x=>(x.1,x.2.1))[i]?) (Ke ti.ty) l).map fun cs=>(none, .one ⟨true,cs⟩)
def FP (s:ByteArray) (i:Int):Int:=((s.data.toList.getD i.toNat 0).toNat:Int)
def TG (st:St) (ctx:Kf) (x ix:Operand):Option (Option Prop×DV):=do
 let c<-(st.ev ctx x).bind c1
 let i<-(st.ev ctx ix).bind cX
 match c with
 | .val .str s=>some (some (0<=i/\i<(s.data.toList.length:Int)),one1 (.val (.int .u8) (FP s i)))
 | _=>none
def TF (cx:Cx) (st:St) (ctx:Kf) (T:TypeId) (x ix:Operand):Option (Option Prop×DV):=none
def cW (cx:Cx) (st:St) (ctx:Kf) (T:TypeId) (x ix:Operand):Option (Option Prop×DV):=
 match((cx.ti T).map fun t:TI=>t.ty:Option Ty)with
 |some .str=>TG st ctx x ix
 | _=>TF cx st ctx T x ix
def B9s:C->Bool
 | .mp _=>true
 | _=>false
def B6q:Ty->Bool
 | .sl _=>true
 | _=>false
def TP (cx:Cx) (st:St) (ctx:Kf) (T:TypeId) (x ix:Operand) (u:Bool):Option (Option Prop×DV):=do
 let ti<-cx.ti T
 let c<-(st.ev ctx x).bind c1
 let sk<-st.ev ctx ix
 match ti.ty with
 | .mp ka kt va vt=>do
  let es<-B2q st ka kt va vt c
  let k<-Rz ka kt sk
  bif ti.rows&&B9s c&&B6q vt&& !u&& !va then some (some (K5 kt k es=none),one1 (.raw (.slice none 0 0)))else
  bif Rp vt then some (none,bif u then .tup [⟨va,explode vt ((K5 kt k es).getD vt.dflt)⟩,⟨false,[.val .bool (K5 kt k es).isSome]⟩]else .one ⟨va,explode vt ((K5 kt k es).getD vt.dflt)⟩)else none
 | _=>none
def A8n (st:St) (ctx:Kf) (fn:Fn) (first caps:List Operand):Option (Option Prop×DV):=
 match fn,first with
 | .func f,[]=>do
  let ss<-evL st ctx caps
  let u<-A1p ss
  some (none,one1 (.fn f u))
 | _,_=>none
def LF (cx:Cx) (st:St) (ctx:Kf) (b:Builtin) (args:List Operand) (ts:List TypeId):Option (Option Prop×DV):=
 match b,args,ts with
 | .len,[x],[T]=>do
  let ti<-cx.ti T
  let c<-(st.ev ctx x).bind c1
  let n<-B6u st c
  match ti.ty,c with
  | _, .mp _=>none
  | .sl _,_=>some (none,one1 (.val (.int .i64) n))
  | _,_=>none
 | .max,[x,y],_=>do
  match<-(st.ev ctx x).bind c1, <-(st.ev ctx y).bind c1 with
  | .val (.int k) a, .val (.int k') b=>bif decide (k=k')then some (none,one1 (.val (.int k) (max a b)))else none
  | _,_=>none
 | .min,[x,y],_=>do
  match<-(st.ev ctx x).bind c1, <-(st.ev ctx y).bind c1 with
  | .val (.int k) a, .val (.int k') b=>bif decide (k=k')then some (none,one1 (.val (.int k) (min a b)))else none
  | _,_=>none
 | .max,[x,y,z],_=>do
  match<-(st.ev ctx x).bind c1, <-(st.ev ctx y).bind c1, <-(st.ev ctx z).bind c1 with
  | .val (.int k) a, .val (.int k') b, .val (.int u) c=>bif decide (k=k')&&decide (k=u)then some (none,one1 (.val (.int k) (max (max a b) c)))else none
  | _,_,_=>none
 | _,_,_=>none
def Zs (cx:Cx) (st:St) (ctx:Kf):Op->Option (Option Prop×DV)
 | .move x=>B2s st ctx x
 | .assign x=>B2s st ctx x
 | .pick c a b=>nX st ctx c a b
 | .unOp op _ x=>B0p st ctx op x
 | .binOp op T x y _=>mB cx st ctx op T x y
 | .extract x i=>LK st x i
 | .fieldAddr T x f=>Yq cx st ctx T x f
 | .field T x f=>cO cx st ctx T x f
 | .load T x=>nB cx st ctx T x
 | .indexAddr T x i=>A7j cx st ctx T x i
 | .index T x i=>cW cx st ctx T x i
 | .lookup T x i ck=>TP cx st ctx T x i ck
 | .slice T x lo hi none=>eP cx st ctx T x lo hi
 | .convert T T' x=>mH cx st ctx T T' x
 | .build T u=>bZ cx st ctx T u.toList
 | .nilCheck x=>A8s st ctx x
 | .makeFunc fn first caps=>A8n st ctx fn first.toList caps.toList
 | .call ⟨.builtin b,args,ts⟩=>LF cx st ctx b args.toList ts.toList
 | _=>none
section
variable {za:Zn} {w0 w:World} {Z:Nat->Prop} {B:Nat->Value} {st:St} {E:F8} {cx:Cx}
def bind_some {α β:Type} {x:Option α} {f:α->Option β} {b:β} :x.bind f=some b↔∃a,x=some a/\f a=some b:=g1t
def B7.tup (h:B7 za w0 st E w Z B) {t:Tmp} {vs:List SV} (hd:st.S t= .tup vs):∃us:List Value,E t= .tuple us.toArray/\Qz w Z B vs us/\∀s∈vs,Kz st.nx s:=by
 have hs:=h.slots t;have u:=h.refs t;rw[hd]at hs u;obtain⟨us,e,h1⟩:=hs;exact⟨us,e,h1,u⟩
def Qz.get:∀ {ss:List SV} {vs:List Value} {i:Nat} {s:SV},Qz w Z B ss vs->ss[i]? =some s->∃v,vs[i]? =some v/\RS w Z B s v
 | [],_,_,_,_,hi=>by simp at hi
 |s'::ss,_,i,s,⟨v,a0,e,h1,h2⟩,hi=>by
  cases i with
  |zero=>simp at hi;subst hi;exact⟨v,by rw[e];rfl,h1⟩
  |succ i=>simp at hi;obtain⟨u,h3,h4⟩:=Qz.get h2 hi;exact⟨u,by rw[e];simpa using h3,h4⟩
def O1 {P:Program} {T:TypeId} {ti:TI} (h:Vj P T ti=true):Sv P T ti.ty.size=true/\(ti.agg=true/\fN P T ti.ty.size=true\/ti.agg=false/\Iv P T=true/\ti.ty.size=1)/\Qy P T ti.ty=true:=by
 simp only[Vj,qC]at h;obtain⟨⟨⟨⟨⟨⟨h1,u⟩,h3⟩,_⟩,_⟩,_⟩,_⟩:=h;refine⟨h1, ?_,h3⟩;cases ha:ti.agg with
 |true=>rw[ha]at u;exact .inl ⟨rfl,u⟩
 |false=>simp only[ha,rF,qC]at u;exact .inr ⟨rfl,u.1,qD u.2⟩
def CU {P:Program} {T:TypeId} {ti:TI} {t:Ty} (h:Vj P T ti=true) (ht:ti.ty= .sl t):Gv P T ti.elem t.size=true/\Qy P ti.elem t=true/\∃i,P.info? ti.elem=some i/\i.bytes=ti.bytes:=by
 simp only[Vj,qC]at h;obtain⟨⟨⟨⟨_,u⟩,_⟩,_⟩,_⟩:=h;rw[ht]at u;simp only[qC]at u;refine⟨u.1.1,u.1.2, ?_⟩;cases hi:P.info? ti.elem with
 |none=>simp[hi]at u
 |some i=>simp only[hi]at u;exact⟨i,rfl,qD u.2⟩
def kP {P:Program} {T:TypeId} {ti:TI} {k:IntKind} (h:Vj P T ti=true) (ht:ti.ty= .int k):B2h P T k=true:=by
 simp only[Vj,qC]at h;obtain⟨⟨⟨⟨_,u⟩,_⟩,_⟩,_⟩:=h;rw[ht]at u;exact u
def AD {P:Program} {T:TypeId} {ti:TI} (h:Vj P T ti=true) (he:ti.fields.isEmpty=false):Yr P T 0 ti.fields=true/\CN P T=some (ti.fields.map fun x=>(x.1,x.2.1)):=by
 simp only[Vj,qC]at h;obtain⟨⟨⟨_,u⟩,_⟩,_⟩:=h;simp only[he,rF,qC]at u;refine⟨u.1, ?_⟩;cases hp:CN P T with
 |none=>simp[hp]at u
 |some pl=>simp only[hp,rY]at u;rw[u.2]
def VS {P:Program} {T:TypeId} {ti:TI} (h:Vj P T ti=true) (he:Nat.beq ti.arr 0=false):P.underlying T=some (.array ti.arr ti.elem):=by
 simp only[Vj,qC]at h;obtain⟨⟨_,u⟩,_⟩:=h;simp only[he,rF]at u;split at u
 . rename_i n e hu;simp only[qC]at u;rw[hu,qD u.1,qD u.2]
 . cases u
def Vk {P:Program} {T:TypeId} {ti:TI} {ka va:Bool} {kt vt:Ty} (h:Vj P T ti=true) (ht:ti.ty= .mp ka kt va vt):P.underlying T=some (.map ti.key ti.elem)/\DJ P ti.key ka kt=true/\Qy P ti.elem vt=true/\KM P ti.elem va=true:=by
 simp only[Vj,qC]at h;obtain⟨⟨⟨⟨_,u⟩,_⟩,_⟩,_⟩:=h;rw[ht]at u;simp only[qC]at u;obtain⟨⟨⟨h1,h2⟩,h3⟩,h5⟩:=u;refine⟨?_,h2,h3,h5⟩;split at h1
 . rename_i k e hu;simp only[qC]at h1;rw[hu,qD h1.1,qD h1.2]
 . cases h1
def B4i {P:Program} {T:TypeId} {ti:TI} (h:Vj P T ti=true) (u:ti.eq=true):DJ P T ti.agg ti.ty=true:=by
 simp only[Vj,qC]at h;have:=h.2;rw[u]at this;exact this
def Ud {P:Program} {T:TypeId} :∀ {l:List (Nat×Nat×Bool)} {u f:Nat} {q:Nat×Nat×Bool},Yr P T u l=true->l[f]? =some q->LM P T (u+f) q.1=true/\mL P T (u+f) q.2.1 q.2.2=true
 | [],_,_,_,_,hi=>by simp at hi
 | (off,sz,agg)::l,u,f,q,h,hi=>by
  simp only[Yr,qC]at h;cases f with
  |zero=>simp at hi;subst hi;exact h.1
  |succ f=>
   simp at hi;have:=Ud h.2 hi;rw[show u+1+f=u+(f+1)from by omega]at this;exact this
def Ja {α:Type} {l:List α} {i:Nat} {a:α} (h:l[i]? =some a):l.isEmpty=false:=by
 cases l with
 |nil=>simp at h
 |cons _ _=>rfl
end
section
variable {za:Zn} {w0 w:World} {Z:Nat->Prop} {B:Nat->Value} {st:St} {E:F8} {cx:Cx} {ctx:Kf} {ty:TypeId} {φ:Option Prop} {d:DV}
def A0c (h:B7 za w0 st E w Z B) (hc:P6 E ctx) {x:Operand} (ho:B2s st ctx x=some (φ,d)):Xx cx.P st E w Z B ty (.move x) d/\Xx cx.P st E w Z B ty (.assign x) d:=by
 unfold B2s at ho;cases hv:st.ev ctx x with
 |some s=>
  rw[hv]at ho;cases ho;obtain⟨h1,u⟩:=h.ev hc hv;exact⟨⟨_,fun w' _=>B0x,fun _=>h1,u⟩,⟨_,fun w' _=>kT,fun _=>h1,u⟩⟩
 |none=>
  rw[hv]at ho;cases x with
  |tmp t=>
   simp only at ho;cases hd:st.S t with
   |tup vs=>
    rw[hd]at ho;cases ho;obtain⟨us,e,h1,u⟩:=h.tup hd;exact⟨⟨_,fun w' _=>B0x,fun _=>⟨us,e,h1⟩,u⟩,⟨_,fun w' _=>kT,fun _=>⟨us,e,h1⟩,u⟩⟩
   |one _=>rw[hd]at ho;cases ho
   |cnd _ _ _=>rw[hd]at ho;cases ho
   |dead=>rw[hd]at ho;cases ho
  |const _=>cases ho
  |global _=>cases ho
  |func _=>cases ho
def B7.c1 (h:B7 za w0 st E w Z B) (hc:P6 E ctx) {x:Operand} {c:C} (hx:(st.ev ctx x).bind Vc.c1=some c):RC w Z B c (Gw.ev E x)/\Cd st.nx c:=by
 obtain⟨s,hs,h1⟩:=bind_some.1 hx;obtain⟨u,h3⟩:=h.ev hc hs;exact gG u h3 h1
def B7.int (h:B7 za w0 st E w Z B) (u:P6 E ctx) {x:Operand} {n:Int} (hx:(st.ev ctx x).bind cX=some n):∃k,Gw.ev E x= .int k n/\LQ k n:=by
 obtain⟨s,hs,h1⟩:=bind_some.1 hx;exact B2g (h.ev u hs).1 h1
def A3e (h:B7 za w0 st E w Z B) (hc:P6 E ctx) {c a b:Operand} (ho:nX st ctx c a b=some (φ,d)):Xx cx.P st E w Z B ty (.pick c a b) d:=by
 simp only[nX,qH,bind_some,qK]at ho;obtain⟨e,⟨s,hs,he⟩,ca,⟨sa,a1,a3⟩,cb,⟨sb,a2,a4⟩,r,hr,a5⟩:=ho;cases a5;have a0:Gw.ev E c= .bool e:=Rh (h.ev hc hs).1 he;have u:∀q,e=q->P6 E (B7j st q c++ctx):=fun q hq t b hm=>by
  rcases rA.1 hm with hm|hm
  . cases c with
    |tmp tc=>exact h.gctx (by rw[<-hq];exact a0) t b hm
    |const _=>cases hm
    |global _=>cases hm
    |func _=>cases hm
  . exact hc t b hm
 have h3:=A9m (w:=w) (Z:=Z) (B:=B) (v1:=Gw.ev E a) (v2:=Gw.ev E b) hr (fun q=>(gG (h.ev (u true q) a1).1 (h.ev (u true q) a1).2 a3).1) (fun q=>(gG (h.ev (u false q) a2).1 (h.ev (u false q) a2).2 a4).1);exact Ig (fun w' _=>B8h a0) h3.1 (h3.2 _)
def B0q (h:B7 za w0 st E w Z B) (hc:P6 E ctx) {op:UnOp} {T:TypeId} {x:Operand} (ho:B0p st ctx op x=some (φ,d)):Xx cx.P st E w Z B ty (.unOp op T x) d:=by
 simp only[B0p,qH,bind_some,qK]at ho;obtain⟨c,⟨s,hs,u⟩,r,hr,a0⟩:=ho;cases a0;exact C1s (h.c1 hc (bind_some.2 ⟨s,hs,u⟩)).1 hr
def C1v {P:Program} {T T' ty:TypeId} {x y:Operand} {a:Ty} {u v:a.den} (hT:DJ P T true a=true) (hx:Az true a w Z (Gw.ev E x) u) (hy:Az true a w Z (Gw.ev E y) v) (w':World):Gw.E4 P E ty (.binOp .eql T x y T') w' (.bool (EN a u v)) w'/\Gw.E4 P E ty (.binOp .neq T x y T') w' (.bool (!(EN a u v))) w':=by
 have hr:=ZT hT hx hy w';have a0:P.eqGuardType P.depth T=false:=by simp only[DJ,qC,rQ]at hT;exact hT.1.2
 obtain⟨cs,ex,_⟩:=hx;obtain⟨cs',ey,_⟩:=hy;rw[ex,ey]at hr;refine⟨fun _ _ _ _=> ?_,fun _ _ _ _=> ?_⟩
 . have hg:(eqGuard .eql T x y (.agg cs.toArray) (.agg cs'.toArray)).run P w'= .ok () w':=run_eqGuard_agg w' _ _ _ _ _ _ a0;simp only[execOp,ex,ey];simp[hg,run_eql_struct,hr,Result.andThen]
 . have hg:(eqGuard .neq T x y (.agg cs.toArray) (.agg cs'.toArray)).run P w'= .ok () w':=run_eqGuard_agg w' _ _ _ _ _ _ a0;simp only[execOp,ex,ey];simp[hg,run_neq_struct,hr,Result.andThen]
def A1m (h:B7 za w0 st E w Z B) (hty:H1 cx.P cx.tys=true) (hc:P6 E ctx) {op:BinOp} {T T':TypeId} {x y:Operand} (ho:mB cx st ctx op T x y=some (φ,d)) (a7:OA φ):Xx cx.P st E w Z B ty (.binOp op T x y T') d:=by
 simp only[mB,qH,bind_some]at ho;obtain⟨sx,a2,sy,a3,ho⟩:=ho;obtain⟨hx,rx⟩:=h.ev hc a2;obtain⟨hy,ry⟩:=h.ev hc a3;split at ho
 . rename_i a b ha hb;have a5:=(gG hx rx ha).1;have a6:=(gG hy ry hb).1;cases hg:dA a&& !(isB cx.P T)with
   |true=>simp[hg]at ho
   |false=>
    simp only[hg,rF,qK]at ho;obtain⟨r,hr,a1⟩:=ho;cases a1;have hT:isB cx.P T=true\/∀e,a≠ .val .bool e:=by
     cases a0:isB cx.P T with
     |true=>exact .inl rfl
     |false=>
      right;intro e u;subst u;simp[dA,a0]at hg
    obtain⟨v,h1,h2,h3⟩:=B1n (P:=cx.P) (ty:=ty) (T':=T') hr a7 a5 a6 hT;exact Ig (fun w' _=>h1 w') h2 (h3 _)
 . simp only[bind_some]at ho;obtain⟨ti,a4,a,ha,b,hb,ho⟩:=ho;obtain⟨u,ho⟩:(ti.eq&&ti.agg)=true/\ _:=by
    cases hh:(ti.eq&&ti.agg)with
    |false=>simp[hh]at ho
    |true=>simp only[hh,qQ]at ho;exact⟨rfl,ho⟩
   simp only[qC]at u;have h3:=B4i (B8 hty a4) u.1;rw[u.2]at h3;have h4:=fun w'=>C1v (P:=cx.P) (ty:=ty) (T':=T') h3 (Eg hx ha) (Eg hy hb) w'
   split at ho
   . cases ho;exact Ig (fun w' _=>(h4 w').1) rfl trivial
   . cases ho;exact Ig (fun w' _=>(h4 w').2) rfl trivial
   . cases ho
def cN (h:B7 za w0 st E w Z B) {x:Operand} {i:Nat} (ho:LK st x i=some (φ,d)):Xx cx.P st E w Z B ty (.extract x i) d:=by
 unfold LK at ho;split at ho
 . rename_i t;split at ho
   . rename_i vs hd;simp only[qK]at ho;obtain⟨s,hs,u⟩:=ho;cases u;obtain⟨us,e,h1,h2⟩:=h.tup hd;obtain⟨v,h3,h4⟩:=Qz.get h1 hs;exact⟨v,fun w' _=>A4k (vs:=us.toArray) e (by simpa using h3),fun _=>h4,h2 s (sU hs)⟩
   . cases ho
 . cases ho
def SX (h:B7 za w0 st E w Z B) (hty:H1 cx.P cx.tys=true) (hc:P6 E ctx) {T:TypeId} {x:Operand} {f:Nat} (ho:Yq cx st ctx T x f=some (φ,d)):Xx cx.P st E w Z B ty (.fieldAddr T x f) d:=by
 simp only[Yq,qH,bind_some,qK]at ho;obtain⟨ti,a1,q,hq,c,⟨s,hs,u⟩,r,hr,a0⟩:=ho;cases a0;have h1:=AD (B8 hty a1) (Ja hq);have h2:=Ud h1.1 hq;rw[sG]at h2;have h3:=h.c1 hc (bind_some.2 ⟨s,hs,u⟩);exact B9c h2.1 h3.1 h3.2 hr
def mN (h:B7 za w0 st E w Z B) (hty:H1 cx.P cx.tys=true) (hc:P6 E ctx) {T:TypeId} {x:Operand} {f:Nat} (ho:cO cx st ctx T x f=some (φ,d)):Xx cx.P st E w Z B ty (.field T x f) d:=by
 simp only[cO,qH,bind_some]at ho;obtain⟨ti,a7,q,hq,s,hs,ho⟩:=ho;obtain⟨h1,h2⟩:=h.ev hc hs;have h3:=AD (B8 hty a7) (Ja hq);have h4:=Ud h3.1 hq;rw[sG]at h4;obtain⟨sa,cs⟩:=s;cases sa with
 |false=>simp at ho
 |true=>
  simp only[qQ,qK]at ho;obtain⟨cs',a2,a3⟩:=ho;cases a3;obtain⟨vs,e,a8⟩:=h1;obtain⟨h5,h6,h7⟩:=SK a8 a2;obtain⟨a0,u⟩:=h4;unfold LM at a0;unfold mL at u;split at a0
  . rename_i fs hu;simp only[hu]at u;split at a0
    . rename_i fd a1;simp only[a1]at u;simp only[qC,g1c]at a0;obtain⟨off,sz,agg⟩:=q;simp only at a0 u h5 h6;obtain⟨a5,_⟩:=a0;subst a5;cases agg with
      |true=>
       simp only[qQ]at u;refine⟨.agg ((vs.drop fd.offset).take sz).toArray,fun w' _ _ _ _ _=> ?_,fun _=>⟨_,rfl,h5⟩,fun c hc=>h2 c (h7 c hc)⟩;obtain⟨g1,g2⟩:=Qd (P:=cx.P) (w:=w') u;simp only[execOp,e];simp[Instr.field,run_underlying hu,a1,asAgg,part,g1,g2,go_sem]
      |false=>
       simp only[rF,qC]at u;have a6:=qD u.2;subst a6
       match hw:(vs.drop fd.offset).take 1,h5,h6 with
       | [v],h5,_=>
        have a4:vs[fd.offset]? =some v:=by
         have:((vs.drop fd.offset).take 1)[0]? =some v:=by rw[hw];rfl
         simpa using this
        refine⟨v,fun w' _ _ _ _ _=> ?_,fun _=>h5,fun c hc=>h2 c (h7 c hc)⟩;have g1:=Ij (P:=cx.P) (w:=w') u.1;simp only[execOp,e];simp[Instr.field,run_underlying hu,a1,asAgg,part,g1,a4,go_sem]
    . cases a0
  . cases a0
def A2t (h:B7 za w0 st E w Z B) (hty:H1 cx.P cx.tys=true) (hc:P6 E ctx) {T:TypeId} {x:Operand} (ho:nB cx st ctx T x=some (φ,d)):Xx cx.P st E w Z B ty (.load T x) d:=by
 simp only[nB,qH,bind_some,qK]at ho;obtain⟨ti,a2,c,⟨s,hs,a0⟩,r,hr,a1⟩:=ho;cases a1;obtain⟨h1,u,_⟩:=O1 (B8 hty a2);refine B2p h (h.c1 hc (bind_some.2 ⟨s,hs,a0⟩)).1 hr ?_;rcases u with⟨ha,u⟩ | ⟨ha,u,h3⟩
 . exact .inl ⟨ha,u⟩
 . exact .inr ⟨ha,u,h3⟩
def B2e (h:B7 za w0 st E w Z B) (hty:H1 cx.P cx.tys=true) (hc:P6 E ctx) {T:TypeId} {x ix:Operand} (ho:B6o cx st ctx T x ix=some (φ,d)) (a1:OA φ):Xx cx.P st E w Z B ty (.indexAddr T x ix) d:=by
 simp only[B6o,qH,bind_some]at ho;obtain⟨ti,a0,c,⟨s,hs,a2⟩,i,⟨si,a4,a3⟩,r,hr,ho⟩:=ho;have h1:=h.c1 hc (bind_some.2 ⟨s,hs,a2⟩);obtain⟨k,h2,_⟩:=h.int hc (bind_some.2 ⟨si,a4,a3⟩);obtain⟨ψ,c'⟩:=r;simp only at ho;split at ho
 . rename_i t t' y off hT;cases u:decide (t=t')with
   |false=>simp[u]at ho
   |true=>
    simp only[u,qQ]at ho;cases ho;have:=qA u;subst this;have h3:=CU (B8 hty a0) hT;refine A7l h h1.1 h2 hr a1 (e:=ti.elem) (fun s hh=> ?_) h1.2;rcases hh with⟨t2,y2,e1,e2⟩ | ⟨_,_,e1⟩
    . cases e1;subst e2;exact h3.1
    . cases e1
 . rename_i t k' sz j off hT;cases u:Nat.beq t.size sz with
   |false=>simp[u]at ho
   |true=>
    simp only[u,qQ]at ho;cases ho;have:=qD u;have h3:=CU (B8 hty a0) hT;refine A7l h h1.1 h2 hr a1 (e:=ti.elem) (fun s hh=> ?_) h1.2;rcases hh with⟨t2,y2,e1,e2⟩ | ⟨_,_,e1⟩
    . cases e1
    . cases e1;rw[<-this];exact h3.1
 . cases ho
def fB {P:Program} {T e ty:TypeId} {x ix:Operand} {kd:IntKind} {i:Int} {b o n sz:Nat} (hx:Gw.ev E x= .pointer (some ⟨b,o,none⟩)) (hi:Gw.ev E ix= .int kd i) (hu:P.underlying T=some (.array n e)) (hz:Sv P e sz=true) (u:0<=i) (h1:i<(n:Int)) (w:World):
 Gw.E4 P E ty (.indexAddr T x ix) w (.pointer (some ⟨b,o+i.toNat*sz,none⟩)) w:=fun _ _ _ _=>by
 have h3:=Gw.Fe (P:=P) (w:=w) hz;simp[execOp,hx,hi,Instr.indexAt,asIntOf,run_underlying hu,Instr.sureAddr,u,h1,h3,go_sem,J7]
def C4.selA {u:Ty} :∀ {n:Nat} {ec:List Value} {x:(A5e u n).den} {i:Int},0<=i->i<(n:Int)->C4 (A5e u n) w Z ec x->C4 u w Z ((ec.drop (i.toNat*u.size)).take u.size) (Vc.selA u n x i)
 |0,_,_,i,h0,h1,_=>by omega
 |1,ec,x,i,h0,h1,h=>by
  have:i.toNat=0:=by omega
  rw[this,yA,tX,qV (by rw[C4.length h];exact rB _)];exact h
 |n+2,ec,x,i,h0,h1,⟨c1,c2,e,g1,g2⟩=>by
  subst e;have hl:=C4.length g1;simp only[Vc.selA];by_cases hi:i=0
  . subst hi;simp only[g3f,K8,qQ];rw[show(0:Int).toNat=0 from rfl,yA,tX, <-hl,g2v];exact g1
  . simp only[hi,g0o,K8,rF];have:=C4.selA (i:=i-1) (by omega) (by omega) g2;have e2:i.toNat*u.size=c1.length+(i-1).toNat*u.size:=by
     rw[hl,show i.toNat=(i-1).toNat+1 from by omega,uL,vY]
    rw[e2, <-vR,g2t];exact this
def A7k (h:B7 za w0 st E w Z B) (hty:H1 cx.P cx.tys=true) (hc:P6 E ctx) {T:TypeId} {x ix:Operand} (ho:A7j cx st ctx T x ix=some (φ,d)) (a1:OA φ):Xx cx.P st E w Z B ty (.indexAddr T x ix) d:=by
 unfold A7j at ho;split at ho
 . rename_i ti a8;cases ha:Nat.beq ti.arr 0 with
   |true=>
    simp only[ha,qQ]at ho;split at ho
    . rename_i r hr;cases ho;simp only[B9o,qH,bind_some]at hr;obtain⟨_,_,c,_,hr⟩:=hr;split at hr
      . cases hr;exact a1.elim
      . cases hr
    . exact B2e h hty hc ho a1
   |false=>
    simp only[ha,rF]at ho;cases a7:pS ix with
    |false=>
     simp only[a7,rF,B9p,qH,bind_some]at ho;obtain⟨te,a6,c,⟨s,hs,a3⟩,i,⟨si,a5,a4⟩,ho⟩:=ho;have h1:=h.c1 hc (bind_some.2 ⟨s,hs,a3⟩);obtain⟨k,h2,_⟩:=h.int hc (bind_some.2 ⟨si,a5,a4⟩);have u:=VS (B8 hty a8) ha;have a0:=(O1 (B8 hty a6)).1;split at ho
     . rename_i t y;split at ho
       . rename_i hh;subst hh;cases ho;obtain⟨g0,g1⟩:=a1;obtain⟨b,o,ec,e,hz,a2,hx⟩:=h1.1;exact Ig (fun w' _=>fB e h2 u a0 g0 g1 w') ⟨b,o+0+i.toNat*te.ty.size,_,rfl,hz,R9 a2 _ te.ty.size,hx.selA g0 g1⟩ trivial
       . cases ho
     . cases ho
    |true=>
    simp only[a7,qQ]at ho;simp only[B9n,qH,bind_some,qK]at ho;obtain⟨te,a6,c,⟨s,hs,a3⟩,i,⟨si,a5,a4⟩,c',hc',ho⟩:=ho;cases ho;have h1:=h.c1 hc (bind_some.2 ⟨s,hs,a3⟩);obtain⟨k,h2,_⟩:=h.int hc (bind_some.2 ⟨si,a5,a4⟩);have u:=VS (B8 hty a8) ha;have a0:=(O1 (B8 hty a6)).1;obtain⟨g0,g1⟩:=a1;have hx:=h1.1;have hr:=h1.2;unfold faC at hc';split at hc'<;>cases hc'
    . obtain⟨b,e,hv⟩:=hx;exact Ig (fun w' _=>fB hv h2 u a0 g0 g1 w') ⟨b,e,rfl⟩ hr
    . obtain⟨b,m,a9,e,hi,hv⟩:=hx;exact Ig (fun w' _=>fB hv h2 u a0 g0 g1 w') ⟨b,m,a9,e,hi,by rw[uH]⟩ hr
    . obtain⟨b,o,ec,e,hz,a2,hx⟩:=hx;exact Ig (fun w' _=>fB e h2 u a0 g0 g1 w') ⟨b,o,ec,by rw[uH],hz,a2,hx⟩ hr
 . cases ho
def A8t (h:B7 za w0 st E w Z B) (hc:P6 E ctx) {x:Operand} (ho:A8s st ctx x=some (φ,d)):Xx cx.P st E w Z B ty (.nilCheck x) d:=by
 simp only[A8s,qH,bind_some]at ho;obtain⟨c,⟨s,hs,a0⟩,ho⟩:=ho;have h1:=h.c1 hc (bind_some.2 ⟨s,hs,a0⟩);cases hn:B9x c with
 |false=>simp only[hn,rF]at ho;cases ho
 |true=>
  simp only[hn,qQ]at ho;cases ho;have hx:=h1.1;refine Ig (v:=Gw.ev E x) (fun w' _ _ _ _ _=> ?_) hx h1.2;cases c with
  |box k off=>obtain⟨b,e,u⟩:=hx;simp[execOp,u]
  |elp k sz i off=>obtain⟨b,m,a1,e,hi,u⟩:=hx;simp[execOp,u]
  |pf t y off=>obtain⟨b,o,ec,e,_⟩:=hx;simp[execOp,e]
  |fn f caps=>have u:Gw.ev E x= _:=hx;simp[execOp,u]
  |fv _ _ _ _ _ _=>obtain⟨g,caps,u,_⟩:=hx;simp[execOp,u]
  | _=>cases hn
def QN (h:B7 za w0 st E w Z B) (u:P6 E ctx) {o:Option Operand} {i:Option Int} (hi:B2x st ctx o=some i):A4x E o i:=by
 unfold B2x at hi;cases o with
 |none=>cases hi;rfl
 |some o=>
  simp only[qK]at hi;obtain⟨j,hj,rfl⟩:=hi;obtain⟨k,h1,_⟩:=h.int u hj;exact⟨k,j,rfl,h1⟩
def oF (h:B7 za w0 st E w Z B) (hty:H1 cx.P cx.tys=true) (hc:P6 E ctx) {T:TypeId} {x:Operand} {lo hi:Option Operand} (ho:eP cx st ctx T x lo hi=some (φ,d)) (a2:OA φ):Xx cx.P st E w Z B ty (.slice T x lo hi none) d:=by
 simp only[eP,qH,bind_some]at ho;obtain⟨ti,a1,c,⟨s,hs,a3⟩,l,hl,hh,a0,r,hr,ho⟩:=ho;have h1:=h.c1 hc (bind_some.2 ⟨s,hs,a3⟩);obtain⟨ψ,c'⟩:=r;simp only at ho;split at ho
 . rename_i t t' y hT;cases u:decide (t=t')with
   |false=>simp[u]at ho
   |true=>
    simp only[u,qQ]at ho;cases ho;have:=qA u;subst this;have h3:=CU (B8 hty a1) hT;refine kG h (e:=ti.elem) h1.1 hr h1.2 a2 (QN h hc hl) (QN h hc a0) (fun s hs=> ?_);rcases hs with⟨t2,y2,e2,rfl⟩ | ⟨_,_,_,e2⟩
    . cases e2;exact h3.1
    . cases e2
 . rename_i t k sz a5 a4 hT;cases u:Nat.beq t.size sz with
   |false=>simp[u]at ho
   |true=>
    simp only[u,qQ]at ho;cases ho;have:=qD u;subst this;have h3:=CU (B8 hty a1) hT;refine kG h (e:=ti.elem) h1.1 hr h1.2 a2 (QN h hc hl) (QN h hc a0) (fun s hs=> ?_);rcases hs with⟨t2,y2,e2,rfl⟩ | ⟨_,_,_,e2⟩
    . cases e2
    . cases e2;exact h3.1
 . cases ho
def A1z (h:B7 za w0 st E w Z B) (hty:H1 cx.P cx.tys=true) (hc:P6 E ctx) {T T':TypeId} {x:Operand} (ho:mH cx st ctx T T' x=some (φ,d)):Xx cx.P st E w Z B ty (.convert T T' x) d:=by
 simp only[mH,qH,bind_some]at ho;obtain⟨ti,a2,a4,u,c,⟨s,hs,a1⟩,ho⟩:=ho;have h1:=h.c1 hc (bind_some.2 ⟨s,hs,a1⟩);split at ho
 . rename_i k k' a3 a hT a0;cases ho;exact B1s h1.1 ⟨_,ZQ (kP (B8 hty a2) hT)⟩ (kP (B8 hty u) a0)
 . cases ho
def mD (h:B7 za w0 st E w Z B) (hty:H1 cx.P cx.tys=true) (hc:P6 E ctx) {T:TypeId} {u:List (Nat×Operand)} (ho:bZ cx st ctx T u=some (φ,d)):Xx cx.P st E w Z B ty (.build T u.toArray) d:=by
 simp only[bZ,qH,bind_some]at ho;obtain⟨ti,a3,l,hl,ho⟩:=ho;have h1:=B8 hty a3;cases he:ti.fields.isEmpty with
 |true=>
  simp only[he,qQ,bind_some]at ho;obtain⟨te,a2,ho⟩:=ho;cases ha:Nat.beq ti.arr 0 with
  |true=>simp[ha]at ho
  |false=>
   simp only[ha,rF,qK]at ho;obtain⟨cs,a0,a1⟩:=ho;cases a1;exact cA h hc (O1 h1).2.2 (VS h1 ha) (O1 (B8 hty a2)).1 hl a0
 |false=>
  simp only[he,rF,qK]at ho;obtain⟨cs,a0,a1⟩:=ho;cases a1;exact A5t h hc (O1 h1).2.2 (AD h1 he).2 hl a0
def iU (h:B7 za w0 st E w Z B) (hty:H1 cx.P cx.tys=true) (hc:P6 E ctx) {T:TypeId} {x ix:Operand} (ho:TF cx st ctx T x ix=some (φ,d)) (u:OA φ):Xx cx.P st E w Z B ty (.index T x ix) d:=by unfold TF at ho;cases ho
def B0o {P:Program} {T:TypeId} {ti:TI} (h:Vj P T ti=true) (u:ti.ty= .str):P.underlying T=some .string:=by
 unfold Vj at h;simp only[qC]at h;have h1:=h.1.1.1.2;rw[u]at h1;simp only at h1;split at h1
 . assumption
 . cases h1
def kV {P:Program} {E:Gw.F8} {w:World} {ty T:TypeId} {x ix:Operand} {s:ByteArray} {kd:IntKind} {i:Int} (hx:Gw.ev E x= .string s) (hi:Gw.ev E ix= .int kd i) (hT:P.underlying T=some .string) (h0:0<=i) (h1:i<(s.data.toList.length:Int)):Gw.E4 P E ty (.index T x ix) w (.int .u8 (FP s i)) w:=fun _ _ _ _=>by
 have u:i.toNat<s.data.size:=by rw[<-sR];omega
 have hg:s[i.toNat]? =some s.data[i.toNat]:=by
  have:s[i.toNat]? =s.data[i.toNat]?:=by
   rw[getElem?_def,getElem?_def];rfl
  rw[this,tZ u]
 have hb:FP s i=(s.data[i.toNat].toNat:Int):=by
  unfold FP;rw[qF,wF,tZ u];rfl
 simp[execOp,hx,hi,Instr.index,asIntOf,run_underlying hT,h0,hg,hb,go_sem]
def iV (h:B7 za w0 st E w Z B) (hc:P6 E ctx) {P:Program} {T:TypeId} {x ix:Operand} (hT:P.underlying T=some .string) (ho:TG st ctx x ix=some (φ,d)) (u:OA φ):Xx P st E w Z B ty (.index T x ix) d:=by
 simp only[TG,qH,bind_some]at ho;obtain⟨c,⟨sv,a4,a0⟩,i,⟨si,a3,a1⟩,ho⟩:=ho;obtain⟨k0,a2,_⟩:=h.int hc (bind_some.2 ⟨si,a3,a1⟩);split at ho
 . rename_i s;cases ho;have a5:=(h.c1 hc (bind_some.2 ⟨sv,a4,a0⟩)).1;have hx:Gw.ev E x= .string s:=(List.cons.inj (show [Gw.ev E x]= [.string s]from a5)).1;exact Ig (fun w' _=>kV hx a2 hT u.1 u.2) ⟨rfl,by
    have:=(s.data.toList.getD i.toNat 0).toNat_lt;unfold FP;constructor
    . exact qE _
    . show _ <=(255:Int);omega⟩ trivial
 . cases ho
def mQ (h:B7 za w0 st E w Z B) (hty:H1 cx.P cx.tys=true) (hc:P6 E ctx) {T:TypeId} {x ix:Operand} (ho:cW cx st ctx T x ix=some (φ,d)) (a0:OA φ):Xx cx.P st E w Z B ty (.index T x ix) d:=by
 unfold cW at ho;split at ho
 . rename_i hs;cases u:cx.ti T with
   |none=>rw[u]at hs;cases hs
   |some ti=>
    rw[u]at hs;exact iV h hc (B0o (B8 hty u) (xJ hs)) ho a0
 . exact iU h hty hc ho a0
def A0b (h:B7 za w0 st E w Z B) {ka va:Bool} {kt vt:Ty} {c:C} {v:Value} {es:List (kt.den×vt.den)} (hc:RC w Z B c v) (u:B2q st ka kt va vt c=some es):
 (v= .map none/\es= [])\/∃b ents cl,v= .map (some b)/\b<w.heap.size/\w.heap[b]? =some (.map ents cl)/\Ra w Z ka kt va vt ents.toList es:=by
 unfold B2q at u;split at u
 . rename_i k;split at u
   . rename_i a1 a2 a3 a4 a0 hk;split at u
     . rename_i hh;have h1:=h.locs k;rw[hk]at h1;obtain⟨b,ents,cl,e,_,_,hb,_,he⟩:=h1;cases hh;cases u;exact .inr ⟨b,ents,cl,(show v= _ from hc).trans e,(rU.1 hb).1,hb,he⟩
     . cases u
   . rename_i a1 a2 a3 a4 a0 j q hk;split at u
     . rename_i hh;have h1:=h.locs k;rw[hk]at h1;obtain⟨b,ents,cl,e,_,_,hb,⟨_,he⟩,_⟩:=h1;cases hh;cases u;exact .inr ⟨b,ents,cl,(show v= _ from hc).trans e,(rU.1 hb).1,hb,he⟩
     . cases u
   . cases u
 . rename_i t a0;split at u
   . rename_i hh;subst hh;cases u;rcases hc with⟨e,hn⟩ | ⟨b,ents,cl,e,hb,hh,_,he⟩
     . simp only[sL,vM]at e;exact .inl ⟨e,hn⟩
     . simp only[sL,vM]at e;exact .inr ⟨b,ents,cl,e,h.zlt b hb,hh,he⟩
   . cases u
 . cases u;exact .inl ⟨hc.1,rfl⟩
 . cases u
def BY {κ:Ty} {ν:Type} {Rk:Value->κ.den->Prop} {Rv:Value->ν->Prop} {k:κ.den} :∀ {l:List (κ.den×ν)} {es:List MapEntry} {i:Nat},R4 Rk Rv es l->(N1 κ k l i=none/\K5 κ k l=none)\/∃j e y,N1 κ k l i=some (i+j)/\es[j]? =some e/\K5 κ k l=some y/\Rv e.val y/\Rk e.key ((l[j]?).map (·.1) |>.getD k)/\EN κ k ((l[j]?).map (·.1) |>.getD k)=true
 | [],_,_,_=> .inl ⟨rfl,rfl⟩
 |x::l,_,i,⟨e,a0,he,h1,h2,h3⟩=>by
  subst he;simp only[N1,K5];cases hb:EN κ k x.1 with
  |true=>exact .inr ⟨0,e,x.2,rfl,rfl,rfl,h2,h1,hb⟩
  |false=>
   rcases BY (i:=i+1) h3 with⟨u,g2⟩ | ⟨j,e',y,u,g2,g3,g4,g5⟩
   . exact .inl ⟨u,g2⟩
   . exact .inr ⟨j+1,e',y,by rw[rF,u,uH,vY 1 j],by simpa using g2,g3,g4,by simpa using g5⟩
def kW {P:Program} {T:TypeId} {z:Value} (h:He P T=some z) (w':World):(zeroValue T).run P w'= .ok z w':=by
 unfold He at h;cases hi:P.info? T with
 |none=>simp[hi]at h
 |some i=>simp only[hi,vW]at h;simp[zeroValue,typeInfo,hi,h]
def jC (h:B7 za w0 st E w Z B) (hty:H1 cx.P cx.tys=true) (hc:P6 E ctx) {T:TypeId} {x ix:Operand} {ck:Bool} (ho:TP cx st ctx T x ix ck=some (φ,d)) (aa:OA φ):Xx cx.P st E w Z B ty (.lookup T x ix ck) d:=by
 simp only[TP,qH,bind_some]at ho;obtain⟨ti,ai,c,⟨s,hs,ae⟩,sk,ah,ho⟩:=ho;have h1:=h.c1 hc (bind_some.2 ⟨s,hs,ae⟩);obtain⟨h2,_⟩:=h.ev hc ah;split at ho
 . rename_i ka kt va vt hT;simp only[bind_some]at ho;obtain⟨es,af,k,hk,ho⟩:=ho;have a3:(∃t,vt= .sl t/\ck=false/\va=false/\φ=some (K5 kt k es=none)/\d=one1 (.raw (.slice none 0 0)))\/(Rp vt=true/\some (φ,d)=some ((none:Option Prop),bif ck then DV.tup [⟨va,explode vt ((K5 kt k es).getD vt.dflt)⟩,⟨false,[.val .bool (K5 kt k es).isSome]⟩]else .one ⟨va,explode vt ((K5 kt k es).getD vt.dflt)⟩)):=by
    cases hb:ti.rows&&B9s c&&B6q vt&& !ck&& !va with
    |true=>
     simp only[hb,qQ]at ho;cases ho;simp only[qC,rQ]at hb;cases vt<;>simp[B6q]at hb;exact .inl ⟨_,rfl,hb.1.2,hb.2,rfl,rfl⟩
    |false=>
     simp only[hb,rF]at ho;cases hh:Rp vt with
     |false=>simp[hh]at ho
     |true=>simp only[hh,qQ]at ho;exact .inr ⟨rfl,ho.symm⟩
   have ag:Rp vt=true:=by
    rcases a3 with⟨t,rfl,_⟩ | ⟨h,_⟩
    . rfl
    . exact h
   obtain⟨hu,a2,hz,a1⟩:=Vk (B8 hty ai) hT;have a0:=Eg h2 hk;obtain⟨z,a6,a7⟩:=Fs hz;have ac:Az va vt w Z z vt.dflt:=by
    have a9:=KN (w:=w) (Z:=Z) ag;rw[<-a7]at a9;unfold KM at a1;rw[a6]at a1;cases z with
    |agg cs=>cases va<;>simp at a1;exact⟨cs.toList,by simp,a9⟩
    |tuple _=>simp at a1
    | _=>cases va<;>simp at a1<;>exact a9
   have ad:∃u ok,(∀w',R5 w w'->(Instr.lookup T (Gw.ev E x) (Gw.ev E ix) ck).run cx.P w'= .ok (if ck then .tuple #[u, .bool ok]else u) w')/\Az va vt w Z u ((K5 kt k es).getD vt.dflt)/\ok=(K5 kt k es).isSome/\(ok=false->u=z):=by
    rcases A0b h h1.1 af with⟨e,hn⟩ | ⟨b,ents,cl,e,ab,hb,he⟩
    . refine⟨z,false,fun w' _=> ?_,by rw[hn];exact ac,by rw[hn];rfl,fun _=>rfl⟩;have a4:=fun em=>Rl a2 a0 w' em
      have a5:=Yy (Rv:=fun _ (_:vt.den)=>True) a2 a0 w' (l:= []) (es:= []) rfl;unfold Instr.lookup;simp only[Sem.run_bind,run_underlying hu,Result.andThen_ok,e,Sem.run_pure,a4,a5,N1,g1u,kW a6]
    . rcases BY (k:=k) (i:=0) he with⟨g1,g2⟩ | ⟨j,en,y,g1,g2,g3,g4,_⟩
      . refine⟨z,false,fun w' hx=> ?_,by rw[g2];exact ac,by rw[g2];rfl,fun _=>rfl⟩;have a4:=fun em=>Rl a2 a0 w' em
        have a5:=Yy a2 a0 w' he;have a8:(getObj b).run cx.P w'= .ok (.map ents cl) w':=by simp[getObj,Sem.run,hx.block b ab,hb]
        unfold Instr.lookup;simp only[Sem.run_bind,run_underlying hu,Result.andThen_ok,e,Sem.run_pure,a8,a4,a5,g1,g1u,kW a6]
      . refine⟨en.val,true,fun w' hx=> ?_,by rw[g3];exact g4,by rw[g3];rfl,fun hh=>(by cases hh)⟩;have a4:=fun em=>Rl a2 a0 w' em
        have a5:=Yy a2 a0 w' he;have a8:(getObj b).run cx.P w'= .ok (.map ents cl) w':=by simp[getObj,Sem.run,hx.block b ab,hb]
        rw[sG]at g1;unfold Instr.lookup;simp only[Sem.run_bind,run_underlying hu,Result.andThen_ok,e,Sem.run_pure,a8,a4,a5,g1,vW,g2,vT]
   obtain⟨u,ok,h3,h4,h5,h6⟩:=ad;rcases a3 with⟨t,rfl,rfl,rfl,rfl,rfl⟩ | ⟨_,ho⟩
   . have aa:K5 kt k es=none:=aa;have aj:u= .slice none 0 0:=by
      rw[h6 (by rw[h5,aa];rfl)];unfold KM at a1;rw[a6]at a1;cases z with
      |agg cs=>simp at a1
      |tuple _=>simp at a1
      |slice a n c=>simp[Dg,Value.cells]at a7;obtain⟨rfl,rfl,rfl⟩:=a7;rfl
      | _=>simp[Dg,Value.cells]at a7
     refine⟨u,fun w' hx=>fun _ _ _ _=> ?_,fun E'=> ?_,fun c hc=> ?_⟩
     . have:=h3 w' (hx rfl);simp at this;simp[execOp,this]
     . rw[aj];exact⟨_,[],rfl,⟨rfl,rfl⟩,rfl⟩
     . simp at hc;subst hc;trivial
   cases ck with
   |true=>
    simp only[qQ]at ho;cases ho;refine⟨.tuple #[u, .bool ok],fun w' hx=>fun _ _ _ _=> ?_,fun E'=>⟨[u, .bool ok],rfl,u,_,rfl,Az.explode h4,_,_,rfl,⟨_,[],rfl,by rw[h5];rfl,rfl⟩,rfl⟩,fun s hs=> ?_⟩
    . simp[execOp,h3 w' (hx rfl)]
    . simp at hs;rcases hs with rfl|rfl
      . exact D8
      . intro c hc;simp at hc;subst hc;trivial
   |false=>
    simp only[rF]at ho;cases ho;refine⟨u,fun w' hx=>fun _ _ _ _=> ?_,fun E'=>Az.explode h4,D8⟩;simp[execOp,h3 w' (hx rfl)]
 . cases ho
def A8o (h:B7 za w0 st E w Z B) (hc:P6 E ctx) {fn:Fn} {first caps:List Operand} (ho:A8n st ctx fn first caps=some (φ,d)):Xx cx.P st E w Z B ty (.makeFunc fn first.toArray caps.toArray) d:=by
 unfold A8n at ho;split at ho
 . simp only[qH,bind_some]at ho;obtain⟨ss,a0,ks,u,ho⟩:=ho;cases ho;exact B7a h hc a0 u
 . cases ho
def Ul {k:IntKind} {a b:Int} (u:LQ k a) (hb:LQ k b):LQ k (max a b)/\LQ k (min a b):=by unfold LQ at*;omega
def RC.int {k:IntKind} {a:Int} {v:Value} (h:RC w Z B (.val (.int k) a) v):v= .int k a/\LQ k a:=by
 obtain⟨h1,u⟩:=h;simp only[sL,vM]at h1;exact⟨h1,u⟩
def cB (h:B7 za w0 st E w Z B) (hty:H1 cx.P cx.tys=true) (hc:P6 E ctx) {b:Builtin} {args:List Operand} {ts:List TypeId} (ho:LF cx st ctx b args ts=some (φ,d)):Xx cx.P st E w Z B ty (.call ⟨.builtin b,args.toArray,ts.toArray⟩) d:=by
 unfold LF at ho;split at ho
 . simp only[qH,bind_some]at ho;obtain⟨ti,a4,c,⟨s,hs,a0⟩,n,hn,ho⟩:=ho;have h1:=h.c1 hc (bind_some.2 ⟨s,hs,a0⟩);split at ho
   . cases ho
   . rename_i t hT hm;cases ho;refine B6v h h1.1 hn (CU (B8 hty a4) hT).1 (fun k hk=> ?_);subst hk;exact hm _ rfl
   . cases ho
 . simp only[qH,bind_some]at ho;obtain⟨c,⟨s,hs,a0⟩,c',⟨s',a1,u⟩,ho⟩:=ho;have h1:=h.c1 hc (bind_some.2 ⟨s,hs,a0⟩);have h2:=h.c1 hc (bind_some.2 ⟨s',a1,u⟩);split at ho
   . rename_i k a k' b;cases hd:decide (k=k')with
     |false=>simp[hd]at ho
     |true=>
      simp only[hd,qQ]at ho;cases ho;have:=qA hd;subst this;have g1:=RC.int h1.1;have g2:=RC.int h2.1;exact Ig (fun w' _=>B8e g1.1 g2.1) ⟨rfl,(Ul g1.2 g2.2).1⟩ trivial
   . cases ho
 . simp only[qH,bind_some]at ho;obtain⟨c,⟨s,hs,a0⟩,c',⟨s',a1,u⟩,ho⟩:=ho;have h1:=h.c1 hc (bind_some.2 ⟨s,hs,a0⟩);have h2:=h.c1 hc (bind_some.2 ⟨s',a1,u⟩);split at ho
   . rename_i k a k' b;cases hd:decide (k=k')with
     |false=>simp[hd]at ho
     |true=>
      simp only[hd,qQ]at ho;cases ho;have:=qA hd;subst this;have g1:=RC.int h1.1;have g2:=RC.int h2.1;exact Ig (fun w' _=>B8g g1.1 g2.1) ⟨rfl,(Ul g1.2 g2.2).2⟩ trivial
   . cases ho
 . simp only[qH,bind_some]at ho;obtain⟨c,⟨s,hs,a0⟩,c',⟨s',a1,u⟩,a7,⟨a6,a3,a2⟩,ho⟩:=ho;have h1:=h.c1 hc (bind_some.2 ⟨s,hs,a0⟩);have h2:=h.c1 hc (bind_some.2 ⟨s',a1,u⟩);have h3:=h.c1 hc (bind_some.2 ⟨a6,a3,a2⟩);split at ho
   . rename_i k a k' b a5 c;cases hd:decide (k=k')&&decide (k=a5)with
     |false=>simp only[hd,rF]at ho;cases ho
     |true=>
      simp only[hd,qQ]at ho;cases ho;simp only[qC,rY]at hd;obtain⟨rfl,rfl⟩:=hd;have g1:=RC.int h1.1;have g2:=RC.int h2.1;have g3:=RC.int h3.1;exact Ig (fun w' _=>B8f g1.1 g2.1 g3.1) ⟨rfl,(Ul (Ul g1.2 g2.2).1 g3.2).1⟩ trivial
   . cases ho
 . cases ho
def CO (h:B7 za w0 st E w Z B) (hty:H1 cx.P cx.tys=true) (u:P6 E ctx) {op:Op} (ho:Zs cx st ctx op=some (φ,d)) (a0:OA φ):Xx cx.P st E w Z B ty op d:=by
 unfold Zs at ho;split at ho
 . exact(A0c h u ho).1
 . exact(A0c h u ho).2
 . exact A3e h u ho
 . exact B0q h u ho
 . exact A1m h hty u ho a0
 . exact cN h ho
 . exact SX h hty u ho
 . exact mN h hty u ho
 . exact A2t h hty u ho
 . exact A7k h hty u ho a0
 . exact mQ h hty u ho a0
 . exact jC h hty u ho a0
 . exact oF h hty u ho a0
 . exact A1z h hty u ho
 . rename_i T a1;have:=mD (ty:=ty) h hty u ho;simpa using this
 . exact A8t h u ho
 . have:=A8o (cx:=cx) (ty:=ty) h u ho;simpa using this
 . have:=cB (ty:=ty) h hty u ho;simpa using this
 . cases ho
end
def B0f (sz:Nat) (lo hi:Int):C->C
 | .val (.sl t) l=>bif Nat.beq sz t.size then .val (.sl t) ((l.take hi.toNat).drop lo.toNat)else .dead
 | _=> .dead
def Yu (k:Nat) (c':C):C->C
 | .win j sz lo hi=>bif Nat.beq j k then B0f sz lo hi c' else .win j sz lo hi
 | .row j=>bif Nat.beq j k then c' else .row j
 | .mp j=>bif Nat.beq j k then c' else .mp j
 |c=>c
def cR (k:Nat) (c':C) (s:SV):SV:=⟨s.agg,s.cs.map (Yu k c')⟩
def DI (k:Nat) (c':C):DV->DV
 | .one s=> .one (cR k c' s)
 | .tup ss=> .tup (ss.map (cR k c'))
 | .cnd t b s=> .cnd t b (cR k c' s)
 | .dead=> .dead
def cQ (k:Nat) (c':C):LC->LC
 | .box T cs=> .box T (cs.map (Yu k c'))
 |x=>x
def XN (k:Nat):C->Bool
 | .win j _ _ _=>Nat.beq j k
 | .row j=>Nat.beq j k
 | .mp j=>Nat.beq j k
 | _=>false
def Vu (k:Nat):DV->Bool
 | .one s=>s.cs.any (XN k)
 | .tup ss=>ss.any fun s=>s.cs.any (XN k)
 | .cnd _ _ s=>s.cs.any (XN k)
 | .dead=>false
def TC (k:Nat):LC->Bool
 | .box _ cs=>cs.any (XN k)
 | _=>false
def mapV {α:Type} (p:α->Bool) (f:α->α) (g:Nat):List (Nat×Nat×α)->List (Nat×Nat×α)
 | []=> []
 | (s,x)::l=>(s,bif p x.2 then(g,f x.2)else x)::mapV p f g l
def BZ {α:Type} (p:α->Bool) (f:α->α) (g:Nat) (d:Nat×α) (u:p d.2=false) (q:Nat):∀l:List (Nat×Nat×α),find d q (mapV p f g l)=bif p (find d q l).2 then(g,f (find d q l).2)else find d q l
 | []=>by simp[mapV,find,u]
 | (s,x)::l=>by
  simp only[mapV,find,BZ p f g d u q l];cases Nat.beq s q<;>rfl
def Yw {k:Nat} {c':C} :∀ {cs:List C},cs.any (XN k)=false->cs.map (Yu k c')=cs
 | [],_=>rfl
 |c::cs,h=>by
  simp only[yE,rL]at h;rw[sB,Yw h.2];congr 1;cases c with
  |row j=>simp only[XN]at h;simp only[Yu,h.1,rF]
  |mp j=>simp only[XN]at h;simp only[Yu,h.1,rF]
  |win j _ _ _=>simp only[XN]at h;simp only[Yu,h.1,rF]
  | _=>rfl
def LP {k:Nat} {c':C} {d:DV} (h:Vu k d=false):DI k c' d=d:=by
 cases d with
 |one s=>simp only[DI,cR,Yw h]
 |cnd t b s=>simp only[DI,cR,Yw h]
 |dead=>rfl
 |tup ss=>
  simp only[DI];congr 1;simp only[Vu]at h
  induction ss with
  |nil=>rfl
  |cons s ss u=>
   simp only[yE,rL]at h;rw[sB,u h.2];congr 1;simp only[cR,Yw h.1]
def ZO {k:Nat} {c':C} {l:LC} (h:TC k l=false):cQ k c' l=l:=by
 cases l with
 |box T cs=>simp only[cQ,Yw h]
 | _=>rfl
def St.freeze (st:St) (k:Nat) (c':C):St:=⟨mapV (Vu k) (DI k c') (st.ct+1) st.sl,mapV (TC k) (cQ k c') (st.ct+1) (put k (st.ct+1, .none) st.lc),st.nx,st.ct+1,st.nm,st.fr.map (mapV (Vu k) (DI k c') (st.ct+1))⟩
def St.eS_freeze (st:St) (k:Nat) (c':C) (s:Nat):(st.freeze k c').eS s=bif Vu k (st.S s)then(st.ct+1,DI k c' (st.S s))else st.eS s:=BZ _ _ _ _ rfl _ _
def St.S_freeze (st:St) (k:Nat) (c':C) (s:Nat):(st.freeze k c').S s=DI k c' (st.S s):=by
 show((st.freeze k c').eS s).2= _;rw[St.eS_freeze];cases h:Vu k (st.S s)with
 |true=>rfl
 |false=>exact(LP h).symm
def St.eL_freeze (st:St) (k:Nat) (c':C) (q:Nat):(st.freeze k c').eL q=bif TC k (if q=k then(st.ct+1,LC.none)else st.eL q).2 then(st.ct+1,cQ k c' (if q=k then(st.ct+1,LC.none)else st.eL q).2)else(if q=k then(st.ct+1,LC.none)else st.eL q):=by
 show find (0, .none) q (mapV (TC k) (cQ k c') (st.ct+1) (put k (st.ct+1, .none) st.lc))= _;rw[BZ _ _ _ _ rfl,Yt];rfl
def St.L_freeze (st:St) (k:Nat) (c':C) (q:Nat):(st.freeze k c').L q=cQ k c' (if q=k then .none else st.L q):=by
 show((st.freeze k c').eL q).2= _;rw[St.eL_freeze];have e:(if q=k then(st.ct+1,LC.none)else st.eL q).2=if q=k then LC.none else st.L q:=by split<;>rfl
 rw[e];cases h:TC k (if q=k then LC.none else st.L q)with
 |true=>rfl
 |false=>rw[rF,e];exact(ZO h).symm
def ZN {w:World} {v:Value} {b k:Nat} {c':C} {l:LC} :A9 w v (cQ k c' l) b↔A9 w v l b:=by cases l<;>exact yI
section
variable {za:Zn} {w0 w w':World} {Z:Nat->Prop} {B:Nat->Value} {st:St} {E:F8} {n:Nat}
section frz
variable {k:Nat} {c':C} (hc':∀v,v=B k->RC w Z B c' v) (hr':Cd n c')
include hc' in
theorem B2c {c:C} {v:Value} (h:RC w Z B c v):RC w Z B (Yu k c' c) v:=by
 cases c with
 |row j=>
  simp only[Yu];cases u:Nat.beq j k with
  |true=>have:=qD u;subst this;exact hc' v h
  |false=>exact h
 |mp j=>
  simp only[Yu];cases u:Nat.beq j k with
  |true=>have:=qD u;subst this;exact hc' v h
  |false=>exact h
 |win j sz lo hi=>
  simp only[Yu];cases u:Nat.beq j k with
  |true=>
   have:=qD u;subst this;have h2:=hc' (B j) rfl;simp only[qQ];unfold B0f;split
   . rename_i t l;cases hs:Nat.beq sz t.size with
     |false=>trivial
     |true=>
      have:=qD hs;subst this;obtain⟨a,n,a0,hB,ga,gn,g0,g1,g2,g3,g4,hv⟩:=h;rw[hB]at h2;rw[hv];exact A0r h2 g0 g1 g2
   . trivial
  |false=>exact h
 | _=>exact h
include hr' in
theorem A6u {c:C} (h:Cd n c):Cd n (Yu k c' c):=by
 cases c with
 |row j=>
  simp only[Yu];cases Nat.beq j k with
  |true=>exact hr'
  |false=>exact h
 |mp j=>
  simp only[Yu];cases Nat.beq j k with
  |true=>exact hr'
  |false=>exact h
 |win j sz lo hi=>
  simp only[Yu];cases Nat.beq j k with
  |true=>
   simp only[qQ];unfold B0f;split
   . cases Nat.beq sz _ <;>trivial
   . trivial
  |false=>exact h
 | _=>exact h
include hc' in
theorem IK:∀ {cs:List C} {vs:List Value},Dh w Z B cs vs->Dh w Z B (cs.map (Yu k c')) vs
 | [],_,h=>h
 | _:: _,_,⟨v,u,e,h1,h2⟩=>⟨v,u,e,B2c hc' h1,IK h2⟩
include hr' in
theorem CA {cs:List C} (h:∀c∈cs,Cd n c):∀c∈cs.map (Yu k c'),Cd n c:=fun c hc=>by
 obtain⟨u,h0,rfl⟩:=tC.1 hc;exact A6u hr' (h u h0)
include hc' in
theorem cS:∀ {s:SV} {v:Value},RS w Z B s v->RS w Z B (cR k c' s) v
 | ⟨true,_⟩,_,⟨vs,e,h⟩=>⟨vs,e,IK hc' h⟩
 | ⟨false,_⟩,_,h=>IK hc' h
include hc' in
theorem iK:∀ {ss:List SV} {vs:List Value},Qz w Z B ss vs->Qz w Z B (ss.map (cR k c')) vs
 | [],_,h=>h
 | _:: _,_,⟨v,u,e,h1,h2⟩=>⟨v,u,e,cS hc' h1,iK h2⟩
include hc' in
theorem pN:∀ {d:DV} {v:Value},RD w Z B E d v->RD w Z B E (DI k c' d) v
 | .one _,_,h=>cS hc' h
 | .tup _,_,⟨vs,e,h⟩=>⟨vs,e,iK hc' h⟩
 | .cnd _ _ _,_,h=>h.imp (fun⟨a,b⟩=>⟨a,cS hc' b⟩) id
 | .dead,_,_=>trivial
include hr' in
theorem iJ:∀ {d:DV},Nu n d->Nu n (DI k c' d)
 | .one _,h=>CA hr' h
 | .tup ss,h=>fun s hs=>by
  obtain⟨s0,u,rfl⟩:=tC.1 hs;exact CA hr' (h s0 u)
 | .cnd _ _ _,h=>CA hr' h
 | .dead,_=>trivial
theorem iL (s:Nat) (f:List (Nat×Nat×DV)) (g:Nat):(find (0, .dead) s (mapV (Vu k) (DI k c') g f)).2=DI k c' (find (0, .dead) s f).2:=by
 rw[BZ _ _ _ _ rfl];cases h:Vu k (find (0,DV.dead) s f).2 with
 |true=>rfl
 |false=>exact(LP h).symm
include hc' in
theorem pO {g:Nat} :∀ {es:List F8} {fr:List (List (Nat×Nat×DV))},RF w Z B es fr->RF w Z B es (fr.map (mapV (Vu k) (DI k c') g))
 | [],[],_=>trivial
 | _:: _,_:: _,⟨h1,u⟩=>⟨fun s=>by rw[iL];exact pN hc' (h1 s),pO u⟩
 | [],_:: _,h=>h.elim
 | _:: _,[],h=>h.elim
include hr' in
theorem A6v {g:Nat} {fr:List (List (Nat×Nat×DV))} (h:fK n fr):fK n (fr.map (mapV (Vu k) (DI k c') g)):=fun f hf s=>by
 obtain⟨u,h0,rfl⟩:=tC.1 hf;rw[iL];exact iJ hr' (h u h0 s)
include hr' in
theorem A6w:∀ {d:LC},Ky n d->Ky n (cQ k c' d)
 | .box _ _,h=>CA hr' h
 | .none,_=>trivial
 | .row _ _ _,_=>trivial
 | .map _ _ _ _ _,_=>trivial
 | .rows _ _ _ _ _ _,h=>h
 | .al _,h=>h
 | .sbox _ _ _,h=>h
 | .iter _ _ _ _ _ _,h=>h
 | .mapE _ _ _ _ _ _ _,h=>h
 | .nest _ _ _ _ _ _,h=>h
 | .itM _ _ _ _ _ _ _ _,h=>h
end frz
def Rx {base e sz m:Nat} {v:Value} {xs:List Value} {b a1:Nat} (a0:w.ownsRow base e sz v m xs) (hv:v= .slice (some ⟨b,0,none⟩) m a1):J2 w ⟨b,0,none⟩ xs:=fun j u hj=>by
 subst hv;rcases a0.2 with⟨hh,_⟩ | ⟨g,a3,cur,hh,_,hg,_,_,_,a2⟩
 . cases hh
 . cases hh;rw[J7,sG];simp only[World.cell?,hg];rw[<-a2,wH]at hj;split at hj
   . simpa using hj
   . cases hj
def Bz {t:Ty} {base e:Nat} {v:Value} {l:List t.den} {xs:List Value} (u:w.ownsRow base e t.size v l.length xs) (he:F7 (C4 t w Z) xs l) (hz:∀b,v.ownBlock=some b->Z b):C4 (.sl t) w Z [v] l:=by
 rcases u.2 with⟨hv,hn⟩ | ⟨g,a0,cur,hv,_,hg,hc,hm,_⟩
 . have:l= []:=qO hn;subst this;subst hv;exact⟨none,0,rfl,rB _,rN _,fun _=>rfl, .inl rfl⟩
 . exact⟨some ⟨g,0,none⟩,a0,by rw[hv],hc,hm,fun hh=>(by cases hh), .inr ⟨g,0,xs,rfl,hz g (by rw[hv];rfl),Rx u hv,he⟩⟩
def Yx {t:Ty} {k e e':Nat} {ls:List (List t.den)} {al:List (Nat×Nat)} {ho:Option Nat} {xs:List Value} (h1:w.ownsRow 0 e 1 (B k) ls.length xs) {i b:Nat} {x:Value} (hi:Ju ho i=false) (hx:xs[i]? =some x) (hb:root x=some b):A9 w (B k) (.rows t e e' ls al ho) b:=by
 refine .inr ?_;rcases h1.2 with⟨hv,hn⟩ | ⟨g,u,cur,hv,_,hg,a3,_,a4,a1⟩
 . have:=h1.1;rw[hn]at this;have a2:xs= []:=qO (by omega);rw[a2]at hx;cases hx
 . have a0:i<ls.length:=by have:=(sD.1 hx).1;have h0:=h1.1;omega
   refine⟨g,_,u,cur,e,i,x,hv,hg,a0,hi, ?_,hb⟩;rw[<-a1,rT (by omega)]at hx;simpa using hx
def SO {α:Type} {R:List Value->α->Prop} :∀ {l:List α} {cs:List Value},cs.length=l.length->(∀(i:Nat) (a:α) (x:Value),l[i]? =some a->cs[i]? =some x->R [x] a)->F7 R cs l
 | [],cs,h,_=>qO h
 |a::l,[],h,_=>by simp at h
 |a::l,x::cs,h,hh=>⟨[x],cs,rfl,hh 0 a x rfl rfl,SO (by simpa using h) fun i a x u hx=>hh (i+1) a x (by simpa using u) (by simpa using hx)⟩
def VF {t:Ty} {e e' i b n:Nat} {v x:Value} {ls:List (List t.den)} {al:List (Nat×Nat)} {xs:List Value} (h1:w.ownsRow 0 e 1 v n xs) (hx:xs[i]? =some x) (hb:root x=some b):A9 w v (.rows t e e' ls al none) b:=by
 refine .inr ?_;rcases h1.2 with⟨hv,hn⟩ | ⟨g,u,cur,hv,_,hg,a3,_,a4,a1⟩
 . have:=h1.1;rw[hn]at this;have a2:xs= []:=qO (by omega);rw[a2]at hx;cases hx
 . have a0:i<n:=by have:=(sD.1 hx).1;have h0:=h1.1;omega
   refine⟨g,_,u,cur,e,i,x,hv,hg,a0,rfl, ?_,hb⟩;rw[<-a1,rT (by omega)]at hx;simpa using hx
def aU {Z':Nat->Prop} {t:Ty} {e e':Nat} {v:Value} {ls:List (List t.den)} {al:List (Nat×Nat)} (h:Kg w Z t e e' v ls) (hz:∀b,Z b->Z' b) (hf:∀b,A9 w v (.rows t e e' ls al none) b->Z' b):C4 (.sl (.sl t)) w Z' [v] ls:=by
 obtain⟨xs,h1,h3,h4,h5⟩:=h;refine Bz (t:= .sl t) h1 (SO (by have:=h1.1;omega) fun i l x hl hx=> ?_) (fun b hb=>hf b (.inl ((F3 h1).trans hb)));obtain⟨ys,u,g2⟩:=h3 i l x hl hx;exact Bz u (g2.mono fun _ _=>C4.mono hz (fun _ _=>rfl)) (fun b hb=>hf b (VF h1 hx ((F3 u).trans hb)))
def jZ {U Z':Nat->Prop} {t:Ty} {k e e':Nat} {ls:List (List t.den)} {al:List (Nat×Nat)} (h:RL U w Z B k (.rows t e e' ls al none)) (hz:∀b,Z b->Z' b) (u:∀b,A9 w (B k) (.rows t e e' ls al none) b->Z' b):C4 (.sl (.sl t)) w Z' [B k] ls:=aU h.rowsR hz u
def Kg.wf {t:Ty} {e e':Nat} {v:Value} {ls:List (List t.den)} (h:Kg w Z t e e' v ls):(Ty.sl (Ty.sl t)).wf ls:=C4.wf (aU (al:= []) h (Z':=fun _=>True) (fun _ _=>trivial) (fun _ _=>trivial))
def B7.freeze (h:B7 za w0 st E w Z B) {k:Nat} {c':C} (hn:st.nm<=k) (a1:RC w (fun b=>Z b\/A9 w (B k) (st.L k) b) B c' (B k)) (hr':∀n,Cd n c'):B7 za w0 (st.freeze k c') E w (fun b=>Z b\/A9 w (B k) (st.L k) b) B:=by
 have h1:B7 za w0 (st.setL k .none) E w (fun b=>Z b\/A9 w (B k) (st.L k) b) B:=by
  refine(h.drop k).keep h.ext (rB _) (fun _ _=>rfl) (fun _=> .inl) (fun b hb=> ?_);rcases hb with hb|hb
  . exact .inl hb
  . obtain⟨g1,g2,_⟩:=(h.locs k).root hb;refine .inr ⟨g2, ?_,fun q u=> ?_⟩
    . rcases g1 with g1|g1
      . exact g1.2
      . have:=h.nms.1;omega
    . rw[St.L_setL]at u;by_cases a0:q=k
      . rw[qT a0]at u;exact u.elim
      . rw[qL a0]at u;exact h.disj q k b a0 u hb
 have hc':∀v,v=B k->RC w (fun b=>Z b\/A9 w (B k) (st.L k) b) B c' v:=fun v hv=>by subst hv;exact a1
 refine⟨h1.ext,h1.zlt,fun s=> ?_,fun q=> ?_,fun q q' b a2 l1 l2=> ?_,fun s=> ?_,fun q=> ?_,fun q u=> ?_,h1.bone,h1.zin,h1.nms,h1.bfix,⟨h1.mrk.1,fun q b hk hl=>h1.mrk.2 q b hk (by rw[St.L_freeze,ZN, <-St.L_setL]at hl;exact hl)⟩,pO hc' h1.frs,A6v (hr' _) h1.frf⟩
 . rw[St.S_freeze];exact pN hc' (h1.slots s)
 . rw[St.L_freeze, <-St.L_setL];have:=h1.locs q;cases u:(st.setL k .none).L q with
   |box T cs=>
    rw[u]at this;obtain⟨b,vs,e1,e2,e3,e4,e5⟩:=this;exact⟨b,vs,e1,e2,e3,e4,IK hc' e5⟩
   |none=>trivial
   |row _ _ _=>rw[u]at this;exact this
   |map _ _ _ _ _=>rw[u]at this;exact this
   |rows _ _ _ _ _ _=>rw[u]at this;exact this
   |al _=>trivial
   |sbox _ _ _=>rw[u]at this;exact this
   |iter _ _ _ _ _ _=>rw[u]at this;exact this
   |mapE _ _ _ _ _ _ _=>rw[u]at this;exact this
   |nest _ _ _ _ _ _=>rw[u]at this;exact this
   |itM _ _ _ _ _ _ _ _=>rw[u]at this;exact this
 . rw[St.L_freeze,ZN, <-St.L_setL]at l1 l2;exact h1.disj q q' b a2 l1 l2
 . rw[St.S_freeze];exact iJ (hr' _) (h1.refs s)
 . rw[St.L_freeze, <-St.L_setL];exact A6w (hr' _) (h1.refl q)
 . rw[St.L_freeze, <-St.L_setL,h1.fresh q u];rfl
def dK {ka va:Bool} {kt vt:Ty} {b:Nat} {ents:Array MapEntry} {cl:Nat} {es:List (kt.den×vt.den)} (hb:w.heap[b]? =some (.map ents cl)) (hm:MOk ents cl) (u:Ra w Z ka kt va vt ents.toList es) (hz:Z b):C4 (.mp ka kt va vt) w Z [.map (some b)] es:= .inr ⟨b,ents,cl,rfl,hz,hb,hm,u⟩
def settle:St->List C->St
 |st,[]=>st
 |st, .row k::cs=>match st.L k with
  | .row t _ l=>settle (bif Nat.ble st.nm k then st.freeze k (.val (.sl t) l)else st) cs
  | .rows t _ _ ls _ none=>settle (bif Nat.ble st.nm k then st.freeze k (.val (.sl (.sl t)) ls)else st) cs
  | _=>settle st cs
 |st, .win k _ _ _::cs=>match st.L k with
  | .row t _ l=>settle (bif Nat.ble st.nm k then st.freeze k (.val (.sl t) l)else st) cs
  | _=>settle st cs
 |st, .mp k::cs=>match st.L k with
  | .map ka kt va vt es=>settle (bif Nat.ble st.nm k then st.freeze k (.val (.mp ka kt va vt) es)else st) cs
  | _=>settle st cs
 |st,_::cs=>settle st cs
def B7.settle (h:B7 za w0 st E w Z B):∀cs:List C,∃Z',B7 za w0 (settle st cs) E w Z' B:=by
 intro cs
 induction cs generalizing st Z with
 |nil=>exact⟨Z,h⟩
 |cons c cs ih=>
  cases c with
  |row k=>
   simp only[Vc.settle];cases hk:st.L k with
   |row t e l=>
    cases hn:Nat.ble st.nm k with
    |false=>exact ih h
    |true=>
     have hL:=h.locs k;rw[hk]at hL;obtain⟨xs,u,a0,a2⟩:=hL;have a1:=F3 u;exact ih (h.freeze (qP hn) (Bz u (a0.mono fun _ _=>C4.mono (fun _=> .inl) (fun _ _=>rfl)) (fun b hb=> .inr (by rw[hk];exact a1.trans hb))) (fun _=>trivial))
   |rows t e e' ls al ho=>
    cases ho with
    |some _=>exact ih h
    |none=>
     cases hn:Nat.ble st.nm k with
     |false=>exact ih h
     |true=>
      have hL:=h.locs k;rw[hk]at hL;exact ih (h.freeze (qP hn) (jZ hL (fun _=> .inl) fun b hb=> .inr (by rw[hk];exact hb)) (fun _=>trivial))
   | _=>exact ih h
  |win k _ _ _=>
   simp only[Vc.settle];cases hk:st.L k with
   |row t e l=>
    cases hn:Nat.ble st.nm k with
    |false=>exact ih h
    |true=>
     have hL:=h.locs k;rw[hk]at hL;obtain⟨xs,u,a0,a2⟩:=hL;have a1:=F3 u;exact ih (h.freeze (qP hn) (Bz u (a0.mono fun _ _=>C4.mono (fun _=> .inl) (fun _ _=>rfl)) (fun b hb=> .inr (by rw[hk];exact a1.trans hb))) (fun _=>trivial))
   | _=>exact ih h
  |mp k=>
   simp only[Vc.settle];cases hk:st.L k with
   |map ka kt va vt es=>
    cases hn:Nat.ble st.nm k with
    |false=>exact ih h
    |true=>
     have hL:=h.locs k;rw[hk]at hL;obtain⟨b,ents,cl,e,_,_,hb,hm,he⟩:=hL;exact ih (h.freeze (qP hn) (by rw[e];exact dK hb hm (he.mono (fun _=> .inl) (fun _ _=>rfl)) (.inr (by rw[hk];rfl))) (fun _=>trivial))
   | _=>exact ih h
  | _=>exact ih h
def stillB (cx:Cx) (st:St) (k:Nat):St:=match st.L k with
 | .box T cs=>bif Nat.ble st.nm k then(match cx.ti T with
  |some ti=>match(settle st cs).L k with
   | .box _ cs'=>(match Mg ti.ty cs' with
    |some (x,[])=>((settle st cs).setL k .none).setL k (.sbox k ti.ty x)
    | _=>st)
   | _=>st
  |none=>st)else st
 | _=>st
def B7.stillB (h:B7 za w0 st E w Z B) (cx:Cx) (k:Nat):∃Z',B7 za w0 (stillB cx st k) E w Z' B:=by
 unfold Vc.stillB;split
 . rename_i T cs hk;cases hn:Nat.ble st.nm k with
   |false=>exact⟨Z,h⟩
   |true=>
    simp only[qQ];split
    . rename_i ti a4;obtain⟨Z1,h1⟩:=h.settle cs;split
      . rename_i T' cs' u;split
        . rename_i x hp;have a1:k<(Vc.settle st cs).nx:=by
           by_cases a3:k<(Vc.settle st cs).nx
           . exact a3
           . rw[h1.fresh k (by omega)]at u;cases u
          have hL:=h1.locs k;rw[u]at hL;obtain⟨b,vs,e,g1,g2,g3,g4⟩:=hL;have a2:∀c,A9 w (B k) ((Vc.settle st cs).L k) c↔c=b:=fun c=>by
           rw[u,e];simp only[A9,root,rE];exact eq_comm
          have h2:B7 za w0 ((Vc.settle st cs).setL k .none) E w (fun c=>Z1 c\/A9 w (B k) ((Vc.settle st cs).L k) c) B:=by
           refine(h1.drop k).keep h1.ext (rB _) (fun _ _=>rfl) (fun _=> .inl) (fun c hc=> ?_);rcases hc with hc|hc
           . exact .inl hc
           . obtain⟨q1,q2,_⟩:=(h1.locs k).root hc;refine .inr ⟨q2, ?_,fun q hq=> ?_⟩
             . rcases q1 with q1|q1
               . exact q1.2
               . have n1:=h1.nms.1;have n2:=h.nms.1;have:=qP hn;omega
             . rw[St.L_setL]at hq;by_cases a0:q=k
               . rw[qT a0]at hq;exact hq.elim
               . rw[qL a0]at hq;exact h1.disj q k c a0 hq hc
          have h3:=h2.addL (k:=k) (lc:= .sbox k ti.ty x) a1 ⟨rfl,⟨b,0,vs.toList,by rw[e], .inr ((a2 b).2 rfl),g3.cellsAt,(Gj g4 hp).mono (fun _=> .inl) (fun _ _=>rfl)⟩,b,e⟩ (fun _ _ _ hh=>hh.elim) a1 (fun _ _ hh=>hh.elim);exact⟨_,h3⟩
        . exact⟨Z,h⟩
      . exact⟨Z,h⟩
    . exact⟨Z,h⟩
 . exact⟨Z,h⟩
def settleO (st:St) (x:Operand):St:=match st.ev [] x with
 |some s=>settle st s.cs
 |none=>st
def B7.settleO (h:B7 za w0 st E w Z B) (x:Operand):∃Z',B7 za w0 (settleO st x) E w Z' B:=by
 unfold Vc.settleO;split
 . exact h.settle _
 . exact⟨Z,h⟩
end
section
variable {P:Program} {all:List Oper} {E:F8} {w w':World} {next:F8->World->Prop} {d:Nat} {op:Op} {ty:TypeId} {pos:String} {aft:Array Edge} {g:Option (Nat×Bool)} {v:Value}
def U6 (hy:Gw.E4 P E ty op w v w') (u:E2 all ⟨some d,op,ty,pos,aft,g⟩ E=true) (h:next (upd E d v) w'):I0 P all ⟨some d,op,ty,pos,aft,g⟩ next E w:=by
 unfold I0;rw[qT u,hy];exact h
def A1a (hy:Gw.E4 P E ty op w v w') (u:E2 all ⟨none,op,ty,pos,aft,g⟩ E=true) (h:next E w'):I0 P all ⟨none,op,ty,pos,aft,g⟩ next E w:=by
 unfold I0;rw[qT u,hy];exact h
def Zz (hy:Gw.NL P E ty op w w') (u:E2 all ⟨none,op,ty,pos,aft,g⟩ E=true) (h:next E w'):I0 P all ⟨none,op,ty,pos,aft,g⟩ next E w:=by
 unfold I0;rw[qT u,hy];exact h
def Zy {f:FuncId} {args:List Value} {Φ:Value->World->Prop} (u:Gw.A4t P E ty op w f args) (hc:Gw.YP P f args w Φ) (hg:E2 all ⟨some d,op,ty,pos,aft,g⟩ E=true)
 (h:∀v w',Φ v w'->next (upd E d v) w'):I0 P all ⟨some d,op,ty,pos,aft,g⟩ next E w:=by
 unfold I0;rw[qT hg,u];exact Calls.mono hc fun _ _ ⟨v,u,hv⟩=>⟨v,u,h _ _ hv⟩
def Sy (u:E2 all ⟨some d,op,ty,pos,aft,g⟩ E=false) (h:next (upd E d undef) w):I0 P all ⟨some d,op,ty,pos,aft,g⟩ next E w:=by
 unfold I0;rw[qL (by rw[u];simp)];exact h
end
def wrB:Op->Bool
 | .store _ _ _=>true
 | .mapUpdate _ _ _ _=>true
 | .insert _ _ _ _=>true
 | .next _ _=>true
 | .mapEntry _ _ _=>true
 | .entryStore _ _ _ _=>true
 | .call ⟨.builtin .append,_,_⟩=>true
 | .call ⟨.builtin .copy,_,_⟩=>true
 | .call ⟨.builtin .delete,_,_⟩=>true
 | .call ⟨.builtin .clear,_,_⟩=>true
 | _=>false
def Nx (za:Zn) (w0:World) (k:St->Prop) (E:F8) (w:World):Prop:=∃st Z B,B7 za w0 st E w Z B/\k st
def fJ (za:Zn) (w0 w:World) (wr:Bool) (k:St->Prop) (E:F8) (w':World):Prop:=(wr=false->R5 w w')/\Nx za w0 k E w'
def Ry (t:Ty):Nat->List (Nat×List C)->Option (List t.den)
 | _,[]=>some []
 |i,(j,cs)::r=>bif Nat.beq i j then(match Mg t cs with
  |some (x,[])=>(Ry t (i+1) r).map (x:: ·)
  | _=>none)else none
def settleP:St->List (Nat×Operand)->St
 |st,[]=>st
 |st,(_,x)::r=>settleP (settleO st x) r
def cY (st:St) (x:Operand):Option Int:=(st.ev [] x).bind cX
def CD:Value->Bool
 | .slice none 0 0=>true
 | _=>false
def Ui {v:Value} (h:CD v=true):v= .slice none 0 0:=by
 unfold CD at h;split at h
 . rfl
 . cases h
def SP (st:St) (t:Ty):C->Option (List t.den)
 | .val (.sl u) l=>if h:u=t then some (h▸l)else none
 | .row k=>match st.L k with
  | .row u _ l=>if h:u=t then some (h▸l)else none
  | _=>none
 | .win k sz lo hi=>match st.L k with
  | .row u _ l=>if h:u=t then(bif Nat.beq sz u.size then some (h▸((l.take hi.toNat).drop lo.toNat))else none)else none
  | _=>none
 | .raw v=>bif CD v then some []else none
 | _=>none
def MR (st:St) (t:Ty) (e:TypeId):C->Option (List t.den)
 | .row k=>match st.L k with
  | .row u e' l=>if h:u=t then(bif Nat.beq e' e&&Nat.ble st.nm k then some (h▸l)else none)else none
  | _=>none
 | .raw v=>bif CD v then some []else none
 | _=>none
def boxS (st:St) (d:Tmp) (T:TypeId) (cs:List C):St:=(st.newL (.box T cs)).setS d (one1 (.box st.nx 0))
def rowS (st:St) (d:Tmp) (t:Ty) (e:TypeId) (l:List t.den):St:=(st.newL (.row t e l)).setS d (one1 (.row st.nx))
def B6y (st:St) (d:Tmp) (ka:Bool) (kt:Ty) (va:Bool) (vt:Ty):St:=(st.newL (.map ka kt va vt [])).setS d (one1 (.mp st.nx))
def B5c (st:St) (d:Tmp) (t:Ty) (e e':TypeId) (ls:List (List t.den)):St:=(st.newL (.rows t e e' ls [] none)).setS d (one1 (.row st.nx))
def TQ (cx:Cx) (st:St) (d:Tmp) (ti:TI) (n:Nat):Option St:=match ti.ty with
 | .sl (.sl t)=>(cx.ti ti.elem).map fun u=>B5c st d t ti.elem u.elem (List.replicate n [])
 | _=>none
def B0e (ka:Bool) (kt:Ty) (va:Bool) (vt:Ty):C->Option (List (kt.den×vt.den))
 | .val t es=>if h:t=Ty.mp ka kt va vt then some (h▸es:(Ty.mp ka kt va vt).den)else none
 | .raw (.map none)=>some []
 | _=>none
def A5d (st:St) (d:Tmp) (k:Nat) (t:Ty) (e e':TypeId) (ls:List (List t.den)) (al:List (Nat×Nat)) (i:Nat):St:=((st.newL (.al k)).setL k (.rows t e e' ls ((i,st.nx)::al) none)).setS d (one1 (.row st.nx))
def dropR (st:St):C->St
 | .row k=>st.setL k .none
 | _=>st
def dO (c:C):C->Bool
 | .win k _ _ _=>match c with
  | .row j=> !(Nat.beq j k)
  | _=>true
 | .row k=>match c with
  | .row j=> !(Nat.beq j k)
  | _=>true
 | _=>true
def slT:Ty->Option Ty
 | .sl t=>some t
 | _=>none
def B5l (cx:Cx) (st:St) (d:Tmp) (T:TypeId) (x y:Operand):Option (Option Prop×St):=do
 let ti<-cx.ti T
 let t<-slT ti.ty
 let a<-(st.ev [] x).bind c1
 let b<-(st.ev [] y).bind c1
 let l<-MR st t ti.elem a
 let u<-SP st t b
 bif dO a b&&Nat.ble 1 t.size then some (some ((l.length+u.length)*ti.bytes<=140737488355328/\l.length+u.length<=9223372036854775807),rowS (dropR st a) d t ti.elem (l++u))else none
def Lt {α:Type} (l u:List α):List α:=u.take l.length++l.drop u.length
def gO (cx:Cx) (st:St) (d:Tmp) (T:TypeId) (x y:Operand):Option St:=do
 let ti<-cx.ti T
 let t<-slT ti.ty
 let a<-(st.ev [] x).bind c1
 let b<-(st.ev [] y).bind c1
 let ys<-SP st t b
 match a with
 | .row k=>match st.L k with
  | .row u e l=>if h:u=t then(bif dO (.row k) b then some ((st.setL k (.row u e (Lt l (h▸ys)))).setS d (one1 (.val (.int .i64) (min (ys.length:Int) (l.length:Int)))))else none)else none
  | _=>none
 | _=>none
def ZZ (cx:Cx) (st:St) (d:Tmp) (T:TypeId) (x:Operand):Option St:=do
 let ti<-cx.ti T
 let c<-(st.ev [] x).bind c1
 match c with
 | .elp k sz i off=>match st.L k with
  | .rows t e e' ls al none=>bif Nat.beq sz 1&&Nat.beq off 0&& !ti.agg then some (A5d st d k t e e' ls al i)else none
  | _=>none
 | _=>none
def B1t (st:St):C->St
 | .row q=>match st.L q with
  | .al k=>match st.L k with
   | .rows t e e' ls al none=>match NU q al with
    |some i=>bif Nat.ble st.nm k&&Nat.ble st.nm q then(st.setL k (.rows t e e' ls [] (some i))).setL q (.row t e' (ls.getD i []))else st
    |none=>st
   | _=>st
  | _=>st
 | _=>st
def detO (st:St) (x:Operand):St:=match(st.ev [] x).bind c1 with
 |some c=>B1t st c
 |none=>st
def A6n (cx:Cx) (st:St) (d:Tmp):Op->Option (Option Prop×St)
 | .box T x=>do
  let s<-st.ev [] x
  bif s.cs.all Ex then some (none,boxS st d T s.cs)else none
 | .alloc T=>do
  let ti<-cx.ti T
  some (none,boxS st d T (Ke ti.ty))
 | .buildSlice T len u=>do
  let ti<-cx.ti T
  let t<-slT ti.ty
  let a0:=settleP st u.toList
  let ps<-Kt a0 [] u.toList
  let xs<-Ry t 0 ps
  bif Nat.beq xs.length len&&Nat.ble (len*t.size) 16777216&&Nat.ble 1 t.size then some (none,rowS a0 d t ti.elem xs)else none
 | .makeSlice T lo co=>do
  let ti<-cx.ti T
  let t<-slT ti.ty
  let l<-cY st lo
  let c<-cY st co
  bif ti.rows then(TQ cx st d ti l.toNat).map fun st'=>(some (0<=l/\l<=c/\(ti.bytes:Int)*c<=281474976710656/\c<=9223372036854775807),st')
  else bif Rp t then some (some (0<=l/\l<=c/\(ti.bytes:Int)*c<=281474976710656/\c<=9223372036854775807),rowS st d t ti.elem (List.replicate l.toNat t.dflt))else none
 | .call ⟨.builtin .append,args,ts⟩=>match args.toList,ts.toList with
  | [x,y],[T,T']=>bif Nat.beq T T' then B5l cx (detO st x) d T x y else none
  | _,_=>none
 | .makeMap T r=>do
  let ti<-cx.ti T
  match ti.ty,r with
  | .mp ka kt va vt,none=>some (none,B6y st d ka kt va vt)
  | .mp ka kt va vt,some o=>(cY st o).map fun _=>(none,B6y st d ka kt va vt)
  | _,_=>none
 | .call ⟨.builtin .len,args,ts⟩=>match args.toList,ts.toList with
  | [x],[T]=>do
   let ti<-cx.ti T
   match ti.ty with
   | .mp ka kt va vt=>do
    let c<-(st.ev [] x).bind c1
    let es<-B2q st ka kt va vt c
    some (some (es.length<=9223372036854775807),st.setS d (one1 (.val (.int .i64) (es.length:Int))))
   | _=>none
  | _,_=>none
 | .load T x=>(ZZ cx st d T x).map fun st'=>(none,st')
 | .range T x=>do
  let ti<-cx.ti T
  match ti.ty with
  | .mp ka kt va vt=>do
   let c<-((settleO st x).ev [] x).bind c1
   let es<-B0e ka kt va vt c
   some (none,((settleO st x).newL (.iter ka kt va vt es none)).setS d (one1 (.box (settleO st x).nx 0)))
  | _=>none
 | .entry x=>do
  let c<-(st.ev [] x).bind c1
  match c with
  | .box k off=>match st.L k with
   | .iter ka kt va vt _ (some y)=>bif Nat.beq off 0 then some (none,st.setS d (.tup [⟨ka,explode kt y.1⟩,⟨va,explode vt y.2⟩]))else none
   | _=>none
  | _=>none
 | .call ⟨.builtin .copy,args,ts⟩=>match args.toList,ts.toList with
  | [x,y],[T,_]=>(gO cx st d T x y).map fun st'=>(none,st')
  | _,_=>none
 | _=>none
section
variable {za:Zn} {w0 w w':World} {Z Z':Nat->Prop} {B:Nat->Value} {st st':St} {E:F8} {cx:Cx} {φ:Option Prop} {d:Tmp}
def R4.len {κ ν:Type} {Rk:Value->κ->Prop} {Rv:Value->ν->Prop} :∀ {l:List (κ×ν)} {es:List MapEntry},R4 Rk Rv es l->es.length=l.length
 | [],_,h=>by rw[show _= _ from h];rfl
 | _:: _,_,⟨e,u,he,_,_,h3⟩=>by rw[he,rH,rH,R4.len h3]
def Ew (h:B7 za w0 st E w Z B) {k:Nat} (hl:live (st.L k)):k<st.nx:=by
 by_cases u:k<st.nx
 . exact u
 . rw[h.fresh k (by omega)]at hl;exact hl.elim
def Zo {base u e sz n:Nat} {v:Value} {xs:List Value} (h:w.ownsRow base e sz v n xs) (hb:u<=base):w.ownsRow u e sz v n xs:=by
 refine⟨h.1, ?_⟩;rcases h.2 with h| ⟨g,a0,cur,h1,h2,h3⟩
 . exact .inl h
 . exact .inr ⟨g,a0,cur,h1,qZ hb h2,h3⟩
def nV {base u e sz n:Nat} {v:Value} {xs:List Value} (h:w.ownsRow base e sz v n xs) (hb:∀b,v.ownBlock=some b->u<=b):w.ownsRow u e sz v n xs:=by
 refine⟨h.1, ?_⟩;rcases h.2 with h| ⟨g,a0,cur,h1,h2,h3⟩
 . exact .inl h
 . exact .inr ⟨g,a0,cur,h1,hb g (by rw[h1];rfl),h3⟩
def B7.newBox (h:B7 za w0 st E w Z B) (d:Tmp) {T:TypeId} {cs:List C} {vs:Array Value} (a1:Dh w Z B cs vs.toList) (hr:∀c∈cs,Cd st.nx c):
 ∃B',B7 za w0 (boxS st d T cs) (upd E d (.pointer (some ⟨w.heap.size,0,none⟩))) (w.alloc (.cells vs T)) Z B':=by
 have hx:R5 w (w.alloc (.cells vs T)):=R5.alloc w _;have h1:=h.more (Z':=Z) hx (fun _=>id) (fun _=> .inl);have hZ:∀b,Z b->b<w.heap.size:=h.zlt;have hs:O2 Z w (w.alloc (.cells vs T)):=fun b hb=>hx.block b (hZ b hb)
 have h2:=h1.new (v:= .pointer (some ⟨w.heap.size,0,none⟩)) (lc:= .box T cs) ⟨w.heap.size,vs,C2 _ _ _, .inl ⟨h.nms.2,h.ext.size⟩,fun hz=>absurd (hZ _ hz) (xR _),Lf w vs T,
  Dh.mono (n:=st.nx) (fun _=>id) hs (fun k hk=>C3 _ _ _ _ (tU hk)) hr a1⟩
  (fun k b hb a0=>by
   simp only[A9,root,rE]at hb;have:=((h.locs k).root (h.ft hx a0)).2.1;omega)
  (fun c u=>(hr c u).le (uU _)) rfl (fun b _ hb=>by simp only[A9,root,rE]at hb;have:=h.mrk.1;omega)
 refine⟨_,h2.setS d (x:=one1 (.box st.nx 0)) ⟨_,[],rfl,⟨w.heap.size,C2 _ _ _,rfl⟩,rfl⟩ (fun c u=> ?_)⟩;simp at u;subst u;exact rV _
def B7.newRowE (h:B7 za w0 st E w' Z B) (d:Tmp) {t:Ty} {e:TypeId} {l:List t.den} {v:Value} {xs:List Value} (u:w'.ownsRow w0.heap.size e t.size v l.length xs) (a0:F7 (C4 t w' Z) xs l) (hn:∀b,v.ownBlock=some b->¬Z b/\∀k,¬A9 w' (B k) (st.L k) b) (a3:∀b,za.k0<=st.nx->v.ownBlock=some b->za.b0<=b):
 B7 za w0 (rowS st d t e l) (upd E d v) w' Z (upd B st.nx v):=by
 have a1:=F3 u;have a4:v.oneCell'=true:=by rcases u.2 with⟨hv,_⟩ | ⟨_,_,_,hv,_⟩<;>rw[hv]<;>rfl
 have h2:=h.new (v:=v) (lc:= .row t e l) ⟨xs,by rw[C2];exact Zo u (rN _),a0,fun b hb=>by rw[C2]at hb;exact⟨.inl ⟨h.nms.2,(World.ownsRow.lt u b hb).1⟩,(hn b hb).1⟩⟩
  (fun k b hb a2=>(hn b (a1.symm.trans hb)).2 k a2) trivial a4 (fun b hk hb=>a3 b hk (a1.symm.trans hb))
 refine h2.setS d (x:=one1 (.row st.nx)) ⟨_,[],rfl,(C2 _ _ _).symm,rfl⟩ (fun c hc=> ?_);simp at hc;subst hc;exact rV _
def B7.newRow (h:B7 za w0 st E w' Z B) (d:Tmp) {t:Ty} {e:TypeId} {l:List t.den} {v:Value} {xs:List Value} (a0:w'.ownsRow w0.heap.size e t.size v l.length xs) (u:F7 (C4 t w' Z) xs l) (hn:∀b,v.ownBlock=some b->¬Z b/\∀k,¬A9 w' (B k) (st.L k) b) (a1:∀b,za.k0<=st.nx->v.ownBlock=some b->za.b0<=b):
 ∃B',B7 za w0 (rowS st d t e l) (upd E d v) w' Z B':=⟨_,h.newRowE d a0 u hn a1⟩
def Zp {base a0 e e' sz n:Nat} {v:Value} {xs a2:List Value} (h:w.ownsRow base e sz v n xs) (h':w.ownsRow a0 e' sz v n a2):xs=a2:=by
 rcases h.2 with⟨hv,hn⟩ | ⟨g,a6,cur,hv,_,hg,_,_,_,ht⟩
 . have h1:=h.1;have h2:=h'.1;rw[hn,yA]at h1 h2;rw[qO h1,qO h2]
 . rcases h'.2 with⟨u,_⟩ | ⟨g',a4,a5,u,_,a1,_,_,_,a3⟩
   . rw[hv]at u;cases u
   . rw[hv]at u;cases u;rw[hg]at a1;cases a1;rw[<-ht, <-a3]
def B7.newRows (h:B7 za w0 st E w' Z B) (d:Tmp) (t:Ty) {e:TypeId} (e':TypeId) {n:Nat} {v:Value} {xs:List Value} (u:w'.ownsRow w0.heap.size e 1 v n xs) (a9:∀x∈xs,x= .slice none 0 0) (hn:∀b,v.ownBlock=some b->¬Z b/\∀k,¬A9 w' (B k) (st.L k) b) (a5:∀b,za.k0<=st.nx->v.ownBlock=some b->za.b0<=b):
 ∃B',B7 za w0 (B5c st d t e e' (List.replicate n [])) (upd E d v) w' Z B':=by
 have a6:=F3 u;have a8:v.oneCell'=true:=by rcases u.2 with⟨hv,_⟩ | ⟨_,_,_,hv,_⟩<;>rw[hv]<;>rfl
 have a0:∀(i:Nat) (x:Value),xs[i]? =some x->x= .slice none 0 0:=fun i x hx=>a9 x (sU hx)
 have a2:∀b,A9 w' v (.rows t e e' (List.replicate n []) [] none) b->v.ownBlock=some b:=fun b hb=>by
  rcases hb with hb| ⟨g,m,ac,cur,e1,i,x,hv,hg,hi,_,hx,hb⟩
  . exact a6.symm.trans hb
  . exfalso;rcases u.2 with⟨a1,_⟩ | ⟨g',aa,ab,a1,_,a3,ad,_,ae,a7⟩
    . rw[hv]at a1;cases a1
    . rw[hv]at a1;cases a1;rw[hg]at a3;cases a3;have:xs[i]? =some x:=by rw[<-a7,rT (by omega)];simpa using hx
      rw[a0 i x this]at hb;simp[root]at hb
 have h2:=h.new (v:=v) (lc:= .rows t e e' (List.replicate n []) [] none) ⟨xs,by rw[C2,rI];exact Zo u (rN _),⟨fun p hp=>(by cases hp),fun i l x _ hl hx=>⟨[], ?_, ?_⟩,fun i j x y b _ _ _ hx _ hb=> ?_⟩,fun i x b _ hx hb=> ?_,fun b hb=> ?_⟩
  (fun k b hb a4=>(hn b (a2 b hb)).2 k a4) (fun p hp=>by cases hp) a8 (fun b hk hb=>a5 b hk (a2 b hb))
 . refine⟨_,h2.setS d (x:=one1 (.row st.nx)) ⟨_,[],rfl,(C2 _ _ _).symm,rfl⟩ (fun c hc=> ?_)⟩;simp at hc;subst hc;exact rV _
 . have:=(zG.1 (sU hl)).2;subst this;exact⟨by simp, .inl ⟨a0 i x hx,rfl⟩⟩
 . have:=(zG.1 (sU hl)).2;subst this;rfl
 . rw[a0 i x hx]at hb;simp[root]at hb
 . rw[a0 i x hx]at hb;simp[root]at hb
 . rw[C2]at hb;have hb:=a2 b hb;have:=World.ownsRow.lt u b hb;exact⟨.inl ⟨h.nms.2,this.1⟩,(hn b hb).1,this.2⟩
def B7.alias (h:B7 za w0 st E w Z B) (d:Tmp) {k:Nat} {t:Ty} {e e':TypeId} {ls:List (List t.den)} {al:List (Nat×Nat)} {i:Nat} {v:Value} {xs:List Value} (hk:st.L k= .rows t e e' ls al none) (a1:w.ownsRow 0 e 1 (B k) ls.length xs) (hx:xs[i]? =some v) (a3:v.oneCell'=true):
 ∃B',B7 za w0 (A5d st d k t e e' ls al i) (upd E d v) w Z B':=by
 have a0:k<st.nx:=Ew h (by rw[hk];trivial);have h2:=h.new (v:=v) (lc:= .al k) trivial (fun _ _ hb=>hb.elim) trivial a3 (fun _ _ hb=>hb.elim);have u:(st.newL (.al k)).L k= .rows t e e' ls al none:=by rw[St.L_newL,qL (tU a0),hk]
 have hL:=h2.locs k;have hR:=h2.refl k;rw[u]at hL hR;have a2:(upd B st.nx v) k=B k:=C3 _ _ _ _ (tU a0);obtain⟨a5,h1,⟨g2,g3,g4⟩,h5,h6⟩:=hL;have a4:xs=a5:=Zp a1 (by rw[<-a2];exact h1);subst a4;have h3:=h2.relc (k:=k) (lc:= .rows t e e' ls ((i,st.nx)::al) none) (by rw[u];trivial) ⟨xs,h1,⟨fun p hp=> ?_,g3,g4⟩,h5,h6⟩ (fun p hp=> ?_) (fun b hb=> .inr (by rw[u];exact hb))
 . refine⟨_,h3.setS d (x:=one1 (.row st.nx)) ⟨_,[],rfl,(C2 _ _ _).symm,rfl⟩ (fun c hc=> ?_)⟩;simp at hc;subst hc;exact rV _
 . rcases qG.1 hp with rfl|hp
   . simp only[C2];exact hx
   . exact g2 p hp
 . rcases qG.1 hp with rfl|hp
   . exact rV _
   . exact hR p hp
def B7.newMap (h:B7 za w0 st E w Z B) (d:Tmp) (ka:Bool) (kt:Ty) (va:Bool) (vt:Ty):
 ∃B',B7 za w0 (B6y st d ka kt va vt) (upd E d (.map (some w.heap.size))) (w.alloc (.map #[] 0)) Z B':=by
 have hx:R5 w (w.alloc (.map #[] 0)):=R5.alloc w _;have h1:=h.more (Z':=Z) hx (fun _=>id) (fun _=> .inl);have hZ:∀b,Z b->b<w.heap.size:=h.zlt;have h2:=h1.new (v:= .map (some w.heap.size)) (lc:= .map ka kt va vt []) ⟨w.heap.size, #[],0,C2 _ _ _, .inl ⟨h.nms.2,h.ext.size⟩,fun hz=>absurd (hZ _ hz) (xR _),heap_alloc_new w _,⟨by simp,by simp⟩,rfl⟩
  (fun k b hb u=>by
   simp only[A9,root,rE]at hb;have:=((h.locs k).root (h.ft hx u)).2.1;omega)
  trivial rfl (fun b _ hb=>by simp only[A9,root,rE]at hb;have:=h.mrk.1;omega)
 refine⟨_,h2.setS d (x:=one1 (.mp st.nx)) ⟨_,[],rfl,(C2 _ _ _).symm,rfl⟩ (fun c hc=> ?_)⟩;simp at hc;subst hc;exact rV _
def Uv {t:Ty} :∀ {i:Nat} {ps:List (Nat×List C)} {a0:List (Nat×Value)} {xs:List t.den},oZ w Z B ps a0->Ry t i ps=some xs->a0=((a0.map (·.2)).zipIdx i).map (fun x=>(x.2,x.1))/\(∀v∈a0.map (·.2),v.cells.size=t.size)/\xs.length=a0.length/\F7 (C4 t w Z) ((a0.map (·.2)).flatMap (·.cells.toList)) xs
 |i,[],a0,xs,h,hp=>by cases hp;rw[show a0= []from h];exact⟨rfl,by simp,rfl,rfl⟩
 |i,(j,cs)::r,a0,xs,⟨v,a4,e,h1,h2⟩,hp=>by
  simp only[Ry]at hp;cases hb:Nat.beq i j with
  |false=>simp[hb]at hp
  |true=>
   have a2:=qD hb;subst a2;simp only[hb,qQ]at hp;split at hp
   . rename_i x hx;simp only[qK]at hp;obtain⟨a5,a3,rfl⟩:=hp;obtain⟨g1,g2,g3,g4⟩:=Uv h2 a3;have a1:=Gj h1 hx;subst e;refine⟨?_, ?_,by simp[g3],⟨v.cells.toList,_,by simp,a1,g4⟩⟩
     . simp only[sB,g1q];rw[<-g1]
     . intro u hu;simp only[sB,qG]at hu;rcases hu with rfl|hu
       . have:=C4.length a1;simpa using this
       . exact g2 u (by simpa using hu)
   . cases hp
def B7.settleP (h:B7 za w0 st E w Z B):∀u:List (Nat×Operand),∃Z',B7 za w0 (settleP st u) E w Z' B:=by
 intro u
 induction u generalizing st Z with
 |nil=>exact⟨Z,h⟩
 |cons x u ih=>
  obtain⟨Z1,h1⟩:=h.settleO x.2;exact ih h1
def FD {P:Program} {T e ty:TypeId} {sz len:Nat} {u:List (Nat×Operand)} {z:Value} (vs:List Value) (ht:Gv P T e sz=true) (hz:He P e=some z) (a0:len*sz<=16777216) (a4:1<=sz) (a6:z.cells.size=sz)
 (hp:(u.map fun x=>(x.1,Gw.ev E x.2))=(vs.zipIdx 0).map fun x=>(x.2,x.1)) (hv:∀v∈vs,v.cells.size=sz) (hl:vs.length=len):
 ∃cs:Array Value,cs.toList=vs.flatMap (·.cells.toList)/\Gw.E4 P E ty (.buildSlice T len u.toArray) w (.slice (some ⟨w.heap.size,0,none⟩) len len) (w.alloc (.cells cs e)):=by
 by_cases h0:len=0
 . subst h0;have:vs= []:=qO hl;subst this;refine⟨#[],rfl,fun _ _ _ _=> ?_⟩;obtain⟨hu,hs⟩:=Jj ht;have h3:=Gw.Fe (P:=P) (w:=w) hs;have a2:u= []:=by simpa using hp
   subst a2;simp only[execOp];unfold Instr.buildSlice;have h0:Array.range 0= #[]:=by apply Array.ext<;>simp
   simp[run_underlying hu,h3,Instr.fill,newRow,h0]
 . obtain⟨r,hr,a3,a5⟩:=iE sz vs 0 ((Array.range (len*sz)).map (z.cells[· %z.cells.size]!)) hv (by simp[hl]);refine⟨r,by rw[a3];simp[hl], ?_⟩;have a1:len*sz≠0:=by
    have:1<=len:=by omega
    have:=yO this a4;omega
   exact fA r ht hz a0 (by rw[hp];exact hr) a1
def RX {P:Program} {base:Nat} {t ty e:TypeId} {i:TypeInfo} {z:Value} {size:Nat} (ht:P.underlying t=some (.slice e)) (hi:P.info? e=some i) (hz:i.zero=some z) (a5:i.size=size) (aq:z.cells.size=size) (ap:0<size)
 {v:Value} {n:Nat} {xs:List Value} (a1:w.ownsRow base e size v n xs) {ao:Option Addr} {m c:Nat} {news:List Value} (hl:news.length=m*size) (a9:∀a,ao=some a->J2 w a news) (am:ao=none->m=0/\c=0) (h1:∀u∈news,u.oneCell'=true)
 (ar:n+m<=9223372036854775807) (a2:(n+m)*i.bytes<=140737488355328) (a8:base<=w.heap.size):
 ∃v' w',(Builtin.append_ #[t,t] ty #[v, .slice ao m c]).run P w= .ok v' w'/\w'.ownsRow base e size v' (n+m) (xs++news)/\w.grownBy w' v.ownBlock/\(v'.ownBlock=v.ownBlock\/v'.ownBlock=some w.heap.size)/\w.drawn<=w'.drawn:=by
 cases ao with
 |none=>
  obtain⟨rfl,rfl⟩:=am rfl;have a3:news= []:=qO (by simpa using hl);subst a3;refine⟨v,w,run_append_owned_none (P:=P) w base t ty e i size ht hi v n xs a1,by simpa using a1,⟨rfl,rfl,rfl,rB _,fun _ _ _=>rfl⟩, .inl rfl,rB _⟩
 |some a=>
  by_cases ak:m=0
  . subst ak;have a3:news= []:=qO (by simpa using hl);subst a3;have a0:(Builtin.append_ #[t,t] ty #[v, .slice (some a) 0 c]).run P w= .ok v w:=by
     have ae:(loadCells a 0).run P w= .ok #[] w:=by simpa using run_loadCells_list (P:=P) w a [] (by simp)
     rcases a1.2 with⟨rfl,rfl⟩ | ⟨g,a6,cur,rfl,_,_,ag,_⟩
     . simp[Builtin.append_,run_underlying ht,sizeOf,typeInfo,hi,Builtin.lenOf,Builtin.firstCells,ae]
     . simp[Builtin.append_,run_underlying ht,sizeOf,typeInfo,hi,Builtin.lenOf,Builtin.firstCells,ag,storeCells,ae]
    exact⟨v,w,a0,by simpa using a1,⟨rfl,rfl,rfl,rB _,fun _ _ _=>rfl⟩, .inl rfl,rB _⟩
  . have af:n+m<=maxLen:=by simp only[maxLen];omega
    have a7:=a9 a rfl;obtain⟨v',w1,a0,ab,aj,_⟩:=run_append_own (P:=P) w base t ty e i z size i.bytes ht hi hz a5 rfl aq ap v n xs a1 a m c news hl a7 h1 af a2 a8;refine⟨v',w1,a0,ab,aj, ?_⟩;subst a5;rcases a1.2 with⟨rfl,rfl⟩ | ⟨gb,a6,cur,rfl,_,ac,ag,_,ai,_⟩
    . have ah:m*i.bytes<=281474976710656:=by simp only[sG]at a2;omega
      have hr:=run_append_nil (P:=P) w t ty e i z ht hi hz a m c news hl a7 (by omega) (by omega) ah;rw[hr]at a0;cases a0;exact⟨.inr rfl,by simp[World.drawn_alloc,World.drawn_drew]<;>omega⟩
    . by_cases a4:n+m<=a6
      . have ad:n*i.size+news.length<=cur.size:=by rw[hl,ai, <-uP];exact rM _ a4
        have hr:=run_append_room (P:=P) w t ty e i ht hi gb n a6 cur ac a m c news hl a7 h1 a4 ad;rw[hr]at a0;cases a0;exact⟨.inl rfl,by simp<;>omega⟩
      . have aa:∀j u,xs[j]? =some u->w.cell? ((⟨gb,0,none⟩:Addr).add j)=some u:=a1.cells (g:=gb) rfl;have hr:=run_append_grow (P:=P) w t ty e i z ht hi hz ⟨gb,0,none⟩ n a6 xs a1.1 aa a m c news hl a7 (by omega) (by omega) (growslice_fits (by omega) a2);rw[hr]at a0;cases a0;exact⟨.inr rfl,by simp[World.drawn_alloc,World.drawn_drew]<;>omega⟩
def SR (h:B7 za w0 st E w Z B) {t:Ty} {c:C} {l:List t.den} {v:Value} (hc:RC w Z B c v) (he:SP st t c=some l):
 ∃ao a1 ec,v= .slice ao l.length a1/\l.length<=a1/\(ao=none->a1=0)/\(∀a,ao=some a->J2 w a ec)/\F7 (C4 t w Z) ec l:=by
 unfold SP at he;split at he
 . rename_i t' l';split at he
   . rename_i a3;subst a3;cases he;obtain⟨a,a1,e1,a8,_,hn,hh⟩:=hc;simp only[sL,vM]at e1;rcases hh with hh| ⟨b,o,ec,ha,hz,a4,a0⟩
     . subst hh;exact⟨a,a1,[],e1,a8,hn,fun _ _ j u hj=>by simp at hj,rfl⟩
     . subst ha;exact⟨_,a1,ec,e1,a8,hn,fun a ha=>by cases ha;exact a4,a0⟩
   . cases he
 . rename_i k;split at he
   . rename_i t' e' l' hk;split at he
     . rename_i a3;subst a3;cases he;have hL:=h.locs k;rw[hk]at hL;obtain⟨xs,a2,a0,_⟩:=hL;have hc:v=B k:=hc;rcases a2.2 with⟨hv,hn⟩ | ⟨g,a1,cur,hv,_,_,ac,_⟩
       . have:l'= []:=qO hn;subst this;exact⟨none,0,[],by rw[hc,hv];rfl,rB _,fun _=>rfl,fun a ha=>(by cases ha),rfl⟩
       . exact⟨some ⟨g,0,none⟩,a1,xs,by rw[hc,hv],ac,fun hh=>(by cases hh),fun a ha=>by cases ha;exact Rx a2 hv,a0⟩
     . cases he
   . cases he
 . rename_i k sz lo hi;split at he
   . rename_i t' e' l' hk;split at he
     . rename_i a3;subst a3;cases hs:Nat.beq sz t'.size with
       |false=>simp only[hs,rF]at he;cases he
       |true=>
        simp only[hs,qQ]at he;cases he;have:=qD hs;subst this;have hL:=h.locs k;rw[hk]at hL;obtain⟨xs,a2,a0,_⟩:=hL;obtain⟨a,n,a1,hB,ga,gn,g0,g1,g2,g3,g4,hv⟩:=hc;have hn:n=l'.length:=by
         rcases a2.2 with⟨hh,h0⟩ | ⟨_,_,_,hh,_⟩<;>rw[hB]at hh<;>cases hh
         . exact h0.symm
         . rfl
        subst hn;have a7:((l'.take hi.toNat).drop lo.toNat).length=hi.toNat-lo.toNat:=by simp;omega
        refine⟨_,_,(xs.take (hi.toNat*t'.size)).drop (lo.toNat*t'.size),by rw[hv,a7],by rw[a7];omega,fun hz=> ?_,fun a' a5=> ?_,F7.drop (fun _ _ h=>C4.length h) lo.toNat (F7.take (fun _ _ h=>C4.length h) hi.toNat a0)⟩
        . split at hz
          . omega
          . have:=gn (by simpa using hz);omega
        . by_cases ab:a1=lo.toNat
          . intro j u hj;have a6:=EM hj;rw[sN,qW]at a6;have h1:xs.length=l'.length*t'.size:=a2.1;have h2:lo.toNat=hi.toNat:=by omega
            rw[h2]at a6;omega
          . rw[qL ab]at a5;cases a with
            |none=>cases a5
            |some x=>
             obtain⟨g,rfl⟩:=ga x rfl;cases a5;show J2 w ((⟨g,0,none⟩:Addr).add (lo.toNat*t'.size)) _;rw[J7,sG];have a9:=R9 (Rx a2 hB) 0 (hi.toNat*t'.size);rw[tX,tD]at a9;have aa:=R9 a9 (lo.toNat*t'.size) ((xs.take (hi.toNat*t'.size)).drop (lo.toNat*t'.size)).length;rw[uR,sG]at aa;exact aa
     . cases he
   . cases he
 . rename_i v0;cases hn:CD v0 with
   |false=>simp[hn]at he
   |true=>
    simp[hn]at he;subst he;exact⟨none,0,[],by rw[hc.1,Ui hn];rfl,rB _,fun _=>rfl,fun a ha=>(by cases ha),rfl⟩
 . cases he
def Kw {P:Program} {T:TypeId} {ti:TI} {t:Ty} (h:Vj P T ti=true) (ht:ti.ty= .sl t):∃i z,P.underlying T=some (.slice ti.elem)/\P.info? ti.elem=some i/\i.zero=some z/\i.size=t.size/\z.cells.toList=Dg t/\z.cells.size=t.size/\i.bytes=ti.bytes/\Gv P T ti.elem t.size=true:=by
 obtain⟨h1,h2,i,hi,hb⟩:=CU h ht;obtain⟨hu,hs⟩:=Jj h1;obtain⟨z,hz,u⟩:=Fs h2;unfold He at hz;unfold Sv at hs;simp only[hi,vW]at hz;simp only[hi,g1c]at hs;have a0:(Dg t).length=t.size:=by
  clear u hs h1 h2 ht
  induction t with
  |pair a b a1 a2=>simp[Dg,Ty.size,a1,a2]
  | _=>rfl
 exact⟨i,z,hu,hi,hz,hs,u,by rw[<-sR,u,a0],hb,h1⟩
def Ji {ty t:Ty} (h:slT ty=some t):ty= .sl t:=by
 unfold slT at h;split at h
 . cases h;rfl
 . cases h
variable {all:List Oper} {ty:TypeId} {pos:String} {aft:Array Edge} {g:Option (Nat×Bool)} {k:St->Prop}
def F6 (E:F8):P6 E []:=fun _ _ h=>by cases h
def F7.of_index {α:Type} {R:List Value->α->Prop} {s:Nat} :∀ {l:List α} {cs:List Value},cs.length=l.length*s->(∀(i:Nat) (x:α),l[i]? =some x->R ((cs.drop (i*s)).take s) x)->F7 R cs l
 | [],cs,hl,_=>qO (by simpa using hl)
 |x::l,cs,hl,h=>by
  have u:cs.length=s+l.length*s:=by rw[hl,rH,uL,vY]
  refine⟨cs.take s,cs.drop s,(uE s cs).symm, ?_,F7.of_index (s:=s) (by rw[sN];omega) (fun i y hi=> ?_)⟩
  . have:=h 0 x rfl;simpa using this
  . have:=h (i+1) y (by simpa using hi);rw[uL,vY, <-vR]at this;exact this
def LU {t:Ty} {z:Array Value} (hz:z.toList=Dg t) (hn:Rp t=true) (a2:z.size=t.size) (c l:Nat) (a0:l<=c):F7 (C4 t w Z) ((madeCells z (c*t.size)).toList.take (l*t.size)) (List.replicate l t.dflt):=by
 have a1:((madeCells z (c*t.size)).toList.take (l*t.size)).length=l*t.size:=by
  rw[qW,sR,size_madeCells];exact sW (rM _ a0)
 refine F7.of_index (s:=t.size) (by rw[a1,rI]) (fun i x hi=> ?_);have a3:i<l:=by have:=EM hi;simpa using this
 have hx:x=t.dflt:=by
  have:=sU hi;exact(zG.1 this).2
 subst hx;have u:(((madeCells z (c*t.size)).toList.take (l*t.size)).drop (i*t.size)).take t.size=Dg t:=by
  have a6:(Dg t).length=t.size:=by rw[<-hz,sR,a2]
  have a5:i*t.size+t.size<=l*t.size:=by rw[<-uL];exact rM _ a3
  have a4:l*t.size<=c*t.size:=rM _ a0;apply wQ;intro j;by_cases hj:j<t.size
  . rw[wH,qT hj,xA,wH,qT (by omega)];have h1:(i*t.size+j)%z.size=j:=by rw[a2,tG,g2g,tS hj]
    have h2:(madeCells z (c*t.size)).toList[i*t.size+j]? =some (z[(i*t.size+j)%z.size]!):=by
     simp only[madeCells,wF,Array.getElem?_map];rw[Array.getElem?_range,qT (by omega)];rfl
    rw[h2,h1, <-hz,wF];rw[tZ (by omega),g0p z j (by omega)]
  . rw[wH,qL hj,rW (by omega)]
 rw[u];exact KN hn
def jB (h:B7 za w0 st E w Z B) (hty:H1 cx.P cx.tys=true) {T:TypeId} {x:Operand} (u:ZZ cx st d T x=some st'):∃v B',(∀w',R5 w w'->Gw.E4 cx.P E ty (.load T x) w' v w')/\B7 za w0 st' (upd E d v) w Z B':=by
 unfold ZZ at u;simp only[qH,bind_some]at u;obtain⟨ti,a8,c,⟨s,a4,a5⟩,u⟩:=u;split at u
 . rename_i q sz i off;split at u
   . rename_i t e e' ls al hq;cases hd:Nat.beq sz 1&&Nat.beq off 0&& !ti.agg with
     |false=>simp only[hd,rF]at u;cases u
     |true=>
      simp only[hd,qQ]at u;cases u;simp only[qC,rQ]at hd;have a7:=qD hd.1.1;have a1:=qD hd.1.2;subst a7 a1;have a6:Iv cx.P T=true:=by
       rcases(O1 (B8 hty a8)).2.1 with⟨ha,_⟩ | ⟨_,ha,_⟩
       . rw[hd.2]at ha;cases ha
       . exact ha
      obtain⟨b,n,ac,hB,hi,hv⟩:=(h.c1 (F6 E) (bind_some.2 ⟨s,a4,a5⟩)).1;have hL:=h.locs q;rw[hq]at hL;obtain⟨xs,h1,⟨g2,g3,g4⟩,h5,h6⟩:=hL;have hn:n=ls.length:=by
       rw[hB]at h1;rcases h1.2 with⟨hh,_⟩ | ⟨_,_,_,hh,_⟩<;>cases hh
       rfl
      subst hn;have ab:i<xs.length:=by have:=h1.1;omega
      have hx:=qS ab;have a0:=Rx h1 hB i _ hx;rw[J7,sG]at a0;have a3:=qS hi;obtain⟨ys,g5,_⟩:=g3 i _ _ rfl a3 hx;have a9:(xs[i]).oneCell'=true:=by rcases g5.2 with⟨hv,_⟩ | ⟨_,_,_,hv,_⟩<;>rw[hv]<;>rfl
      obtain⟨B',h7⟩:=h.alias d hq h1 hx a9;refine⟨_,B',fun w' aa=>oU hv a6 ?_,h7⟩;have a2:b<w.heap.size:=by rw[hB]at h1;exact(World.ownsRow.lt h1 b rfl).2
      have e:=World.cell?_of_block (a:=⟨b,i,none⟩) (aa.block b a2);rw[show i*1+0=i from by omega,e];exact a0
   . cases u
 . cases u
def A3m {P:Program} {w:World} {dT sT ty elem:TypeId} {size g u dCap a0:Nat} {a1:Value} {cur:Array Value} {t:TypeId} {cs:List Value} (hu:P.underlying dT=some (.slice elem)) (hs:(P.info? elem).map (·.size)=some size)
 (hg:w.heap[g]? =some (.cells cur t (0,0))) (hl:(Builtin.lenOf a1).run P w= .ok a0 w) (hc:(Builtin.firstCells size (Nat.min a0 u) a1).run P w= .ok cs.toArray w) (a2:cs.length<=cur.size) (h1:∀v∈cs,v.oneCell'=true):
 (Builtin.copy_ #[dT,sT] ty #[.slice (some ⟨g,0,none⟩) u dCap,a1]).run P w= .ok (goInt (Nat.min a0 u)) (w.setRow g (cs++cur.toList.drop cs.length).toArray):=by
 have a3:=run_storeCells_at P g 0 t cs 0 cur w hg (by simpa using a2) h1;cases hq:P.info? elem with
 |none=>simp[hq]at hs
 |some i=>
  have hi:i.size=size:=by simpa[hq]using hs
  simp only[sG,g0x,vJ]at a3;simp[Builtin.copy_,run_underlying hu,hl,sizeOf,typeInfo,hq,hi,hc,a3]
def A3l {P:Program} {w:World} {dT sT ty elem:TypeId} {size dCap a0:Nat} {u:Value} (hu:P.underlying dT=some (.slice elem)) (hs:(P.info? elem).map (·.size)=some size)
 (hl:(Builtin.lenOf u).run P w= .ok a0 w) (hc:(Builtin.firstCells size 0 u).run P w= .ok #[] w):
 (Builtin.copy_ #[dT,sT] ty #[.slice none 0 dCap,u]).run P w= .ok (goInt 0) w:=by
 cases hq:P.info? elem with
 |none=>simp[hq]at hs
 |some i=>
  have hi:i.size=size:=by simpa[hq]using hs
  simp[Builtin.copy_,run_underlying hu,hl,sizeOf,typeInfo,hq,hi,hc]
def A6g (h:B7 za w0 st E w Z B) (hty:H1 cx.P cx.tys=true) {T sT:TypeId} {x y:Operand} (hs:gO cx st d T x y=some st'):∃v w' B',Gw.E4 cx.P E ty (.call ⟨.builtin .copy, #[x,y], #[T,sT]⟩) w v w'/\B7 za w0 st' (upd E d v) w' Z B':=by
 simp only[gO,qH,bind_some]at hs;obtain⟨ti,b8,t,ht,a,⟨sa,au,av⟩,b,⟨sb,aw,ax⟩,ys,ba,hs⟩:=hs;have ht:=Ji ht;obtain⟨i,z,hu,hi,hz,b7,bh,bi,bd,bg⟩:=Kw (B8 hty b8) ht;obtain⟨hx,_⟩:=h.c1 (F6 E) (bind_some.2 ⟨sa,au,av⟩);obtain⟨hy,_⟩:=h.c1 (F6 E) (bind_some.2 ⟨sb,aw,ax⟩);obtain⟨ao,bb,ec,hv,bf,b4,a9,a1⟩:=SR h hy ba;cases a with
 |row k=>
  simp only at hs;split at hs
  . rename_i t' e l hk;split at hs
    . rename_i b1;subst b1;cases hd:dO (.row k) b with
      |false=>simp only[hd,rF]at hs;cases hs
      |true=>
       simp only[hd,qQ]at hs;cases hs;have hL:=h.locs k;rw[hk]at hL;obtain⟨xs,a6,aj,af⟩:=hL;have ai:Gw.ev E x=B k:=hx;have ab:(Builtin.lenOf (Gw.ev E y)).run cx.P w= .ok ys.length w:=by rw[hv];rfl
       have a5:(cx.P.info? ti.elem).map (·.size)=some t'.size:=by rw[hi,vT,b7]
       have bc:Nat.min ys.length l.length=min ys.length l.length:=rfl;have a3:ec.length=ys.length*t'.size:=a1.length (fun c x=>C4.length);have ak:(Builtin.firstCells t'.size (Nat.min ys.length l.length) (Gw.ev E y)).run cx.P w= .ok (ec.take (min ys.length l.length*t'.size)).toArray w:=by
        rw[hv];cases ao with
        |none=>
         have:ys= []:=qO (by have:=b4 rfl;omega);subst this;simp[Builtin.firstCells]
        |some a=>
         have h5:(ec.take (min ys.length l.length*t'.size)).length=min ys.length l.length*t'.size:=by
          rw[qW,a3];exact sW (rM _ (g2e ..))
         have:=run_loadCells_list (P:=cx.P) w a (ec.take (min ys.length l.length*t'.size)) (fun j v hj=>a9 a rfl j v (by
          have be:=EM hj;rw[rT (by omega)]at hj;exact hj))
         rw[h5]at this;exact this
       have ar:∀u∈ec.take (min ys.length l.length*t'.size),u.oneCell'=true:=fun u hu'=>a1.oneCell u (rZ hu')
       have ad:∀m:Nat,m<=l.length->RC w Z B (.val (.int .i64) (m:Int)) (.int .i64 (m:Int)):=fun m hm=>by
        have:l.length<=maxLen:=by
         rcases a6.2 with⟨_,h0⟩ | ⟨_,_,_,_,_,_,h1,h2,_⟩
         . omega
         . omega
        refine⟨rfl, ?_⟩;unfold LQ;simp only[maxLen]at this;constructor
        . change(-9223372036854775808:Int)<= _;omega
        . change _ <=(9223372036854775807:Int);omega
       have aq:(min (ys.length:Int) (l.length:Int))=((min ys.length l.length:Nat):Int):=by omega
       rcases a6.2 with⟨a2,h0⟩ | ⟨g,ae,cur,a2,b2,ap,b5,ay,az,b9⟩
       . have b3:l= []:=qO h0;subst b3;have a7:=A3l (sT:=sT) (ty:=ty) (dCap:=0) hu a5 ab (by simpa using ak);refine⟨goInt 0,w,B,fun _ _ _ _=>by simp[execOp,resolve,invoke,builtin,ai,a2,a7], ?_⟩;have h6:B7 za w0 (st.setL k (.row t' e (Lt [] ys))) E w Z B:=by
          have e0:Lt ([]:List t'.den) ys= []:=by simp[Lt]
          rw[e0];exact h.relc (by rw[hk];trivial) ⟨xs,a6,aj,af⟩ trivial (fun b hb=> .inl hb)
         refine h6.setS d ?_ (fun c hc=>by simp at hc;subst hc;trivial);rw[aq,show min ys.length ([]:List t'.den).length=0 from Nat.min_zero _];exact⟨_,_,rfl,ad _ (by simp),rfl⟩
       . have am:(ec.take (min ys.length l.length*t'.size)).length<=cur.size:=by
          rw[qW,a3,az];have h1:min ys.length l.length*t'.size<=ae*t'.size:=rM _ (by omega);omega
         have h5:(ec.take (min ys.length l.length*t'.size)).length=min ys.length l.length*t'.size:=by
          rw[qW,a3];exact sW (rM _ (g2e ..))
         have a7:=A3m (sT:=sT) (ty:=ty) (dCap:=ae) hu a5 ap ab ak am ar;refine⟨goInt (Nat.min ys.length l.length),w.setRow g (ec.take (min ys.length l.length*t'.size)++cur.toList.drop (ec.take (min ys.length l.length*t'.size)).length).toArray,B,fun _ _ _ _=>by simp[execOp,resolve,invoke,builtin,ai,a2,a7], ?_⟩;generalize a4:(ec.take (min ys.length l.length*t'.size)++cur.toList.drop (ec.take (min ys.length l.length*t'.size)).length).toArray=a0;have aa:WZ g w (w.setRow g a0):=⟨rfl,rfl,⟨rfl,rB _⟩,by simp,fun k hk=>setRow_other w g k _ hk⟩;have ah:root (B k)=some g:=by rw[a2];rfl
         obtain⟨hU,b6⟩:=af g (by rw[a2];rfl);have a8:O2 Z w (w.setRow g a0):=fun z hz=>aa.2.2.2.2 z (fun hh=>b6 (hh▸hz))
         have ac:F7 (C4 t' (w.setRow g a0) Z) (ec.take (min ys.length l.length*t'.size)++xs.drop (min ys.length l.length*t'.size)) (Lt l ys):=by
          have e1:Lt l ys=ys.take (min ys.length l.length)++l.drop (min ys.length l.length):=by
           unfold Lt;rcases Nat.le_total ys.length l.length with hh|hh
           . rw[sW hh,qV hh,qV (rB _)]
           . rw[Nat.min_eq_right hh,sE hh,sE (rB _)]
          rw[e1];refine F7.append ?_ ?_
          . exact(a1.take (fun c x=>C4.length) _).mono fun c x=>C4.mono (fun _=>id) a8
          . exact(aj.drop (fun c x=>C4.length) _).mono fun c x=>C4.mono (fun _=>id) a8
         have ag:(Lt l ys).length=l.length:=by
          unfold Lt;rw[rP,qW,sN];omega
         have h6:B7 za w0 (st.setL k (.row t' e (Lt l ys))) E (w.setRow g a0) Z B:=by
          refine h.chg (by rw[hk];trivial) (by rw[hk];exact ah) aa ⟨_,⟨?_, .inr ⟨g,ae,a0, ?_,b2,setRow_heap w g cur _ e _ ap, ?_,ay, ?_, ?_⟩⟩,ac,fun b hb=> ?_⟩ trivial (fun b hb=> .inl hb)
          . rw[ac.length (fun c x=>C4.length)]
          . rw[ag];exact a2
          . rw[ag];exact b5
          . have e8:cur.toList.length=cur.size:=sR;have e9:a0.size=(ec.take (min ys.length l.length*t'.size)).length+(cur.toList.length-(ec.take (min ys.length l.length*t'.size)).length):=by
             rw[<-a4, <-sN, <-rP];rfl
            omega
          . rw[ag, <-a4,h5, <-b9,g0u,zV];have h8:min ys.length l.length*t'.size<=l.length*t'.size:=rM _ (by omega);rw[h5,qV (by omega)]
          . exact af b hb
         refine h6.setS d ?_ (fun c hc=>by simp at hc;subst hc;trivial);rw[aq];exact⟨_,_,rfl,(ad _ (by omega)),rfl⟩
    . cases hs
  . cases hs
 | _=>simp at hs
def B9q:LC->Bool
 | .al _=>true
 | _=>false
def A9y {v:Value} {e e1:TypeId} {n n' g a1 j:Nat} {xs:List Value} {cur:Array Value} {x:Value} (h1:w.ownsRow 0 e 1 v n xs) (hv:v= .slice (some ⟨g,0,none⟩) n' a1) (hg:w.heap[g]? =some (.cells cur e1 (0,0))) (hj:j<n') (hx:cur[j]? =some x):xs[j]? =some x:=by
 rcases h1.2 with⟨u,_⟩ | ⟨g2,a3,a4,u,_,a0,a6,_,a5,a2⟩
 . rw[hv]at u;cases u
 . rw[hv]at u;cases u;rw[hg]at a0;cases a0;rw[<-a2,rT (by omega)];simpa using hx
def B7.detach (h:B7 za w0 st E w Z B) {k q i:Nat} {t:Ty} {e e':TypeId} {ls:List (List t.den)} {al:List (Nat×Nat)} (hk:st.L k= .rows t e e' ls al none) (hq:st.L q= .al k) (hi:NU q al=some i) (ag:st.nm<=k) (ai:st.nm<=q) (hb0:za.b0=0):
 B7 za w0 ((st.setL k (.rows t e e' ls [] (some i))).setL q (.row t e' (ls.getD i []))) E w Z B:=by
 have hL:=h.locs k;have hR:=h.refl k;rw[hk]at hL hR;obtain⟨xs,h1,⟨g2,g3,g4⟩,h5,h6⟩:=hL;have a2:=Rm hi;have hx:xs[i]? =some (B q):=g2 (i,q) a2;have aj:xs.length=ls.length:=by have:=h1.1;omega
 have a9:i<ls.length:=by have:=(sD.1 hx).1;omega
 have ab:ls[i]? =some (ls.getD i []):=by rw[qF,qS a9];rfl
 obtain⟨ys,o1,o2⟩:=g3 i _ _ rfl ab hx;have ac:q<st.nx:=hR (i,q) a2;have ah:k≠q:=fun hh=>by rw[hh,hq]at hk;cases hk
 have a0:∀b,A9 w (B k) (.rows t e e' ls [] (some i)) b->A9 w (B k) (.rows t e e' ls al none) b:=fun b hb=>by
  rcases hb with hb| ⟨g,n,a4,cur,e1,j,x,hv,hg,hj,_,a1,hb⟩
  . exact .inl hb
  . exact .inr ⟨g,n,a4,cur,e1,j,x,hv,hg,hj,rfl,a1,hb⟩
 have ae:B7 za w0 (st.setL k (.rows t e e' ls [] (some i))) E w Z B:=
  h.relc (by rw[hk];trivial) ⟨xs,h1,⟨fun p hp=>(by cases hp),fun j l x _ hl a1=>g3 j l x rfl hl a1,fun a c x y b hac _ _ hxa hyc=>g4 a c x y b hac rfl rfl hxa hyc⟩,fun j x b _ a1=>h5 j x b rfl a1,fun b hb=>h6 b (a0 b hb)⟩ (fun p hp=>(by cases hp)) (fun b hb=> .inr (by rw[hk];exact a0 b hb))
 have ad:=F3 o1;have a5:∀b,root (B q)=some b->A9 w (B k) (.rows t e e' ls al none) b:=fun b hb=>Yx h1 rfl hx hb
 refine ae.addL (k:=q) ac ⟨ys,o1,o2,fun b hb=> ?_⟩ (fun j b hj hb u=> ?_) trivial (fun b _ _=>by rw[hb0];exact rN _)
 . obtain⟨u1,u2,_⟩:=h6 b (a5 b (ad.trans hb));refine⟨.inl ?_,u2⟩;have hn:=h.nms.1;rcases u1 with u1|u1
   . exact⟨by omega,u1.2⟩
   . omega
 . have hb:root (B q)=some b:=hb;rw[St.L_setL]at u;by_cases a3:j=k
   . subst a3;rw[qT rfl]at u;rcases u with u| ⟨g,n,a4,cur,e1,m,x,hv,hg,hm,a8,af,a7⟩
     . exact h5 i (B q) b rfl hx hb u
     . have a6:=A9y h1 hv hg hm af;have aa:i≠m:=fun hh=>by
        subst hh;simp[Ju]at a8
       exact g4 i m (B q) x b aa rfl rfl hx a6 hb a7
   . rw[qL a3]at u;exact h.disj k j b (Ne.symm a3) (by rw[hk];exact a5 b hb) u
def B7.detO (h:B7 za w0 st E w Z B) (x:Operand) (u:za.b0=0\/∀k,(st.ev [] x).bind Vc.c1=some (C.row k)->B9q (st.L k)=false):B7 za w0 (Vc.detO st x) E w Z B:=by
 unfold Vc.detO;split
 . rename_i c hc;unfold B1t;split
   . rename_i q;split
     . rename_i k hq;split
       . rename_i t e e' ls al hk;split
         . rename_i i hi;cases hd:Nat.ble st.nm k&&Nat.ble st.nm q with
           |false=>exact h
           |true=>
            simp only[qC]at hd;rcases u with u|u
            . exact h.detach hk hq hi (qP hd.1) (qP hd.2) u
            . have:=u q hc;rw[hq]at this;cases this
         . exact h
       . exact h
     . exact h
   . exact h
 . exact h
def B1u (st:St) (x:Operand) (ctx:Kf) (y:Operand):(detO st x).ev ctx y=st.ev ctx y:=by
 have u:∀(b:Bool) (s1 s2:St),s1.ev ctx y=s2.ev ctx y->(bif b then s1 else s2).ev ctx y=s2.ev ctx y:=by
  intro b s1 s2 h;cases b
  . rfl
  . exact h
 unfold detO;split
 . unfold B1t;split
   . split
     . split
       . split
         . exact u _ _ _ rfl
         . rfl
       . rfl
     . rfl
   . rfl
 . rfl
def dV (k0:Nat) (st:St):Op->Bool
 | .call ⟨.builtin .append,args,_⟩=>match args.toList with
  |x:: _=>(match(st.ev [] x).bind c1 with
   |some (.row k)=>Nat.ble k0 k&& !(B9q (st.L k))
   | _=>true)
  | _=>true
 | _=>true
def B1x {av:Op} (h:B7 za w0 st E w Z B) (b4:za.b0=0\/∀op,op=av->dV za.k0 st op=true) (hty:H1 cx.P cx.tys=true) (u:A6n cx st d av=some (φ,st')) (b1:OA φ) (hk:k st') (hg:E2 all ⟨some d,av,ty,pos,aft,g⟩ E=true):I0 cx.P all ⟨some d,av,ty,pos,aft,g⟩ (fJ za w0 w (wrB av) k) E w:=by
 unfold A6n at u;split at u
 . simp only[qH,bind_some]at u;obtain⟨s,cf,u⟩:=u;cases hd:s.cs.all Ex with
   |false=>simp only[hd,rF]at u;cases u
   |true=>
    simp only[hd,qQ]at u;cases u;obtain⟨h1,h2⟩:=h.ev (F6 E) cf;obtain⟨B',h3⟩:=h.newBox d (T:= _) (RS.cells h h1 hd) h2;exact U6 (C1u rfl) hg ⟨fun _=>R5.alloc w _,_,_,_,h3,hk⟩
 . simp only[qH,bind_some]at u;obtain⟨ti,a4,u⟩:=u;cases u;obtain⟨z,hz,ab⟩:=Fs (O1 (B8 hty a4)).2.2;have h3:=Ci (w:=w) (Z:=Z) (B:=B) (n:=st.nx) (Dg ti.ty);obtain⟨B',h4⟩:=h.newBox d (T:= _) (vs:=z.cells) (by rw[ab];exact h3.1) h3.2;exact U6 (A1d hz) hg ⟨fun _=>R5.alloc w _,_,_,_,h4,hk⟩
 . rename_i T len aw;simp only[qH,bind_some]at u;obtain⟨ti,a4,t,ht,ps,cc,xs,ci,u⟩:=u;have ht:=Ji ht;cases hd:Nat.beq xs.length len&&Nat.ble (len*t.size) 16777216&&Nat.ble 1 t.size with
   |false=>simp only[hd,rF]at u;cases u
   |true=>
    simp only[hd,qQ]at u;cases u;simp only[qC]at hd;obtain⟨i,z,hu,hi,hz,a9,ab,ac,hb,ay⟩:=Kw (B8 hty a4) ht;obtain⟨Z1,h1⟩:=h.settleP aw.toList;obtain⟨h2,h3⟩:=Lu h1 (F6 E) cc;obtain⟨g1,g2,g3,g4⟩:=Uv h2 ci;have ai:=qD hd.1.1;have cq:He cx.P ti.elem=some z:=by simp[He,hi,hz]
    obtain⟨cs,a7,hy⟩:=FD (w:=w) (ty:=ty) (len:=len) _ ay cq (qP hd.1.2) (qP hd.2) ac g1 g2 (by rw[tN, <-g3,ai]);have hx:R5 w (w.alloc (.cells cs ti.elem)):=R5.alloc w _;have h4:=h1.more (Z':=Z1) hx (fun _=>id) (fun _=> .inl);have a1:O2 Z1 w (w.alloc (.cells cs ti.elem)):=fun b hb=>hx.block b (h1.zlt b hb)
    have bc:cs.toList.length=len*t.size:=by rw[a7,F7.length (fun _ _ h=>C4.length h) g4,ai]
    have a0:(w.alloc (.cells cs ti.elem)).ownsRow w0.heap.size ti.elem t.size (.slice (some ⟨w.heap.size,0,none⟩) len len) xs.length cs.toList:=by
     rw[ai];refine⟨bc, .inr ⟨w.heap.size,len,cs,rfl,h.ext.size,Lf w _ _,rB _, ?_,by simpa using bc,by rw[<-bc,uR]⟩⟩;have h5:=qP hd.1.2;have h6:=qP hd.2;have:len*1<=len*t.size:=sS _ h6;simp only[maxLen];omega
    obtain⟨B',h5⟩:=h4.newRow d (t:=t) (e:=ti.elem) (l:=xs) a0 (by rw[a7];exact g4.mono fun _ _=>C4.mono (fun _=>id) a1) (fun b hb=>by
     simp only[Value.ownBlock,rE]at hb;refine⟨fun hz=> ?_,fun q hq=> ?_⟩
     . have:=h1.zlt b hz;omega
     . have:=((h1.locs q).root (h1.ft hx hq)).2.1;omega) (fun b _ hb=>by simp only[Value.ownBlock,rE]at hb;have:=h.mrk.1;omega)
    have:=U6 (pos:=pos) (aft:=aft) hy (by simpa using hg) (show fJ za w0 w (wrB (.buildSlice T len aw)) k _ _ from⟨fun _=>hx,_,_,_,h5,hk⟩);simpa using this
 . rename_i T lo co;simp only[qH,bind_some]at u;obtain⟨ti,a4,t,ht,l,hl,c,hc,u⟩:=u;have ht:=Ji ht;cases bp:ti.rows with
   |true=>
    simp only[bp,qQ,qK]at u;obtain⟨st2,af,u⟩:=u;cases u;unfold TQ at af;split at af
    case h_2=>cases af
    rename_i t0 b6;rw[ht]at b6;cases b6;simp only[qK]at af;obtain⟨t2,_,af⟩:=af;subst af;obtain⟨f1,f2,f3,f4⟩:=b1;obtain⟨i,z,hu,hi,hz,a9,ab,ac,hb,ay⟩:=Kw (B8 hty a4) ht;obtain⟨k1,e1,_⟩:=h.int (F6 E) hl;obtain⟨k2,e2,_⟩:=h.int (F6 E) hc;have a3:=run_make (P:=cx.P) w T ti.elem i z hu hi hz k1 k2 l c f1 f2 (by rw[hb];exact f3) f4;have hy:Gw.E4 cx.P E ty (.makeSlice T lo co) w (.slice (some ⟨w.heap.size,0,none⟩) l.toNat c.toNat) (w.alloc (.cells (madeCells z.cells (c.toNat*i.size)) ti.elem)):=fun _ _ _ _=>by simp[execOp,e1,e2,a3]
    generalize a7:madeCells z.cells (c.toNat*i.size)=cs at hy;have bt:(Ty.sl t0).size=1:=rfl;rw[bt]at a9 ac;have aa:cs.size=c.toNat*1:=by rw[<-a7, <-a9];simp[madeCells]
    have hx:R5 w (w.alloc (.cells cs ti.elem)):=R5.alloc w _;have h4:=h.more (Z':=Z) hx (fun _=>id) (fun _=> .inl);have ae:l.toNat<=c.toNat:=by omega
    have a5:F7 (C4 (.sl t0) (w.alloc (.cells cs ti.elem)) Z) (cs.toList.take (l.toNat*1)) (List.replicate l.toNat (Ty.sl t0).dflt):=by
     rw[<-a7,a9];exact LU ab rfl ac _ _ ae
    have a0:(w.alloc (.cells cs ti.elem)).ownsRow w0.heap.size ti.elem 1 (.slice (some ⟨w.heap.size,0,none⟩) l.toNat c.toNat) l.toNat (cs.toList.take (l.toNat*1)):=by
     refine⟨?_, .inr ⟨w.heap.size,c.toNat,cs,rfl,h.ext.size,Lf w _ _,ae, ?_,aa,rfl⟩⟩
     . rw[qW,sR,aa];exact sW (rM _ ae)
     . simp only[maxLen];omega
    have bi:∀x∈cs.toList.take (l.toNat*1),x= .slice none 0 0:=fun x hx=>by
     have hx:=rZ hx;rw[<-a7]at hx;simp only[madeCells,g1m,tC]at hx;obtain⟨j,_,rfl⟩:=hx;have cn:z.cells.toList= [.slice none 0 0]:=ab;have cp:z.cells= #[.slice none 0 0]:=by rw[<-uS (xs:=z.cells),cn]
     rw[cp];simp[g4o]
    obtain⟨B',h5⟩:=h4.newRows d t0 t2.elem a0 bi (fun b hb=>by
     simp only[Value.ownBlock,rE]at hb;refine⟨fun hz=> ?_,fun q hq=> ?_⟩
     . have:=h.zlt b hz;omega
     . have:=((h.locs q).root (h.ft hx hq)).2.1;omega) (fun b _ hb=>by simp only[Value.ownBlock,rE]at hb;have:=h.mrk.1;omega)
    exact U6 hy hg ⟨fun _=>hx,_,_,_,h5,hk⟩
   |false=>
   simp only[bp,rF]at u;cases hd:Rp t with
   |false=>simp only[hd,rF]at u;cases u
   |true=>
    simp only[hd,qQ]at u;cases u;obtain⟨f1,f2,f3,f4⟩:=b1;obtain⟨i,z,hu,hi,hz,a9,ab,ac,hb,ay⟩:=Kw (B8 hty a4) ht;obtain⟨k1,e1,_⟩:=h.int (F6 E) hl;obtain⟨k2,e2,_⟩:=h.int (F6 E) hc;have a3:=run_make (P:=cx.P) w T ti.elem i z hu hi hz k1 k2 l c f1 f2 (by rw[hb];exact f3) f4;have hy:Gw.E4 cx.P E ty (.makeSlice T lo co) w (.slice (some ⟨w.heap.size,0,none⟩) l.toNat c.toNat) (w.alloc (.cells (madeCells z.cells (c.toNat*i.size)) ti.elem)):=fun _ _ _ _=>by simp[execOp,e1,e2,a3]
    generalize a7:madeCells z.cells (c.toNat*i.size)=cs at hy;have aa:cs.size=c.toNat*t.size:=by rw[<-a7, <-a9];simp[madeCells]
    have hx:R5 w (w.alloc (.cells cs ti.elem)):=R5.alloc w _;have h4:=h.more (Z':=Z) hx (fun _=>id) (fun _=> .inl);have ae:l.toNat<=c.toNat:=by omega
    have a5:F7 (C4 t (w.alloc (.cells cs ti.elem)) Z) (cs.toList.take (l.toNat*t.size)) (List.replicate l.toNat t.dflt):=by
     rw[<-a7,a9];exact LU ab hd ac _ _ ae
    have a0:(w.alloc (.cells cs ti.elem)).ownsRow w0.heap.size ti.elem t.size (.slice (some ⟨w.heap.size,0,none⟩) l.toNat c.toNat) (List.replicate l.toNat t.dflt).length (cs.toList.take (l.toNat*t.size)):=by
     rw[rI];refine⟨?_, .inr ⟨w.heap.size,c.toNat,cs,rfl,h.ext.size,Lf w _ _,ae, ?_,aa,rfl⟩⟩
     . rw[qW,sR,aa];exact sW (rM _ ae)
     . simp only[maxLen];omega
    obtain⟨B',h5⟩:=h4.newRow d a0 a5 (fun b hb=>by
     simp only[Value.ownBlock,rE]at hb;refine⟨fun hz=> ?_,fun q hq=> ?_⟩
     . have:=h.zlt b hz;omega
     . have:=((h.locs q).root (h.ft hx hq)).2.1;omega) (fun b _ hb=>by simp only[Value.ownBlock,rE]at hb;have:=h.mrk.1;omega)
    exact U6 hy hg ⟨fun _=>hx,_,_,_,h5,hk⟩
 . rename_i args ts;split at u
   . rename_i x y T T' a2 ar;cases hT:Nat.beq T T' with
     |false=>simp[hT]at u
     |true=>
      simp only[hT,qQ]at u;have bv:=qD hT;subst bv;have h0:=h.detO x (b4.imp id fun hh k hk=>by
       have:=hh _ rfl;simp only[dV,a2,hk,qC,rQ]at this;exact this.2)
      have bg:=B1u st x;have bk:za.b0=0\/∀j,(st.ev [] x).bind Vc.c1=some (C.row j)->za.k0<=j:=b4.imp id fun hh j hj=>by
       have:=hh _ rfl;simp only[dV,a2,hj,qC,rQ]at this;exact qP this.1
      generalize Vc.detO st x=ah at u h0 bg;simp only[B5l,qH,bind_some]at u;obtain⟨ti,a4,t,ht,a,⟨sa,be,bf⟩,b,⟨sb,ce,bz⟩,l,hl,ys,ck,u⟩:=u;have ht:=Ji ht;cases hd:dO a b&&Nat.ble 1 t.size with
      |false=>simp only[hd,rF]at u;cases u
      |true=>
       simp only[hd,qQ]at u;cases u;simp only[qC]at hd;obtain⟨f1,f2⟩:=b1;obtain⟨i,z,hu,hi,hz,a9,ab,ac,hb,ay⟩:=Kw (B8 hty a4) ht;have ha:=h0.c1 (F6 E) (bind_some.2 ⟨sa,be,bf⟩);have bx:=h0.c1 (F6 E) (bind_some.2 ⟨sb,ce,bz⟩);obtain⟨ao,bu,ec,hv,c7,ca,ax,a5⟩:=SR h0 bx.1 ck;have c3:=F7.length (R:=C4 t w Z) (s:=t.size) (fun _ _ h=>C4.length h) a5;have ak:za.b0=0\/∀j,a= .row j->za.k0<=j:=bk.imp id fun hh j hj=>hh j (by
        rw[bg]at be;exact bind_some.2 ⟨sa,be,by rw[bf,hj]⟩)
       have bn:∃xs,w.ownsRow w0.heap.size ti.elem t.size (Gw.ev E x) l.length xs/\F7 (C4 t w Z) xs l/\(∀q,(Gw.ev E x).ownBlock=some q->¬Z q/\w0.heap.size<=q/\∀j,¬A9 w (B j) ((dropR ah a).L j) q)/\B7 za w0 (dropR ah a) E w Z B/\(∀q,(Gw.ev E x).ownBlock=some q->za.b0<=q):=by
        unfold MR at hl;split at hl
        . rename_i j;split at hl
          . rename_i t' e' l' hj;split at hl
            . rename_i b8;subst b8;cases he:Nat.beq e' ti.elem&&Nat.ble ah.nm j with
              |false=>simp only[he,rF]at hl;cases hl
              |true=>
               simp only[he,qQ]at hl;cases hl;simp only[qC]at he;have cr:=qP he.2;have c2:=qD he.1;subst c2;have hL:=h0.locs j;rw[hj]at hL;obtain⟨xs,a0,b7,b5⟩:=hL;have cg:∀q,(B j).ownBlock=some q->w0.heap.size<=q:=fun q hq=>by
                rcases(b5 q hq).1 with g|g
                . exact g.2
                . have:=h0.nms.1;omega
               replace a0:=nV a0 cg;have cb:=fun q hq=>(b5 q hq).2
               have ag:Gw.ev E x=B j:=ha.1;have bm:=F3 a0;rw[<-ag]at a0;refine⟨xs,a0,b7,fun q hq=> ?_,h0.drop j,fun q hq=> ?_⟩
               case refine_2=>
                rw[ag]at hq;rcases ak with ak|ak
                . rw[ak];exact rN _
                . exact h0.mrk.2 j q (ak j rfl) (by rw[hj];exact bm.trans hq)
               rw[ag]at hq;refine⟨cb q hq,(World.ownsRow.lt a0 q (by rw[ag];exact hq)).1,fun j' aj=> ?_⟩;simp only[dropR,St.L_setL]at aj;by_cases bb:j'=j
               . rw[qT bb]at aj;exact aj.elim
               . rw[qL bb]at aj;exact h0.disj j' j q bb aj (by rw[hj];exact bm.trans hq)
            . cases hl
          . cases hl
        . rename_i v0;cases hn:CD v0 with
          |false=>simp[hn]at hl
          |true=>
           simp[hn]at hl;subst hl;have ag:Gw.ev E x= .slice none 0 0:=by rw[ha.1.1];exact Ui hn
           refine⟨[],by rw[ag];exact World.ownsRow_nil _ _ _ _,rfl,fun q hq=> ?_,h0,fun q hq=> ?_⟩<;>(rw[ag]at hq;cases hq)
        . cases hl
       obtain⟨xs,a0,b7,az,am,ch⟩:=bn;obtain⟨v',w1,a3,bd,b9,b2,c0⟩:=RX (P:=cx.P) (ty:=ty) hu hi hz a9 ac (qP hd.2) a0 (ao:=ao) (m:=ys.length) (c:=bu) (news:=ec) c3 (fun a ha=>ax a ha) (fun hn=>by have:=ca hn;omega) (F7.oneCell a5) f2 (by rw[hb];exact f1) h0.ext.size;have a1:∀q,(Z q\/∃j,A9 w (B j) ((dropR ah a).L j) q)->w1.heap[q]? =w.heap[q]?:=fun q hq=>by
        refine b9.block q ?_ (fun hh=> ?_)
        . rcases hq with hq| ⟨j,hj⟩
          . exact h0.zlt q hq
          . exact((am.locs j).root hj).2.1
        . have:=az q hh.symm;rcases hq with hq| ⟨j,hj⟩
          . exact this.1 hq
          . exact this.2.2 j hj
       have h4:=am.keep (Z':=Z) (h0.ext.grown b9 c0 (fun q hq=> .inl (az q hq).2.1)) b9.size a1 (fun _=>id) (fun _=> .inl);have bs:O2 Z w w1:=fun q hq=>a1 q (.inl hq)
       have b3:∀j q,A9 w1 (B j) ((dropR ah a).L j) q->A9 w (B j) ((dropR ah a).L j) q:=fun j q hf=>(A9.iff fun c hc=>a1 c (.inr ⟨j,hc⟩)).1 hf
       obtain⟨B',h5⟩:=h4.newRow d (l:=l++ys) (by rw[rP];exact bd) ((b7.append a5).mono fun _ _=>C4.mono (fun _=>id) bs) (fun q hq=>by
        rcases b2 with ad|ad
        . rw[ad]at hq;exact⟨(az q hq).1,fun j hj=>(az q hq).2.2 j (b3 j q hj)⟩
        . rw[ad]at hq;cases hq;exact⟨fun hz=>absurd (h0.zlt _ hz) (xR _),fun j hj=>absurd ((am.locs j).root (b3 j _ hj)).2.1 (xR _)⟩) (fun q cu hq=>by
        rcases b2 with ad|ad
        . rw[ad]at hq;exact ch q hq
        . rw[ad]at hq;cases hq;exact h0.mrk.1)
       have a6:args= #[x,y]:=by rw[<-a2]
       have au:ts= #[T,T]:=by rw[<-ar]
       subst a6 au;refine U6 (v:=v') (w':=w1) (fun _ _ _ _=> ?_) hg ⟨fun hh=>(by cases hh),_,_,_,h5,hk⟩;simp[execOp,resolve,invoke,builtin,hv,a3]
   . cases u
 . rename_i T r;simp only[qH,bind_some]at u;obtain⟨ti,a4,u⟩:=u;split at u
   . rename_i ka kt va vt hT;cases u;obtain⟨B',h5⟩:=h.newMap d ka kt va vt;exact U6 A4l hg ⟨fun _=>R5.alloc w _,_,_,_,h5,hk⟩
   . rename_i ka kt va vt o hT;simp only[qK]at u;obtain⟨n,hn,u⟩:=u;cases u;obtain⟨hu,_⟩:=Vk (B8 hty a4) hT;obtain⟨kd,e1,_⟩:=h.int (F6 E) hn;obtain⟨B',h5⟩:=h.newMap d ka kt va vt;refine U6 (v:= .map (some w.heap.size)) (w':=w.alloc (.map #[] 0)) (fun _ _ _ _=> ?_) hg ⟨fun _=>R5.alloc w _,_,_,_,h5,hk⟩;simp[execOp,Instr.makeMap,e1,run_underlying hu,asInt,go_sem]
   . cases u
 . rename_i args ts;split at u
   . rename_i x T a2 ar;simp only[qH,bind_some]at u;obtain⟨ti,a4,u⟩:=u;split at u
     . rename_i ka kt va vt hT;simp only[bind_some]at u;obtain⟨c,⟨s,ap,aq⟩,es,a8,u⟩:=u;cases u;have ai:(es.length:Int)<=9223372036854775807:=by have:es.length<=9223372036854775807:=b1;omega
       have a6:args= #[x]:=by rw[<-a2]
       have au:ts= #[T]:=by rw[<-ar]
       subst a6 au;obtain⟨hu,_⟩:=Vk (B8 hty a4) hT;have h1:=h.c1 (F6 E) (bind_some.2 ⟨s,ap,aq⟩);have c4:LQ .i64 (es.length:Int):=by
        unfold LQ;have e1:i64.min= -9223372036854775808:=by decide
        have e2:i64.max=9223372036854775807:=by decide
        omega
       have cj:Gw.E4 cx.P E ty (.call ⟨.builtin .len, #[x], #[T]⟩) w (.int .i64 (es.length:Int)) w:=by
        intro _ _ _ _;rcases A0b h h1.1 a8 with⟨e,hn⟩ | ⟨b,ents,cl,e,c9,hb,he⟩
        . simp[execOp,resolve,invoke,builtin,Builtin.len_,e,run_underlying hu,goInt,hn]
        . have bh:(getObj b).run cx.P w= .ok (.map ents cl) w:=by simp[getObj,Sem.run,hb]
          have hl:=R4.len he;simp[execOp,resolve,invoke,builtin,Builtin.len_,e,run_underlying hu,bh,goInt]at hl⊢;exact tT Int.ofNat hl
       exact U6 cj hg ⟨fun _=>R5.refl w,_,_,_,h.setS d (x:=one1 (.val (.int .i64) (es.length:Int))) ⟨_,[],rfl,⟨rfl,c4⟩,rfl⟩ (fun c hc=>by simp at hc;subst hc;trivial),hk⟩
     . cases u
   . cases u
 . rename_i T x;simp only[qK]at u;obtain⟨st2,hl,u⟩:=u;cases u;obtain⟨v,B',h1,h2⟩:=jB (ty:=ty) h hty hl;exact U6 (h1 w (R5.refl w)) hg ⟨fun _=>R5.refl w,_,_,_,h2,hk⟩
 . rename_i T x;simp only[qH,bind_some]at u;obtain⟨ti,a4,u⟩:=u;split at u
   . rename_i ka kt va vt hT;simp only[bind_some]at u;obtain⟨c,⟨s,ap,aq⟩,es,a8,u⟩:=u;cases u;obtain⟨hu,_⟩:=Vk (B8 hty a4) hT;obtain⟨Z1,h1⟩:=h.settleO x;have hc:=(h1.c1 (F6 E) (bind_some.2 ⟨s,ap,aq⟩)).1;have key:∀o,(Instr.range T (Gw.ev E x)).run cx.P w= .ok (.pointer (some ⟨w.heap.size,0,none⟩)) (w.alloc o)->ItR (w.alloc o) Z1 ka kt va vt w.heap.size es none->I0 cx.P all ⟨some d, .range T x,ty,pos,aft,g⟩ (fJ za w0 w (wrB (.range T x)) k) E w:=fun o a3 ba=>by
      have hx:R5 w (w.alloc o):=R5.alloc w _;have h4:=h1.more (Z':=Z1) hx (fun _=>id) (fun _=> .inl);have h2:=h4.new (v:= .pointer (some ⟨w.heap.size,0,none⟩)) (lc:= .iter ka kt va vt es none) ⟨w.heap.size,C2 _ _ _, .inl ⟨h1.nms.2,h.ext.size⟩,fun hz=>absurd (h1.zlt _ hz) (xR _),ba⟩
       (fun k b hb bw=>by
        simp only[A9,root,rE]at hb;have:=((h1.locs k).root (h1.ft hx bw)).2.1;omega)
       trivial rfl (fun b _ hb=>by simp only[A9,root,rE]at hb;have:=h.mrk.1;omega)
      have h5:=h2.setS d (x:=one1 (.box (settleO st x).nx 0)) (v:= .pointer (some ⟨w.heap.size,0,none⟩)) ⟨_,[],rfl,⟨w.heap.size,C2 _ _ _,rfl⟩,rfl⟩ (fun c hc=>by simp at hc;subst hc;exact rV _);exact U6 (fun _ _ _ _=>by simp[execOp,a3]) hg ⟨fun _=>hx,_,_,_,h5,hk⟩
     unfold B0e at a8;split at a8
     . split at a8
       . rename_i b8;subst b8;cases a8;rcases hc with⟨e,hn⟩ | ⟨b,ents,cl,e,hb,hh,hm,he⟩
         . simp only[sL,vM]at e;exact key (.mapIter none 0 #[] 0) (by rw[e];exact run_range_nilMap (P:=cx.P) w T _ _ hu) (.inl ⟨heap_alloc_new w _,hn,rfl⟩)
         . simp only[sL,vM]at e;have c9:=h1.zlt b hb;have bh:(getObj b).run cx.P w= .ok (.map ents cl) w:=by simp[getObj,Sem.run,hh]
           have a1:O2 Z1 w (w.alloc (.mapIter (some b) cl #[] cl)):=fun q hq=>(R5.alloc w _).block q (h1.zlt q hq)
           refine key (.mapIter (some b) cl #[] cl) (by rw[e];exact run_range_map (P:=cx.P) w T _ _ b ents cl hu hh) (.inr ⟨b, #[],ents,cl,heap_alloc_new w _,hb,(a1 b hb).trans hh,hm, ?_,fun x hx=>by cases hx⟩);have c8:leftOf ents #[]=ents:=by simp[leftOf]
           rw[c8];exact Ra.mono (fun _=>id) a1 he
       . cases a8
     . cases a8;have e:Gw.ev E x= .map none:=hc.1;exact key (.mapIter none 0 #[] 0) (by rw[e];exact run_range_nilMap (P:=cx.P) w T _ _ hu) (.inl ⟨heap_alloc_new w _,rfl,rfl⟩)
     . cases a8
   . cases u
 . rename_i x;simp only[qH,bind_some]at u;obtain⟨c,⟨s,ap,aq⟩,u⟩:=u;split at u
   . rename_i q off;split at u
     . rename_i ka kt va vt left y hq;cases hd:Nat.beq off 0 with
       |false=>simp only[hd,rF]at u;cases u
       |true=>
        simp only[hd,qQ]at u;cases u;have bj:=qD hd;subst bj;obtain⟨b,hB,hv⟩:=(h.c1 (F6 E) (bind_some.2 ⟨s,ap,aq⟩)).1;have hL:=h.locs q;rw[hq]at hL;obtain⟨r,hr,_,_,ba⟩:=hL;rw[hB]at hr;cases hr;rcases ba with⟨_,_,hn⟩ | ⟨m,seen,ents,cl,i1,i2,i3,i4,i5,i6⟩
        . cases hn
        . obtain⟨e,he,⟨seen',cd⟩,c5,c6⟩:=i6 y rfl;subst cd;have a3:=run_entry_at (P:=cx.P) w b m cl seen' ents cl e i1 i3 he i4.2;refine U6 (v:= .tuple #[e.key,e.val]) (w':=w) (fun _ _ _ _=>by simp[execOp,hv,a3]) hg ⟨fun _=>R5.refl w,_,_,_,h.setS d (x:= .tup [⟨ka,explode kt y.1⟩,⟨va,explode vt y.2⟩]) ⟨[e.key,e.val],rfl,_,_,rfl,Az.explode c5,_,_,rfl,Az.explode c6,rfl⟩ (fun s u c hc=> ?_),hk⟩;simp only[qG,sA,vH]at u;rcases u with rfl|rfl<;>exact D8 c hc
     . cases u
   . cases u
 . rename_i args ts;split at u
   . rename_i x y T sT a2 ar;obtain⟨ah,bq,u⟩:=qK.1 u;cases u;have ea:args= #[x,y]:=zT.1 a2;have et:ts= #[T,sT]:=zT.1 ar;subst ea et;obtain⟨v,w',B',hy,hr⟩:=A6g (ty:=ty) (sT:=sT) h hty bq;exact U6 hy hg ⟨fun hh=>(by cases hh),_,_,_,hr,hk⟩
   . cases u
 . cases u
end
def Zx (off n:Nat) (cs u:List C):List C:=cs.take off++u++cs.drop (off+n)
def pC (st:St) (k r:Nat) (lc:LC):St:=(((st.setL r .none).setL k .none).setL k lc).setL r (.al k)
def hoP (i:Nat):Option Nat->Option Prop
 |none=>none
 |some j=>some (i=j)
def attach (st:St) (k r i:Nat) (t:Ty) (e e':TypeId) (ls:List (List t.den)) (ho:Option Nat):Option (Option Prop×St):=match st.L r with
 | .row u e2 l=>if h:u=t then(bif Nat.beq e2 e'&&Nat.ble st.nm r&&Nat.ble st.nm k&&Nat.blt k r then some (hoP i ho,pC st k r (.rows t e e' (ls.set i (h▸l)) [(i,r)] none))else none)else none
 | _=>none
def eQ (ti:TI) (u:St) (s:SV) (k sz i off:Nat):Option St:=match u.L k with
 | .row t e l=>bif s.cs.all Ex&&Nat.beq s.cs.length ti.ty.size&&Nat.beq sz t.size&&Nat.ble (off+ti.ty.size) t.size then
  (match Mg t (Zx off ti.ty.size (explode t (l.getD i t.dflt)) s.cs)with
   |some (x,[])=>some (u.setL k (.row t e (l.set i x)))
   | _=>none)else none
 | .al j=>match u.L j with
  | .rows t e e' ls al none=>match NU k al with
   |some i0=>bif s.cs.all Ex&&Nat.beq s.cs.length ti.ty.size&&Nat.beq sz t.size&&Nat.ble (off+ti.ty.size) t.size then
    (match Mg t (Zx off ti.ty.size (explode t ((ls.getD i0 []).getD i t.dflt)) s.cs)with
     |some (x,[])=>some (u.setL j (.rows t e e' (ls.set i0 ((ls.getD i0 []).set i x)) al none))
     | _=>none)else none
   |none=>none
  | _=>none
 | _=>none
def VM (cx:Cx) (st:St) (T:TypeId) (p v:Operand):Option (Option Prop×St):=do
 let ti<-cx.ti T
 let c<-(st.ev [] p).bind c1
 match c with
 | .box k off=>do
  let s<-st.ev [] v
  match st.L k with
  | .box T' cs=>bif s.cs.all Ex&&Nat.beq s.cs.length ti.ty.size&&Nat.ble (off+ti.ty.size) cs.length then some (none,st.setL k (.box T' (Zx off ti.ty.size cs s.cs)))else none
  | _=>none
 | .elp k sz i off=>match st.L k with
  | .rows t e e' ls _ ho=>match st.ev [] v with
   |some ⟨false,[.row r]⟩=>bif Nat.beq sz 1&&Nat.beq off 0&&Nat.beq ti.ty.size 1 then attach st k r i t e e' ls ho else none
   | _=>none
  | _=>do
   let s<-(settleO st v).ev [] v
   (eQ ti (settleO st v) s k sz i off).map fun st'=>(none,st')
 | _=>none
def mapM (st:St) (ka:Bool) (kt:Ty) (va:Bool) (vt:Ty) (k:Nat):Option (List (kt.den×vt.den)):=match st.L k with
 | .map u a0 a1 a2 es=>if h:Ty.mp u a0 a1 a2=Ty.mp ka kt va vt then some (h▸(show(Ty.mp u a0 a1 a2).den from es):(Ty.mp ka kt va vt).den)else none
 | _=>none
def TR (cx:Cx) (st:St) (d:Tmp) (T:TypeId) (m x:Operand):Option St:=none
def SS (st:St) (m s y:Operand):Option St:=none
def LV (cx:Cx) (st:St) (T:TypeId) (m x y:Operand):Option St:=do
 let ti<-cx.ti T
 let c<-((settleO st y).ev [] m).bind c1
 let u<-(settleO st y).ev [] x
 let sy<-(settleO st y).ev [] y
 match ti.ty,c with
 | .mp ka kt va vt, .mp k=>do
  let es<-mapM (settleO st y) ka kt va vt k
  let key<-Rz ka kt u
  let v<-Rz va vt sy
  some ((settleO st y).setL k (.map ka kt va vt (Fc kt key v es)))
 | _,_=>none
section
variable {za:Zn} {w0 w w':World} {Z Z':Nat->Prop} {B:Nat->Value} {st st':St} {E:F8} {cx:Cx} {φ:Option Prop} {d:Tmp} {all:List Oper} {ty:TypeId} {pos:String} {aft:Array Edge} {g:Option (Nat×Bool)} {k:St->Prop}
def Dh.one (h:B7 za w0 st E w Z B):∀ {cs:List C} {vs:List Value},cs.all Ex=true->Dh w Z B cs vs->∀u∈vs,u.oneCell'=true
 | [],_,_,hr=>by rw[show _= _ from hr];exact Kx
 |c::cs,_,hd,⟨v,a0,e,h1,h2⟩=>by
  simp only[sY,qC]at hd;rw[e];exact Mf (RC.one h hd.1 h1) (Dh.one h hd.2 h2)
def bA {off n:Nat} {cs u:List C} {vs us:List Value} (h:Dh w Z B cs vs) (hp:Dh w Z B u us) (hn:u.length=n):Dh w Z B (Zx off n cs u) (vs.take off++us++vs.drop (off+us.length)):=by
 have:us.length=n:=by rw[<-hn,hp.len]
 rw[this];exact((h.take off).append hp).append (h.drop (off+n))
def kI {α:Type} {cur us:List α} {n a sz off m:Nat} (u:us.length=m) (h1:a+sz<=n) (h2:n<=cur.length) (h3:off+m<=sz):
 (cur.take (a+off)++us++cur.drop (a+off+m)).take n=(cur.take n).take a++((((cur.take n).drop a).take sz).take off++us++(((cur.take n).drop a).take sz).drop (off+m))++(cur.take n).drop (a+sz):=by
 have e1:(cur.take n).take a=cur.take a:=by rw[g0w,sW (by omega)]
 have e2:((cur.take n).drop a).take sz=(cur.drop a).take sz:=by rw[g0u,g0w,sW (by omega)]
 have e3:((cur.drop a).take sz).take off=(cur.drop a).take off:=by rw[g0w,sW (by omega)]
 have e4:((cur.drop a).take sz).drop (off+m)=(cur.drop (a+off+m)).take (sz-(off+m)):=by rw[g0u,vR,uH]
 have e5:(cur.take n).drop (a+sz)=(cur.drop (a+sz)).take (n-(a+sz)):=by rw[g0u]
 have e6:cur.take a++(cur.drop a).take off=cur.take (a+off):=by rw[List.take_add]
 have e7:(cur.drop (a+off+m)).take (sz-(off+m))++(cur.drop (a+sz)).take (n-(a+sz))=(cur.drop (a+off+m)).take (n-(a+off+m)):=by
  have:n-(a+off+m)=(sz-(off+m))+(n-(a+sz)):=by omega
  rw[this,List.take_add,vR];congr 3;omega
 rw[e1,e2,e3,e4,e5];have hl:(cur.take (a+off)).length=a+off:=by rw[qW];omega
 rw[zV,qV (by rw[rP,hl,u];omega),rP,hl,u, <-e7, <-e6];simp only[uC]
def frE (k0 k:Nat) (a b:LC):Bool:=match a with
 | .rows _ _ _ _ _ _=>Nat.ble k0 k
 | _=>match b with
  | .al j=>Nat.ble k0 j
  | _=>Nat.ble k0 k
def frO (k0:Nat) (st:St):Op->Bool
 | .store _ p v=>match(st.ev [] p).bind c1 with
  |some (.box k _)=>Nat.ble k0 k
  |some (.elp k _ _ _)=>frE k0 k (st.L k) ((settleO st v).L k)
  | _=>false
 | _=>false
def BN {B0 b:Nat} (u:WZ b w w') (hb:B0<=b):Below B0 w w'/\True:=⟨⟨u.1,u.2.1,u.2.2.1.1,by rw[u.2.2.2.1];exact rB _,fun k hk=>u.2.2.2.2 k (by omega)⟩,trivial⟩
def U8 {α:Type} {c:Bool} {a:Option α} {x:α} (h:(bif c then a else none)=some x):c=true/\a=some x:=by
 cases c with
 |true=>exact⟨rfl,h⟩
 |false=>cases h
def B6m {k0 sz i off q:Nat} {T:TypeId} {p v:Operand} (hh:frO k0 st (.store T p v)=true) (u:(st.ev [] p).bind c1=some (.elp q sz i off)) (hl:(match(settleO st v).L q with| .al _=>false| _=>true)=true):k0<=q:=by
 simp only[frO,u]at hh;generalize st.L q=a at*;generalize (settleO st v).L q=b at*;unfold frE at hh;cases a<;>cases b<;>simp at hl hh<;>exact hh
def B6l {k0 sz i off q j:Nat} {T:TypeId} {p v:Operand} (hh:frO k0 st (.store T p v)=true) (hp:(st.ev [] p).bind c1=some (.elp q sz i off)) (u:∀t e e' ls al ho,st.L q= .rows t e e' ls al ho->False) (hl:(settleO st v).L q= .al j):k0<=j:=by
 simp only[frO,hp,hl]at hh;cases ha:st.L q with
 |rows t e e' ls al ho=>exact(u _ _ _ _ _ _ ha).elim
 | _=>simp[ha,frE]at hh;exact hh
def ZA {v:Value} (h:v.oneCell'=true):v.cells.toList= [v]:=by
 have:v.cells= #[v]:=by cases v<;>simp[Value.cells,Value.oneCell']at h⊢
 rw[this]
def aT {P:Program} (h1:B7 za w0 st E w Z B) {T e:TypeId} {p v:Operand} {t:Ty} {l:List t.den} {xs:List Value} {b m a3 i off n:Nat} {s:SV} {x:t.den} (ar:Sv P T n=true) (ah:w.ownsRow 0 e t.size (.slice (some ⟨b,0,none⟩) m a3) l.length xs) (u:F7 (C4 t w Z) xs l) (ag:¬Z b) (hi:i<m) (hv:Gw.ev E p= .pointer (some ⟨b,i*t.size+off,none⟩))
 (a8:Dh w Z B s.cs (Gw.ev E v).cells.toList) (aq:s.cs.all Ex=true) (a6:s.cs.length=n) (ab:off+n<=t.size) (hx:Mg t (Zx off n (explode t (l.getD i t.dflt)) s.cs)=some (x,[])):
 ∃w',Gw.NL P E ty (.store T p v) w w'/\WZ b w w'/\∃ak,w'.ownsRow 0 e t.size (.slice (some ⟨b,0,none⟩) m a3) (l.set i x).length ak/\F7 (C4 t w' Z) ak (l.set i x):=by
 have a2:(Gw.ev E v).cells.toList.length=n:=by rw[<-a6,a8.len]
 rcases ah.2 with⟨hh,_⟩ | ⟨b',av,cur,hh,hb0,ac,af,am,a1,au⟩
 . cases hh
 . cases hh;have aw:=F7.length (R:=C4 t w Z) (s:=t.size) (fun _ _ h=>C4.length h) u;have ad:=F7.get (R:=C4 t w Z) (s:=t.size) (fun _ _ h=>C4.length h) u (qS hi);have ao:l.getD i t.dflt=l[i]:=by rw[qF,qS hi];rfl
   rw[ao]at hx;have ae:i*t.size+t.size<=l.length*t.size:=by rw[<-uL];exact rM _ hi
   have ap:l.length*t.size<=a3*t.size:=rM _ af;generalize hU:(Gw.ev E v).cells.toList=us at*;have aj:=QP (P:=P) (ty:=ty) (w:=w) us hv rfl hU ar a2 ac (by rw[a2,a1];omega) (Dh.one h1 aq a8);generalize a5:(cur.toList.take (i*t.size+off)++us++cur.toList.drop (i*t.size+off+us.length)).toArray=a0 at aj;have a4:WZ b w (w.setRow b a0):=⟨rfl,rfl,⟨rfl,rB _⟩,by simp,fun k hk=>setRow_other w b k _ hk⟩;have a9:O2 Z w (w.setRow b a0):=fun z hz=>a4.2.2.2.2 z (fun hh=>ag (hh▸hz))
   have ai:=Gj (bA (off:=off) (T5 (B:=B) ad) a8 a6) hx;have a7:=F7.set (R:=C4 t w Z) (s:=t.size) (fun _ _ h=>C4.length h) u ai hi;refine⟨_,aj,a4,_, ?_,a7.mono fun _ _=>C4.mono (fun _=>id) a9⟩;rw[qN];have aa:=F7.length (R:=C4 t w Z) (s:=t.size) (fun _ _ h=>C4.length h) a7;refine⟨by rw[aa,qN], .inr ⟨b,a3,a0,rfl,hb0,setRow_heap w b cur _ e _ ac,af,am, ?_, ?_⟩⟩
   . rw[<-a5];simp only[zQ,rP,qW,sN,sR,a1,a2];omega
   . rw[<-a5];simp only[g0m];rw[a2, <-au];exact kI a2 ae (by simpa[a1]using ap) ab
def B7.attach (h:B7 za w0 st E w Z B) {k r i g:Nat} {t:Ty} {e e':TypeId} {ls:List (List t.den)} {al:List (Nat×Nat)} {ho:Option Nat} {l:List t.den} {xs:List Value} (hk:st.L k= .rows t e e' ls al ho) (hr:st.L r= .row t e' l) (ae:k≠r) (b1:st.nm<=k) (be:st.nm<=r) (hi:i<ls.length) (aj:∀j,ho=some j->i=j)
 (aw:w.ownsRow 0 e 1 (B k) ls.length xs) (hg:root (B k)=some g) (hc:WZ g w w') (aa:w'.ownsRow 0 e 1 (B k) ls.length (xs.set i (B r))) (b3:za.k0<=k->∀b,root (B r)=some b->za.b0<=b):B7 za w0 (pC st k r (.rows t e e' (ls.set i l) [(i,r)] none)) E w' Z B:=by
 have hL:=h.locs k;have ao:=h.locs r;rw[hk]at hL;rw[hr]at ao;obtain⟨bg,h1,⟨g2,g3,g4⟩,h5,h6⟩:=hL;have b6:=Zp aw h1;subst b6;obtain⟨ys,r1,r2,r3⟩:=ao;have a5:A9 w (B k) (st.L k) g:=by rw[hk];exact .inl hg
 have ar:¬Z g:=((h.locs k).root a5).2.2;have ab:O2 Z w w':=fun c hc'=>hc.2.2.2.2 c (fun e=>ar (e▸hc'))
 have a4:∀b,root (B r)=some b->A9 w (B r) (st.L r) b:=fun b hb=>by rw[hr];exact hb
 have b4:root (B r)≠some g:=fun hb=>h.disj k r g ae a5 (a4 g hb)
 have b2:k<st.nx:=Ew h (by rw[hk];trivial);have ax:r<st.nx:=Ew h (by rw[hr];trivial);have bf:xs.length=ls.length:=by have:=h1.1;omega
 have ai:∀b,A9 w' (B k) (.rows t e e' (ls.set i l) [(i,r)] none) b->root (B r)=some b\/A9 w (B k) (st.L k) b:=fun b hb=>by
  rcases hb with hb| ⟨g',n',b7,b9,e1,j,x,hv,ay,hj,_,hx,hb⟩
  . exact .inr (by rw[hk];exact .inl hb)
  . have af:(xs.set i (B r))[j]? =some x:=by
     rcases aa.2 with⟨ac,_⟩ | ⟨bc,b8,ba,ac,_,aq,bd,_,bb,b5⟩
     . rw[hv]at ac;cases ac
     . rw[hv]at ac;cases ac;rw[ay]at aq;cases aq;rw[<-b5,rT (by omega)];simpa using hx
    by_cases u:i=j
    . subst u;rw[tB (by omega)]at af;cases af;exact .inl hb
    . rw[tF u]at af;refine .inr ?_;rw[hk];have a9:Ju ho j=false:=by
       cases ho with
       |none=>rfl
       |some q=>have:=aj q rfl;subst this;exact C8 u
      exact Yx h1 a9 af hb
 have d1:=(h.drop r).drop k;have d2:B7 za w0 ((st.setL r .none).setL k .none) E w' Z B:=by
  refine d1.keep (h.ext.chg hc ((h.locs k).root a5).1.m) (by rw[hc.2.2.2.1];exact rB _) (fun q hq=>hc.2.2.2.2 q ?_) (fun _=>id) (fun _=> .inl);rintro rfl;rcases hq with hq| ⟨j,hq⟩
  . exact ar hq
  . rw[St.L_setL]at hq;split at hq
    . exact hq.elim
    . rename_i a7;rw[St.L_setL]at hq;split at hq
      . exact hq.elim
      . exact h.disj j k q a7 hq a5
 have hU:∀b,(root (B r)=some b\/A9 w (B k) (st.L k) b)->up za w0 k b/\¬Z b/\b<w.heap.size:=fun b hb=>by
  rcases hb with hb|hb
  . obtain⟨a1,a2,a3⟩:=(h.locs r).root (a4 b hb);refine⟨?_,a3,a2⟩;rcases a1 with a1|a1
    . exact .inl ⟨by rw[<-h.nms.1];exact b1,a1.2⟩
    . have:=h.nms.1;omega
  . obtain⟨a1,a2,a3⟩:=(h.locs k).root hb;exact⟨a1,a3,a2⟩
 have ak:∀(j:Nat) (l':List t.den) (x:Value),i≠j->ls[j]? =some l'->xs[j]? =some x->Ju ho j=false/\∃zs,w'.ownsRow 0 e' t.size x l'.length zs/\F7 (C4 t w' Z) zs l':=fun j l' x u hl hx=>by
  have a9:Ju ho j=false:=by
   cases ho with
   |none=>rfl
   |some q=>have:=aj q rfl;subst this;exact C8 u
  obtain⟨zs,q1,q2⟩:=g3 j l' x a9 hl hx;refine⟨a9,zs,Gi q1 (fun c ah=>hc.2.2.2.2 c ?_),q2.mono fun _ _=>C4.mono (fun _=>id) ab⟩;rintro rfl;exact h5 j x c a9 hx ((F3 q1).trans ah) hg
 have a8:∀(j:Nat) (x:Value),i≠j->(xs.set i (B r))[j]? =some x->xs[j]? =some x/\Ju ho j=false:=fun j x u hx=>by
  rw[tF u]at hx;refine⟨hx, ?_⟩;cases ho with
  |none=>rfl
  |some q=>have:=aj q rfl;subst this;exact C8 u
 have a6:(xs.set i (B r))[i]? =some (B r):=tB (by omega);have d3:B7 za w0 (((st.setL r .none).setL k .none).setL k (.rows t e e' (ls.set i l) [(i,r)] none)) E w' Z B:=by
  refine d2.addL b2 ⟨_,by rw[qN];exact aa,⟨fun p hp=> ?_,fun j l' x _ hl hx=> ?_,fun j j' x y b au _ _ hx hy hb a0=> ?_⟩,fun j x b _ hx hb=> ?_,fun b hb=> ?_⟩ (fun j b a7 hb a0=> ?_) (fun p hp=> ?_) (fun b av hb=> ?_)
  . simp only[qR]at hp;subst hp;exact a6
  . by_cases u:i=j
    . subst u;rw[tB hi]at hl;rw[a6]at hx;cases hl;cases hx;exact⟨ys,Gi r1 (fun c ah=>hc.2.2.2.2 c (fun e=>b4 (e▸(F3 r1).trans ah))),r2.mono fun _ _=>C4.mono (fun _=>id) ab⟩
    . rw[tF u]at hl;exact(ak j l' x u hl (a8 j x u hx).1).2
  . by_cases u:i=j
    . subst u;rw[a6]at hx;cases hx;have:=a8 j' y au hy;exact h.disj k r b ae (by rw[hk];exact Yx h1 this.2 this.1 a0) (a4 b hb)
    . have ad:=a8 j x u hx;by_cases ag:i=j'
      . subst ag;rw[a6]at hy;cases hy;exact h.disj k r b ae (by rw[hk];exact Yx h1 ad.2 ad.1 hb) (a4 b a0)
      . have am:=a8 j' y ag hy;exact g4 j j' x y b au ad.2 am.2 ad.1 am.1 hb a0
  . by_cases u:i=j
    . subst u;rw[a6]at hx;cases hx;exact fun a0=>h.disj k r b ae (by rw[hk];exact .inl a0) (a4 b hb)
    . have:=a8 j x u hx;exact h5 j x b this.2 this.1 hb
  . obtain⟨a1,a2,a3⟩:=hU b (ai b hb);exact⟨a1,a2,by rw[hc.2.2.2.1];exact a3⟩
  . rw[St.L_setL,qL a7,St.L_setL]at a0;split at a0
    . exact a0.elim
    . rename_i az;have ap:A9 w (B j) (st.L j) b:=(A9.iff fun c hcf=>hc.2.2.2.2 c (fun e=>h.disj j k c a7 hcf (e▸a5))).1 a0;rcases ai b hb with hb|hb
      . exact h.disj j r b az ap (a4 b hb)
      . exact h.disj j k b a7 ap hb
  . simp only[qR]at hp;subst hp;exact ax
  . rcases ai b hb with hb|hb
    . exact b3 av b hb
    . exact h.mrk.2 k b av hb
 exact d3.addL ax trivial (fun _ _ _ hb=>hb.elim) trivial (fun _ _ hb=>hb.elim)
def bB (h:B7 za w0 st E w Z B) (hty:H1 cx.P cx.tys=true) {T:TypeId} {p v:Operand} (hs:VM cx st T p v=some (φ,st')) (bk:OA φ) (hk:k st') (hg:E2 all ⟨none, .store T p v,ty,pos,aft,g⟩ E=true):I0 cx.P all ⟨none, .store T p v,ty,pos,aft,g⟩ (fun E' w'=>(frO za.k0 st (.store T p v)=true->Below za.b0 w w'/\True)/\Nx za w0 k E' w') E w:=by
 simp only[VM,qH,bind_some]at hs;obtain⟨ti,bg,c,⟨sp,hsp,aa⟩,hs⟩:=hs;have ag:=(O1 (B8 hty bg)).1;have hc:=h.c1 (F6 E) (bind_some.2 ⟨sp,hsp,aa⟩);split at hs
 . rename_i q off;simp only[bind_some]at hs;obtain⟨s,ax,hs⟩:=hs;split at hs
   . rename_i T' cs hq;cases hd:s.cs.all Ex&&Nat.beq s.cs.length ti.ty.size&&Nat.ble (off+ti.ty.size) cs.length with
     |false=>simp only[hd,rF]at hs;cases hs
     |true=>
      simp only[hd,qQ]at hs;cases hs;simp only[qC]at hd;have a3:=qD hd.1.2;have a9:=qP hd.2;obtain⟨h1,h2⟩:=h.ev (F6 E) ax;have a6:=RS.cells h h1 hd.1.1;have hL:=h.locs q;have hR:=h.refl q;rw[hq]at hL hR;obtain⟨b,vs,e,hb0,b3,ai,b5⟩:=hL;obtain⟨b',e',hv⟩:=hc.1;rw[e]at e';cases e';have b4:(Gw.ev E v).cells.toList.length=ti.ty.size:=by rw[<-a3,a6.len]
      have a5:=QP (P:=cx.P) (ty:=ty) (w:=w) (Gw.ev E v).cells.toList hv rfl rfl ag b4 ai (by rw[b4];have:=b5.len;simp at this;omega) (Dh.one h hd.1.1 a6);have a0:WZ b w (w.setRow b (vs.toList.take off++(Gw.ev E v).cells.toList++vs.toList.drop (off+(Gw.ev E v).cells.toList.length)).toArray):=⟨rfl,rfl,⟨rfl,rB _⟩,by simp,fun k hk=>setRow_other w b k _ hk⟩;have a1:root (B q)=some b:=by rw[e];rfl
      have aw:O2 Z w (w.setRow b (vs.toList.take off++(Gw.ev E v).cells.toList++vs.toList.drop (off+(Gw.ev E v).cells.toList.length)).toArray):=fun z hz=>a0.2.2.2.2 z (fun hh=>b3 (hh▸hz))
      have ad:∀c∈Zx off ti.ty.size cs s.cs,Cd st.nx c:=fun c hc=>by
       simp only[Zx,rA]at hc;rcases hc with(hc|hc) |hc
       . exact hR c (rZ hc)
       . exact h2 c hc
       . exact hR c (vF hc)
      refine Zz a5 hg ⟨fun hh=>BN a0 (h.mrk.2 q b (by simp only[frO,show(st.ev [] p).bind c1=some _ from bind_some.2 ⟨sp,hsp,aa⟩]at hh;exact qP hh) (by rw[hq];exact a1)),_,_,_,h.chg (by rw[hq];trivial) (by rw[hq];exact a1) a0 (lc:= .box T' (Zx off ti.ty.size cs s.cs)) ⟨b,_,e,hb0,b3,setRow_heap w b vs _ T' _ ai, ?_⟩ ad (fun _ hh=> .inl hh),hk⟩;exact Dh.mono (n:=st.nx) (fun _=>id) aw (fun _ _=>rfl) ad (by simpa using bA b5 a6 a3)
   . cases hs
 . rename_i q sz i off;split at hs
   . rename_i t e e' ls al ho hq;split at hs
     . rename_i r bc;cases hd:Nat.beq sz 1&&Nat.beq off 0&&Nat.beq ti.ty.size 1 with
       |false=>simp only[hd,rF]at hs;cases hs
       |true=>
        simp only[hd,qQ]at hs;simp only[qC]at hd;have e1:=qD hd.1.1;have e2:=qD hd.1.2;have e3:=qD hd.2;subst e1 e2;unfold Vc.attach at hs;split at hs
        . rename_i t' b6 l hr;split at hs
          . rename_i ba;subst ba;cases a7:Nat.beq b6 e'&&Nat.ble st.nm r&&Nat.ble st.nm q&&Nat.blt q r with
            |false=>simp only[a7,rF]at hs;cases hs
            |true=>
             simp only[a7,qQ]at hs;cases hs;simp only[qC]at a7;have ee:=qD a7.1.1.1;subst ee;have bf:q<r:=qP a7.2;obtain⟨g1,g2⟩:=h.ev (F6 E) bc;obtain⟨u,us,hu,bi,bt⟩:=g1;cases hu;have bj:Gw.ev E v=B r:=bi;have hL:=h.locs q;rw[hq]at hL;obtain⟨xs,h1,_⟩:=hL;obtain⟨b,m,ap,hB,hi,hv⟩:=hc.1;have hm:m=ls.length:=by
              rw[hB]at h1;rcases h1.2 with⟨hh,_⟩ | ⟨_,_,_,hh,_⟩<;>cases hh
              rfl
             subst hm;have am:(B r).oneCell'=true:=h.bone r;have aq:(Gw.ev E v).cells.toList= [B r]:=by rw[bj];exact ZA am
             have ay:=h1;rw[hB]at ay;rcases ay.2 with⟨hh,_⟩ | ⟨b',bn,cur,hh,hb0,az,be,b9,ab,bh⟩
             . cases hh
             . cases hh;have a5:=QP (P:=cx.P) (ty:=ty) (w:=w) [B r] hv rfl aq ag (by rw[e3];rfl) az (by rw[ab];simp;omega) (fun u hu=>by simp at hu;subst hu;exact am);generalize aj:(cur.toList.take (i*1+0)++ [B r]++cur.toList.drop (i*1+0+ [B r].length)).toArray=ah at a5;have a0:WZ b w (w.setRow b ah):=⟨rfl,rfl,⟨rfl,rB _⟩,by simp,fun k hk=>setRow_other w b k _ hk⟩;have a1:root (B q)=some b:=by rw[hB];rfl
               have au:A9 w (B q) (st.L q) b:=by rw[hq];exact .inl a1
               refine Zz a5 hg ⟨fun hh=>BN a0 (h.mrk.2 q b (by simp only[frO,show(st.ev [] p).bind c1=some _ from bind_some.2 ⟨sp,hsp,aa⟩,hq,frE]at hh;exact qP hh) au),_,_,_,h.attach hq hr (tU bf) (qP a7.1.2) (qP a7.1.1.2) hi (fun j hj=> ?_) h1 a1 a0 ?_ ?_,hk⟩
               . subst hj;exact bk
               . rw[hB];refine⟨by rw[qN];exact h1.1, .inr ⟨b,ap,ah,rfl,hb0,setRow_heap w b cur _ e _ az,be,b9, ?_, ?_⟩⟩
                 . rw[<-aj];simp only[zQ,rP,qW,sN,sR,ab,rH,xI];omega
                 . rw[<-aj, <-bh];simp only[g0m];apply wQ;intro j;have bq:cur.toList.length=ap*1:=by rw[sR,ab]
                   simp only[yP,tD,rH,xI,sG];by_cases hj:j<ls.length
                   . rw[rT hj];by_cases b1:i=j
                     . subst b1;rw[tB (by rw[qW];omega),uC,uD (by rw[qW];omega),qW];rw[show i-min i cur.toList.length=0 from by omega];rfl
                     . rw[tF b1,rT hj,uC];by_cases bd:j<i
                       . rw[wD (by rw[qW];omega),rT bd]
                       . rw[uD (by rw[qW];omega),qW,show min i cur.toList.length=i from by omega];obtain⟨d,hd⟩:∃d,j-i=d+1:=⟨j-i-1,by omega⟩;rw[hd];simp only[wG,vJ,uG,xA];rw[show i+1+d=j from by omega]
                   . rw[rW (by rw[qW];omega),rW (by rw[qN,qW];omega)]
               . exact fun bs bb b7=>h.mrk.2 r bb (by omega) (by rw[hr];exact b7)
          . cases hs
        . cases hs
     . cases hs
   . rename_i b2;simp only[bind_some,qK]at hs;obtain⟨s,ax,bu,a2,hs⟩:=hs;cases hs;obtain⟨Z1,h1⟩:=h.settleO v;have bp:=fun t e e' ls al ho=>b2 t e e' ls al ho
     obtain⟨g1,g2⟩:=h1.ev (F6 E) ax;obtain⟨b,m,ap,hB,hi,hv⟩:=hc.1;have a1:root (B q)=some b:=by rw[hB];rfl
     unfold eQ at a2;split at a2
     . rename_i t e l hq;obtain⟨hd,a2⟩:=U8 a2;simp only[qC]at hd;split at a2
       . rename_i x hx;cases a2;have a3:=qD hd.1.1.2;have ae:=qD hd.1.2;have a9:=qP hd.2;subst ae;have a6:=RS.cells h1 g1 hd.1.1.1;have hL:=h1.locs q;rw[hq]at hL;obtain⟨xs,ao,ar,ac⟩:=hL;rw[hB]at ao ac;obtain⟨w',a5,a0,bm,a8,a4⟩:=aT (P:=cx.P) (ty:=ty) h1 ag ao ar (ac b rfl).2 hi hv a6 hd.1.1.1 a3 a9 hx;refine Zz a5 hg ⟨fun hh=>BN a0 ?_,_,_,_,h1.chg (by rw[hq];trivial) (by rw[hq];exact a1) a0 (lc:= .row t e (l.set i x)) ⟨_,by rw[hB];exact a8,a4,fun z hz=>by rw[hB]at hz;exact ac z hz⟩ trivial (fun _ hh=> .inl hh),hk⟩;exact h1.mrk.2 q b (B6m hh (bind_some.2 ⟨sp,hsp,aa⟩) (by rw[hq])) (by rw[hq];exact a1)
       . cases a2
     . rename_i j hq;split at a2
       . rename_i t e e' ls al hj;split at a2
         . rename_i i0 av;obtain⟨hd,a2⟩:=U8 a2;simp only[qC]at hd;split at a2
           . rename_i x hx;cases a2;have a3:=qD hd.1.1.2;have ae:=qD hd.1.2;have a9:=qP hd.2;subst ae;have a6:=RS.cells h1 g1 hd.1.1.1;have hL:=h1.locs j;rw[hj]at hL;obtain⟨xs,ys,o1,o2,o3,o4,o5⟩:=A0x hL av;have ak:¬Z1 b:=by
              obtain⟨bv,h2,⟨c2,c3,c4⟩,c5,c6⟩:=hL;exact(c6 b (Yx h2 rfl (c2 _ (Rm av)) a1)).2.1
             rw[hB]at o4;obtain⟨w',a5,a0,bm,a8,a4⟩:=aT (P:=cx.P) (ty:=ty) h1 ag o4 o5 ak hi hv a6 hd.1.1.1 a3 a9 hx;have af:=A9z hL (Rm av) a1 a0 ak (by rw[hB];exact a8) a4;refine Zz a5 hg ⟨fun hh=>BN a0 ?_,_,_,_,h1.chg (k:=j) (by rw[hj];trivial) (by rw[hj];exact af.2.1) a0 af.1 (by have:=h1.refl j;rw[hj]at this;exact this) (fun c b8=> .inr (by rw[hj];exact(Y6 fun g hg=>a0.2.2.2.2 g (fun e=>af.2.2 (e▸hg))).1 b8)),hk⟩;exact h1.mrk.2 j b (B6l hh (bind_some.2 ⟨sp,hsp,aa⟩) b2 hq) (by rw[hj];exact af.2.1)
           . cases a2
         . cases a2
       . cases a2
     . cases a2
 . cases hs
def kB:∀(v:Value) (n:Nat),(∃k a,v= .int k a)\/(∃b,v= .bool b)->Instr.sameBits n v v=true:=by
 rintro v n (⟨k,a,rfl⟩ | ⟨b,rfl⟩)
 . cases n<;>simp[Instr.sameBits]
 . cases n<;>simp[Instr.sameBits]
def Uw:∀ {t:Ty} {cs:List Value} {x:t.den},Gk t=true->C4 t w Z cs x->∀v∈cs,(∃k a,v= .int k a)\/(∃b,v= .bool b)
 | .int k,_,x,_,h=>by rw[h.1];intro v u;simp at u;exact .inl ⟨_,_,u⟩
 | .bool,_,x,_,h=>by rw[show _= _ from h];intro v u;simp at u;exact .inr ⟨_,u⟩
 | .unit,_,_,_,h=>by rw[show _= _ from h];intro v u;cases u
 | .pair a b,_,_,hp,⟨c1,c2,e,h1,h2⟩=>by
  simp only[Gk,qC]at hp;rw[e];intro v u;rcases rA.1 u with u|u
  . exact Uw hp.1 h1 v u
  . exact Uw hp.2 h2 v u
 | .str,_,_,h,_=>by cases h
 | .sl _,_,_,h,_=>by cases h
 | .ptr _,_,_,h,_=>by cases h
 | .mp _ _ _ _,_,_,h,_=>by cases h
def kC:∀(cs:List Value) (n:Nat),(∀v∈cs,(∃k a,v= .int k a)\/(∃b,v= .bool b))->(cs.zip cs).all (fun x=>Instr.sameBits n x.1 x.2)=true
 | [],_,_=>rfl
 |c::cs,n,h=>by
  simp only[List.zip_cons_cons,sY,qC];exact⟨kB c n (h c (by simp)),kC cs n (fun v u=>h v (by simp[u]))⟩
def A7v {a:Bool} {t:Ty} {v:Value} {x:t.den} (u:Gk t=true) (h:S8 (C4 t w Z) a v x):Instr.sameBits 10000 v v=true:=by
 cases a with
 |true=>
  obtain⟨cs,e,h⟩:=h;subst e;have:=kC cs 9999 (Uw u h);simp only[Instr.sameBits,beq_self_eq_true,zZ];exact this
 |false=>exact kB v 10000 (Uw (cs:= [v]) u h v (by simp))
def A7w {a:Bool} {t:Ty} {v v':Value} {x:t.den} (hp:Gk t=true) (h:S8 (C4 t w Z) a v x) (u:S8 (C4 t w Z) a v' x):v=v':=by
 cases a with
 |true=>
  obtain⟨cs,e,h⟩:=h;obtain⟨cs',e',u⟩:=u;rw[e,e',Ou hp h u]
 |false=>
  have:=Ou (cs:= [v]) (cs':= [v']) hp h u;simpa using this
def gY {κ:Ty} {ν:Type} {Rk:Value->κ.den->Prop} {Rv:Value->ν->Prop} {k:κ.den} {v:ν} {kv vv:Value} {cl:Nat} (hk:Rk kv k) (hv:Rv vv v):∀ {l:List (κ.den×ν)} {es:List MapEntry} {i:Nat},R4 Rk Rv es l->
 (N1 κ k l i=none->R4 Rk Rv (es++ [{key:=kv,val:=vv,born:=cl}]) (Fc κ k v l))/\(∀j,N1 κ k l i=some (i+j)->R4 Rk Rv (es.modify j fun e=> {e with key:=kv,val:=vv}) (Fc κ k v l))
 | [],es,i,h=>by
  rw[show es= []from h];exact⟨fun _=>⟨_,[],rfl,hk,hv,rfl⟩,fun j u=>by cases u⟩
 |x::l,_,i,⟨e,a0,he,h1,h2,h3⟩=>by
  subst he;simp only[N1,Fc];cases hb:EN κ k x.1 with
  |true=>
   refine⟨fun hh=>by simp at hh,fun j u=> ?_⟩;simp only[qQ,rE]at u;have:j=0:=by omega
   subst this;exact⟨_,_,rfl,hk,hv,h3⟩
  |false=>
   simp only[rF];have ih:=gY (cl:=cl) hk hv (i:=i+1) h3;refine⟨fun hh=>⟨e,_,rfl,h1,h2,ih.1 hh⟩,fun j u=> ?_⟩;cases j with
   |zero=>
    exfalso;have:∀(l:List (κ.den×ν)) (i j:Nat),N1 κ k l i=some j->i<=j:=by
     intro l
     induction l with
     |nil=>intro i j hh;cases hh
     |cons y l ih=>
      intro i j hh;unfold N1 at hh;cases hb:EN κ k y.1 with
      |true=>simp[hb]at hh;omega
      |false=>simp[hb]at hh;have:=ih _ _ hh;omega
    have:=this _ _ _ u;omega
   |succ j=>exact⟨e,_,rfl,h1,h2,ih.2 j (by rw[u];congr 1;omega)⟩
def Jw (f:MapEntry->MapEntry) (u:∀e,(f e).born=e.born):∀(l:List MapEntry) (j:Nat),(l.modify j f).map (·.born)=l.map (·.born)
 | [],j=>by cases j<;>rfl
 |x::l,0=>by simp[u]
 |x::l,j+1=>by simp[Jw f u l j]
def aB (h:B7 za w0 st E w Z B) (hty:H1 cx.P cx.tys=true) {T:TypeId} {m x y:Operand} (hs:LV cx st T m x y=some st'):
 ∃w',Gw.NL cx.P E ty (.mapUpdate T m x y) w w'/\Gw.NL cx.P E ty (.insert T m x y) w w'/\∃Z' B',B7 za w0 st' E w' Z' B':=by
 simp only[LV,qH,bind_some]at hs;obtain⟨ti,aq,c,⟨sm,ao,ai⟩,sk,a8,sy,ap,hs⟩:=hs;obtain⟨Z1,h1⟩:=h.settleO y;split at hs
 . rename_i ka kt va vt k hT;simp only[bind_some]at hs;obtain⟨es,u,key,ac,v,hv,hs⟩:=hs;cases hs;obtain⟨hu,a6,_,_⟩:=Vk (B8 hty aq) hT;have hc:=h1.c1 (F6 E) (bind_some.2 ⟨sm,ao,ai⟩);have hk:=Eg (h1.ev (F6 E) a8).1 ac;have au:=Eg (h1.ev (F6 E) ap).1 hv;have hp:=FZ a6;have a1:live ((settleO st y).L k):=by
    simp only[mapM]at u;cases hq:(settleO st y).L k<;>rw[hq]at u<;>simp at u<;>trivial
   have hL:∃b ents cl,B k= .map (some b)/\up za w0 k b/\¬Z1 b/\w.heap[b]? =some (.map ents cl)/\MOk ents cl/\Ra w Z1 ka kt va vt ents.toList es:=by
    simp only[mapM]at u;have:=h1.locs k;cases hq:(settleO st y).L k with
    |map ax ay az b1 av=>
     rw[hq]at u this;simp only at u;split at u
     . rename_i hh;cases hh;cases u;exact this
     . cases u
    | _=>rw[hq]at u;simp at u
   obtain⟨b,ents,cl,hB,ar,af,hb,a2,he⟩:=hL;have ad:Gw.ev E m= .map (some b):=(show Gw.ev E m=B k from hc.1).trans hB;have ak:b<w.heap.size:=(rU.1 hb).1;have a9:=fun em=>Rl a6 hk w em
   have aa:=Yy a6 hk w he;have ab:(getObj b).run cx.P w= .ok (.map ents cl) w:=by simp[getObj,Sem.run,hb]
   have a5:∀o,(setObj b o).run cx.P w= .ok () {w with heap:=w.heap.setIfInBounds b o} :=fun o=>by simp[setObj,Sem.run,hb]
   have a3:∀o,WZ b w {w with heap:=w.heap.setIfInBounds b o} :=fun o=>⟨rfl,rfl,⟨rfl,rB _⟩,by simp,fun q hq=>by simp[tA,Ne.symm hq]⟩
   have ae:∀o,({w with heap:=w.heap.setIfInBounds b o} :World).heap[b]? =some o:=fun o=>by simp[tA,ak]
   have fin:∀ents' cl',MOk ents' cl'->Ra w Z1 ka kt va vt ents'.toList (Fc kt key v es)->∃Z' B',B7 za w0 ((settleO st y).setL k (.map ka kt va vt (Fc kt key v es))) E {w with heap:=w.heap.setIfInBounds b (.map ents' cl')} Z' B':=fun ents' cl' hmo' he'=>by
    have a7:O2 Z1 w {w with heap:=w.heap.setIfInBounds b (.map ents' cl')} :=fun z hz=>(a3 _).2.2.2.2 z (fun hh=>af (hh▸hz))
    exact⟨Z1,B,h1.chg a1 (A9.of a1 (by rw[hB];rfl)) (a3 _) (lc:= .map ka kt va vt (Fc kt key v es)) ⟨b,ents',cl',hB,ar,af,ae _,hmo',he'.mono (fun _=>id) a7⟩ trivial (fun _ hh=> .inl hh)⟩
   have a4:=gY (cl:=cl) (kv:=Gw.ev E x) (vv:=Gw.ev E y) hk au (i:=0) he;rcases BY (k:=key) (i:=0) he with⟨g1,_⟩ | ⟨j,en,yv,g1,g2,g3,g4,g5,g6⟩
   . have a0:(Instr.mapUpdate T (Gw.ev E m) (Gw.ev E x) (Gw.ev E y)).run cx.P w= .ok () {w with heap:=w.heap.setIfInBounds b (.map (ents.push {key:=Gw.ev E x,val:=Gw.ev E y,born:=cl}) (cl+1))} :=by
      unfold Instr.mapUpdate;simp only[Sem.run_bind,run_underlying hu,Result.andThen_ok,ad,ab,a9,aa,g1,g1u,a5]
     refine⟨_,fun _ _ _ _=> ?_,fun _ _ _ _=> ?_,fin _ (cl+1) ⟨fun x hx=> ?_, ?_⟩ (by rw[g1f];exact a4.1 g1)⟩
     . simp[execOp,a0]
     . simp[execOp,a0]
     . rw[g1f,rA]at hx;rcases hx with hx|hx
       . have:=a2.1 x hx;omega
       . simp at hx;subst hx;exact rV _
     . rw[g1f,uY,sX];refine⟨a2.2,by simp,fun a ha b ah=> ?_⟩;simp at ah;obtain⟨x,hx,rfl⟩:=tC.1 ha;have:=a2.1 x hx;omega
   . have aj:=(QE hp).1 g6;rw[<-aj]at g5;have a8:=A7w hp g5 hk;have hg:ents[j]? =some en:=by simpa using g2
     have am:=A7v hp hk;have a0:(Instr.mapUpdate T (Gw.ev E m) (Gw.ev E x) (Gw.ev E y)).run cx.P w= .ok () {w with heap:=w.heap.setIfInBounds b (.map (ents.modify j fun e=> {e with key:=Gw.ev E x,val:=Gw.ev E y}) cl)} :=by
      have ag:N1 kt key es 0=some j:=by rw[g1,sG]
      unfold Instr.mapUpdate;simp only[Sem.run_bind,run_underlying hu,Result.andThen_ok,ad,ab,a9,aa,ag,vW,g2,vT,hg,vA,a8];simp[Instr.keyThatStays,am,a5]
     refine⟨_,fun _ _ _ _=> ?_,fun _ _ _ _=> ?_,fin _ cl ⟨fun z hx=> ?_, ?_⟩ (by rw[g0j];exact a4.2 j g1)⟩
     . simp[execOp,a0]
     . simp[execOp,a0]
     . rw[g0j]at hx;have:z.born∈(ents.toList.modify j fun e=> {e with key:=Gw.ev E x,val:=Gw.ev E y}).map (·.born):=vC hx;rw[Jw (fun e:MapEntry=> {e with key:=Gw.ev E x,val:=Gw.ev E y}) (fun _=>rfl)]at this;obtain⟨z',hz,aw⟩:=tC.1 this;have:=a2.1 z' hz;omega
     . rw[g0j,Jw (fun e:MapEntry=> {e with key:=Gw.ev E x,val:=Gw.ev E y}) (fun _=>rfl)];exact a2.2
 . cases hs
def QJ {ka va:Bool} {kt vt:Ty} {q:Nat} {es:List (kt.den×vt.den)} (h:mapM st ka kt va vt q=some es):st.L q= .map ka kt va vt es:=by
 unfold mapM at h;split at h
 . rename_i u;split at h
   . rename_i hh;cases hh;cases h;exact u
   . cases h
 . cases h
def A2c (h:B7 za w0 st E w Z B) {T:TypeId} {m s y:Operand} (u:SS st m s y=some st'):∃w',Gw.NL cx.P E ty (.entryStore T m s y) w w'/\∃Z' B',B7 za w0 st' E w' Z' B':=by unfold SS at u;cases u
def A2v (h:B7 za w0 st E w Z B) (hty:H1 cx.P cx.tys=true) {T:TypeId} {m x:Operand} (u:TR cx st d T m x=some st') (hk:k st') (hg:E2 all ⟨some d, .mapEntry T m x,ty,pos,aft,g⟩ E=true):I0 cx.P all ⟨some d, .mapEntry T m x,ty,pos,aft,g⟩ (fJ za w0 w true k) E w:=by unfold TR at u;cases u
def SF (cx:Cx) (st:St) (T:TypeId) (x:Operand):Option St:=none
def A1q {ty:TypeId} {st':St} (h:B7 za w0 st E w Z B) (hty:H1 cx.P cx.tys=true) {T:TypeId} {x:Operand} (u:SF cx st T x=some st'):∃v w',Gw.E4 cx.P E ty (.call ⟨.builtin .clear, #[x], #[T]⟩) w v w'/\B7 za w0 st' E w' Z B:=by unfold SF at u;cases u
end
end Go.Vc
