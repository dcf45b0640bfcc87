/- Part. -/
import Derived.Laws.CopyRow
import Derived.Test.YtljgpjhcieidbaaGreatKKA
set_option linter.all false
namespace Go.Vc
open Go Go.RowKit Go.Gw
open Go.IntKind (i64)
section
variable {za:Zn} {w0 w:World} {Z:Nat->Prop} {B:Nat->Value} {st:St} {E:H6} {P:Program}
def A2m (w:World) (Z:Nat->Prop) (B:Nat->Value):List (Nat×List C)->List (Nat×Value)->Prop
 | [],a=>a= []
 | (i,b)::r,c=>∃v a,c=(i,v)::a/\Co w Z B b v.cells.toList/\A2m w Z B r a
def fU {place:Nat->Option (Nat×Nat)} :∀ {parts:List (Nat×List C)} {j:List (Nat×Value)} {cs cs':List C} {vs:Array Value},A2m w Z B parts j->Co w Z B cs vs.toList->Xv place cs parts=some cs'->∃d,Instr.fill place vs j=some d/\Co w Z B cs' d.toList
 | [],_,cs,cs',vs,b,h,a=>by
  rw[show _= _ from b];simp only[Xv,rB]at a;subst a;exact⟨vs,rfl,h⟩
 | (z,i)::F,_,cs,cs',vs,⟨v,j,e,k,l⟩,h,b=>by
  subst e;simp only[Xv]at b;cases g:place z with
  |none=>simp[g]at b
  |some q=>
   obtain⟨a,sz⟩:=q;simp only[g]at b;cases c:Nat.beq i.length sz&&Nat.ble (a+sz) cs.length with
   |false=>simp[c]at b
   |true=>
    simp only[c,qW]at b;simp only[qC]at c;have s:i.length=sz:=qD c.1;have E:a+sz<=cs.length:=qQ c.2;have u:v.cells.size=sz:=by rw[<-s,k.len];simp
    have D:cs.length=vs.size:=by rw[h.len];simp
    have f:=Uj a v.cells.toList 0 vs (by simp;omega);simp only[sU]at f;generalize r:(v.cells.toList.zipIdx 0).foldl (fun cs (x:Value×Nat)=>cs.setIfInBounds (a+x.2) x.1) vs=A at f;have t:Co w Z B (cs.take a++i++cs.drop (a+sz)) A.toList:=by
     rw[f];have y:v.cells.toList.length=sz:=by simpa using u
     rw[y];exact((h.take a).append k).append (h.drop (a+sz))
    obtain⟨d,n,o⟩:=fU l t b;refine⟨d, ?_,o⟩;unfold Instr.fill;simp only[g];rw[qH (by simp;omega)];rw[<-n, <-r, <-g3t];simp
def MN {place:Nat->Option (Nat×Nat)} {Q:C->Prop} :∀ {parts:List (Nat×List C)} {cs cs':List C},(∀x∈parts,∀c∈x.2,Q c)->(∀c∈cs,Q c)->Xv place cs parts=some cs'->∀c∈cs',Q c
 | [],cs,cs',_,h,a=>by
  simp only[Xv,rB]at a;subst a;exact h
 | (i,j)::r,cs,cs',f,h,b=>by
  simp only[Xv]at b;cases g:place i with
  |none=>simp[g]at b
  |some q=>
   simp only[g]at b;cases d:Nat.beq j.length q.2&&Nat.ble (q.1+q.2) cs.length with
   |false=>simp[d]at b
   |true=>
    simp only[d,qW]at b;refine MN (fun x k=>f x (qM _ k)) ?_ b;intro c a;simp only[qZ]at a;rcases a with(a|a) |a
    . exact h c (sC a)
    . exact f (i,j) (by simp) c a
    . exact h c (vM a)
def Jt (st:St) (ctx:Hy):List (Nat×Operand)->Option (List (Nat×List C))
 | []=>some []
 | (i,x)::r=>match st.ev ctx x with
  |some s=>bif s.cs.all Ei then(Jt st ctx r).map fun l=>(i,s.cs)::l else none
  |none=>none
def RS.cells (h:C3 za w0 st E w Z B) {s:SV} {v:Value} (a:RS w Z B s v) (i:s.cs.all Ei=true):Co w Z B s.cs v.cells.toList:=by
 obtain⟨f,b⟩:=s;cases f with
 |true=>obtain⟨d,e,a⟩:=a;subst e;exact a
 |false=>
  have a:Co w Z B b [v]:=a
  match b,a with
  | [c],k=>
   obtain⟨u,l,e,d,g⟩:=k;cases e;have j:=RC.one h (by simpa using i) d;have:v.cells= #[v]:=by cases v<;>simp[Value.cells,Value.oneCell']at j⊢
   rw[this];exact⟨v,[],rfl,d,g⟩
  | [],d=>cases d
  |c::j::r,g=>obtain⟨u,l,e,k,⟨_,_,d,_⟩⟩:=g;cases e;cases d
def Kl (h:C3 za w0 st E w Z B) {ctx:Hy} (i:P5 E ctx):∀ {parts:List (Nat×Operand)} {l:List (Nat×List C)},Jt st ctx parts=some l->A2m w Z B l (parts.map fun x=>(x.1,Gw.ev E x.2))/\∀x∈l,∀c∈x.2,Cb st.nx c
 | [],l,a=>by cases a;exact⟨rfl,by simp⟩
 | (t,x)::r,l,a=>by
  simp only[Jt]at a;cases f:st.ev ctx x with
  |none=>simp[f]at a
  |some s=>
   simp only[f]at a;cases b:s.cs.all Ei with
   |false=>simp only[b,rJ]at a;cases a
   |true=>
    simp only[b,qW]at a;cases d:Jt st ctx r with
    |none=>simp[d]at a
    |some u=>
     simp[d]at a;subst a;obtain⟨j,k⟩:=h.ev i f;obtain⟨n,o⟩:=Kl h i d;refine⟨⟨Gw.ev E x,_,rfl,RS.cells h j b,n⟩,fun y g=> ?_⟩;rcases qS.1 g with rfl|g
     . exact k
     . exact o y g
def AJ (t:Ty):List C:=(Dc t).map Oh
def Fe {T:TypeId} {t:Ty} (h:Ph P T t=true):∃z,Ee P T=some z/\z.cells.toList=Dc t:=by
 unfold Ph at h;split at h
 . rename_i z a;split at h
   . rename_i b;exact⟨z,a,by rw[iZ b];simp⟩
   . cases h
 . cases h
def A8q (h:C3 za w0 st E w Z B) {ctx:Hy} (b:P5 E ctx) {T ty:TypeId} {t:Ty} {parts:List (Nat×Operand)} {l:List (Nat×List C)} {cs:List C} {a:List (Nat×Nat)} (d:Ph P T t=true) (k:BH P T=some a)
 (g:Jt st ctx parts=some l) (c:Xv (fun i=>a[i]?) (AJ t) l=some cs):Xd P st E w Z B ty (.build T parts.toArray) (.one ⟨true,cs⟩):=by
 obtain⟨z,o,r⟩:=Fe d;obtain⟨d,f⟩:=Kl h b g;have b:=Bt (w:=w) (Z:=Z) (B:=B) (n:=st.nx) (Dc t);obtain⟨a,g,j⟩:=fU (vs:=z.cells) d (by rw[r];exact b.1) c;exact⟨.agg a,fun d _=>B7m a o k g,fun _=>⟨a.toList,by simp,j⟩,MN f b.2 c⟩
def fE (h:C3 za w0 st E w Z B) {ctx:Hy} (a:P5 E ctx) {T ty e:TypeId} {t:Ty} {len sz:Nat} {parts:List (Nat×Operand)} {l:List (Nat×List C)} {cs:List C} (d:Ph P T t=true) (k:P.underlying T=some (.array len e)) (o:Rq P e sz=true)
 (b:Jt st ctx parts=some l) (c:Xv (fun i=>some (i*sz,sz)) (AJ t) l=some cs):Xd P st E w Z B ty (.build T parts.toArray) (.one ⟨true,cs⟩):=by
 obtain⟨z,r,s⟩:=Fe d;obtain⟨d,f⟩:=Kl h a b;have b:=Bt (w:=w) (Z:=Z) (B:=B) (n:=st.nx) (Dc t);obtain⟨a,g,j⟩:=fU (vs:=z.cells) d (by rw[s];exact b.1) c;exact⟨.agg a,fun d _=>oS a r k o g,fun _=>⟨a.toList,by simp,j⟩,MN f b.2 c⟩
def A5d:List SV->Option (List Nat)
 | []=>some []
 | ⟨false,[.box k 0]⟩::r=>(A5d r).map (k:: ·)
 | _=>none
def evL (st:St) (ctx:Hy):List Operand->Option (List SV)
 | []=>some []
 |x::r=>match st.ev ctx x with
  |some s=>(evL st ctx r).map (s:: ·)
  |none=>none
def UT (h:C3 za w0 st E w Z B) {ctx:Hy} (f:P5 E ctx):∀ {xs:List Operand} {ss:List SV},evL st ctx xs=some ss->Pm w Z B ss (xs.map (Gw.ev E))/\∀s∈ss,La st.nx s
 | [],ss,a=>by cases a;exact⟨rfl,by simp⟩
 |x::r,ss,a=>by
  simp only[evL]at a;cases c:st.ev ctx x with
  |none=>simp[c]at a
  |some s=>
   simp only[c]at a;cases b:evL st ctx r with
   |none=>simp[b]at a
   |some l=>
    simp[b]at a;subst a;obtain⟨g,i⟩:=h.ev f c;obtain⟨j,k⟩:=UT h f b;refine⟨⟨_,_,rfl,g,j⟩,fun y d=> ?_⟩;rcases qS.1 d with rfl|d
    . exact i
    . exact k y d
def A2u {n:Nat} :∀ {ss:List SV} {b:List Nat} {vs:List Value},Pm w Z B ss vs->(∀s∈ss,La n s)->A5d ss=some b->vs=b.map B/\∀k∈b,k<n
 | [],b,vs,h,_,a=>by cases a;exact⟨h,by simp⟩
 |s::v,b,vs,⟨A,D,e,i,j⟩,g,a=>by
  unfold A5d at a;split at a
  . rename_i c;cases c
  . rename_i k z c;cases c;cases f:A5d v with
    |none=>simp[f]at a
    |some y=>
     simp[f]at a;subst a;obtain⟨l,o⟩:=A2u j (fun s hs=>g s (qM _ hs)) f;obtain⟨_,_,h,⟨x,r,u⟩,_⟩:=i;cases h;have t:=g ⟨false,[.box k 0]⟩ (by simp) (.box k 0) (by simp);refine⟨by rw[e,l,u, <-r];rfl,fun q d=> ?_⟩;rcases qS.1 d with rfl|d
     . exact t
     . exact o q d
  . cases a
def B9x (h:C3 za w0 st E w Z B) {ctx:Hy} (g:P5 E ctx) {ty:TypeId} {f:FuncId} {a:List Operand} {ss:List SV} {b:List Nat} (c:evL st ctx a=some ss) (d:A5d ss=some b):
 Xd P st E w Z B ty (.makeFunc (.func f) #[] a.toArray) (.one ⟨false,[.fn f b]⟩):=by
 obtain⟨a,b⟩:=UT h g c;obtain⟨c,g⟩:=A2u a b d;exact Ho (fun a _=>C4m c) rfl g
def B2g (e:Bool):C->C->Option C
 | .val t x, .val a y=>if h:a=t then some (.val t (I5 e x (h▸y)))else none
 | _,_=>none
def B2h {e:Bool} {c1 a c:C} {v1 v2:Value} (h:B2g e c1 a=some c) (b:e=true->RC w Z B c1 v1) (d:e=false->RC w Z B a v2):RC w Z B c (bif e then v1 else v2)/\∀n,Cb n c:=by
 unfold B2g at h;split at h
 . split at h
   . rename_i t x g y f;subst f;cases h;refine⟨?_,fun _=>trivial⟩;cases e with
     |true=>exact b rfl
     |false=>exact d rfl
   . cases h
 . cases h
end
def Qe:Ty->Bool
 | .ptr _=>false
 | .pair a b=>Qe a&&Qe b
 | _=>true
def LJ {w:World} {Z:Nat->Prop} :∀ {t:Ty},Qe t=true->C7 t w Z (Dc t) t.dflt
 | .int k,_=>⟨rfl,mG k⟩
 | .bool,_=>rfl
 | .str,_=>rfl
 | .unit,_=>rfl
 | .pair a b,h=>by
  simp only[Qe,qC]at h;exact⟨_,_,rfl,LJ h.1,LJ h.2⟩
 | .sl _,_=>⟨none,0,rfl,qT _,rL _,fun _=>rfl, .inl rfl⟩
 | .ptr _,h=>by cases h
 | .mp _ _ _ _,_=> .inl ⟨rfl,rfl⟩
def B5p (f:St) (c:Bool) (a:Ty) (d:Bool) (b:Ty):C->Option (List (a.den×b.den))
 | .mp k=>match f.L k with
  | .map f g h i j=>if k:Ty.mp f g h i=Ty.mp c a d b then some (k▸(show(Ty.mp f g h i).den from j):(Ty.mp c a d b).den)else none
  | .mapE f g h i j _ _=>if k:Ty.mp f g h i=Ty.mp c a d b then some (k▸(show(Ty.mp f g h i).den from j):(Ty.mp c a d b).den)else none
  | _=>none
 | .val t f=>if h:t=Ty.mp c a d b then some (h▸f:(Ty.mp c a d b).den)else none
 | .raw (.map none)=>some []
 | _=>none
def B5u (a:St) (ctx:Hy) (x:Operand):Option (Option Prop×DV):=
 match a.ev ctx x with
 |some s=>some (none, .one s)
 |none=>match x with
  | .tmp t=>match a.S t with
   | .tup a=>some (none, .tup a)
   | _=>none
  | _=>none
def C0d (a:St) (b:Bool):Operand->Hy
 | .tmp t=>gctx a 20 t b
 | _=> []
def one1 (c:C):DV:= .one ⟨false,[c]⟩
def A1j (d:St) (ctx:Hy) (c a b:Operand):Option (Option Prop×DV):=do
 let e<-(d.ev ctx c).bind OG
 let f<-(d.ev (C0d d true c++ctx) a).bind c1
 let g<-(d.ev (C0d d false c++ctx) b).bind c1
 (B2g e f g).map fun c=>(none,one1 c)
def B3i (a:St) (ctx:Hy) (op:UnOp) (x:Operand):Option (Option Prop×DV):=do
 let c<-(a.ev ctx x).bind c1
 (unC op c).map fun c=>(none,one1 c)
def gD:C->Bool
 | .val .bool _=>true
 | _=>false
def pU (cx:Cx) (a:St) (ctx:Hy) (op:BinOp) (T:TypeId) (x y:Operand):Option (Option Prop×DV):=do
 let b<-a.ev ctx x
 let c<-a.ev ctx y
 match c1 b,c1 c with
 |some a,some d=>bif gD a&& !(isB cx.P T)then none else(B8n op a d).map fun r=>(r.1,one1 r.2)
 | _,_=>do
  let ti<-cx.ti T
  let a<-Qq true ti.ty b
  let b<-Qq true ti.ty c
  bif ti.eq&&ti.agg then(match op with
   | .eql=>some (none,one1 (.val .bool (DR ti.ty a b)))
   | .neq=>some (none,one1 (.val .bool (!(DR ti.ty a b))))
   | _=>none)else none
def MH (a:St) (x:Operand) (i:Nat):Option (Option Prop×DV):=
 match x with
 | .tmp t=>match a.S t with
  | .tup a=>(a[i]?).map fun s=>(none, .one s)
  | _=>none
 | _=>none
def Xt (cx:Cx) (a:St) (ctx:Hy) (T:TypeId) (x:Operand) (f:Nat):Option (Option Prop×DV):=do
 let ti<-cx.ti T
 let q<-ti.fields[f]?
 let c<-(a.ev ctx x).bind c1
 (faC q.1 c).map fun c=>(none,one1 c)
def fT (cx:Cx) (a:St) (ctx:Hy) (T:TypeId) (x:Operand) (f:Nat):Option (Option Prop×DV):=do
 let ti<-cx.ti T
 let q<-ti.fields[f]?
 let s<-a.ev ctx x
 bif s.agg then(cut q.1 q.2.1 s.cs).map fun a=>(none, .one ⟨q.2.2,a⟩)else none
def A0o (cx:Cx) (a:St) (ctx:Hy) (T:TypeId) (x:Operand):Option (Option Prop×DV):=do
 let ti<-cx.ti T
 let c<-(a.ev ctx x).bind c1
 (B0z a ti.ty.size c).map fun b=>(none, .one ⟨ti.agg,b⟩)
def C2d (cx:Cx) (a:St) (ctx:Hy) (ti:TI) (x ix:Operand):Option (Option Prop×DV):=do
 let d<-cx.ti ti.elem
 let c<-(a.ev ctx x).bind c1
 let i<-(a.ev ctx ix).bind gA
 (faC (i.toNat*d.ty.size) c).map fun b=>(some (0<=i/\i<(ti.arr:Int)),one1 b)
def A8k (u:Ty):Nat->Ty
 |0=> .unit
 |1=>u
 |n+2=> .pair u (A8k u (n+1))
def selA (u:Ty):(n:Nat)->(A8k u n).den->Int->u.den
 |0,_,_=>u.dflt
 |1,x,_=>x
 |n+2,x,i=>I5 (decide (i=0)) x.1 (selA u (n+1) x.2 (i-1))
def C2f (cx:Cx) (b:St) (ctx:Hy) (ti:TI) (x ix:Operand):Option (Option Prop×DV):=do
 let a<-cx.ti ti.elem
 let c<-(b.ev ctx x).bind c1
 let i<-(b.ev ctx ix).bind gA
 match c with
 | .pf t y 0=>if h:t=A8k a.ty ti.arr then some (some (0<=i/\i<(ti.arr:Int)),one1 (.pf a.ty (selA a.ty ti.arr (h▸y) i) 0))else none
 | _=>none
def A3k:Operand->Bool
 | .const _=>true
 | _=>false
def C2e (cx:Cx) (a:St) (ctx:Hy) (T:TypeId) (x:Operand):Option (Option Prop×DV):=do
 let ti<-cx.ti T
 let c<-(a.ev ctx x).bind c1
 match ti.ty,c with
 | .sl t, .raw (.slice none 0 0)=>some (some False,one1 (.pf t t.dflt 0))
 | _,_=>none
def B9m (cx:Cx) (a:St) (ctx:Hy) (T:TypeId) (x ix:Operand):Option (Option Prop×DV):=do
 let ti<-cx.ti T
 let c<-(a.ev ctx x).bind c1
 let i<-(a.ev ctx ix).bind gA
 let r<-B9l a i c
 match ti.ty,r.2 with
 | .sl t, .pf a _ _=>bif decide (t=a)then some (r.1,one1 r.2)else none
 | .sl t, .elp _ sz _ _=>bif Nat.beq t.size sz then some (r.1,one1 r.2)else none
 | _,_=>none
def B0i (cx:Cx) (a:St) (ctx:Hy) (T:TypeId) (x ix:Operand):Option (Option Prop×DV):=
 match cx.ti T with
 |some ti=>bif Nat.beq ti.arr 0 then(match C2e cx a ctx T x with
  |some r=>some r
  |none=>B9m cx a ctx T x ix)else(bif A3k ix then C2d cx a ctx ti x ix else C2f cx a ctx ti x ix)
 |none=>none
def C2m:C->Bool
 | .box _ _=>true
 | .elp _ _ _ _=>true
 | .pf _ _ _=>true
 | .fn _ _=>true
 | .fv _ _ _ _ _ _=>true
 | _=>false
def B1q (a:St) (ctx:Hy) (x:Operand):Option (Option Prop×DV):=do
 let c<-(a.ev ctx x).bind c1
 bif C2m c then some (none,one1 c)else none
def B5x (a:St) (ctx:Hy):Option Operand->Option (Option Int)
 |none=>some none
 |some o=>((a.ev ctx o).bind gA).map some
def iM (cx:Cx) (a:St) (ctx:Hy) (T:TypeId) (x:Operand) (lo b:Option Operand):Option (Option Prop×DV):=do
 let ti<-cx.ti T
 let c<-(a.ev ctx x).bind c1
 let l<-B5x a ctx lo
 let h<-B5x a ctx b
 let r<-A1r a l h c
 match ti.ty,r.2 with
 | .sl t, .val (.sl a) _=>bif decide (t=a)then some (r.1,one1 r.2)else none
 | .sl t, .win _ sz _ _=>bif Nat.beq t.size sz then some (r.1,one1 r.2)else none
 | _,_=>none
def A0a (cx:Cx) (a:St) (ctx:Hy) (T T':TypeId) (x:Operand):Option (Option Prop×DV):=do
 let ti<-cx.ti T
 let b<-cx.ti T'
 let c<-(a.ev ctx x).bind c1
 match ti.ty,b.ty,c with
 | .int _, .int a, .val (.int _) b=>some (none,one1 (.val (.int a) (a.wrap b)))
 | _,_,_=>none
def fD (cx:Cx) (a:St) (ctx:Hy) (T:TypeId) (parts:List (Nat×Operand)):Option (Option Prop×DV):=do
 let ti<-cx.ti T
 let l<-Jt a ctx parts
 bif ti.fields.isEmpty then(do
  let b<-cx.ti ti.elem
  bif Nat.beq ti.arr 0 then none else(Xv (fun i=>some (i*b.ty.size,b.ty.size)) (AJ ti.ty) l).map fun a=>(none, .one ⟨true,a⟩))
 else(Xv (fun i=>(ti.fields.map fun x=>(x.1,x.2.1))[i]?) (AJ ti.ty) l).map fun a=>(none, .one ⟨true,a⟩)
def FG (s:ByteArray) (i:Int):Int:=((s.data.toList.getD i.toNat 0).toNat:Int)
def VC (a:St) (ctx:Hy) (x ix:Operand):Option (Option Prop×DV):=do
 let c<-(a.ev ctx x).bind c1
 let i<-(a.ev ctx ix).bind gA
 match c with
 | .val .str s=>some (some (0<=i/\i<(s.data.toList.length:Int)),one1 (.val (.int .u8) (FG s i)))
 | _=>none
def VB (cx:Cx) (a:St) (ctx:Hy) (T:TypeId) (x ix:Operand):Option (Option Prop×DV):=none
def fZ (cx:Cx) (a:St) (ctx:Hy) (T:TypeId) (x ix:Operand):Option (Option Prop×DV):=
 match((cx.ti T).map fun t:TI=>t.ty:Option Ty)with
 |some .str=>VC a ctx x ix
 | _=>VB cx a ctx T x ix
def C2i:C->Bool
 | .mp _=>true
 | _=>false
def B9o:Ty->Bool
 | .sl _=>true
 | _=>false
def VL (cx:Cx) (f:St) (ctx:Hy) (T:TypeId) (x ix:Operand) (h:Bool):Option (Option Prop×DV):=do
 let ti<-cx.ti T
 let g<-(f.ev ctx x).bind c1
 let j<-f.ev ctx ix
 match ti.ty with
 | .mp i b d a=>do
  let c<-B5p f i b d a g
  let k<-Qq i b j
  bif ti.rows&&C2i g&&B9o a&& !h&& !d then some (some (F5 b k c=none),one1 (.raw (.slice none 0 0)))else
  bif Qe a then some (none,bif h then .tup [⟨d,explode a ((F5 b k c).getD a.dflt)⟩,⟨false,[.val .bool (F5 b k c).isSome]⟩]else .one ⟨d,explode a ((F5 b k c).getD a.dflt)⟩)else none
 | _=>none
def B1i (c:St) (ctx:Hy) (fn:Fn) (first a:List Operand):Option (Option Prop×DV):=
 match fn,first with
 | .func f,[]=>do
  let b<-evL c ctx a
  let a<-A5d b
  some (none,one1 (.fn f a))
 | _,_=>none
def LZ (cx:Cx) (a:St) (ctx:Hy) (b:Builtin) (args:List Operand) (ts:List TypeId):Option (Option Prop×DV):=
 match b,args,ts with
 | .len,[x],[T]=>do
  let ti<-cx.ti T
  let c<-(a.ev ctx x).bind c1
  let n<-B9s a c
  match ti.ty,c with
  | _, .mp _=>none
  | .sl _,_=>some (none,one1 (.val (.int .i64) n))
  | _,_=>none
 | .max,[x,y],_=>do
  match<-(a.ev ctx x).bind c1, <-(a.ev ctx y).bind c1 with
  | .val (.int k) c, .val (.int d) b=>bif decide (k=d)then some (none,one1 (.val (.int k) (max c b)))else none
  | _,_=>none
 | .min,[x,y],_=>do
  match<-(a.ev ctx x).bind c1, <-(a.ev ctx y).bind c1 with
  | .val (.int k) c, .val (.int d) b=>bif decide (k=d)then some (none,one1 (.val (.int k) (min c b)))else none
  | _,_=>none
 | .max,[x,y,z],_=>do
  match<-(a.ev ctx x).bind c1, <-(a.ev ctx y).bind c1, <-(a.ev ctx z).bind c1 with
  | .val (.int k) a, .val (.int d) b, .val (.int f) c=>bif decide (k=d)&&decide (k=f)then some (none,one1 (.val (.int k) (max (max a b) c)))else none
  | _,_,_=>none
 | _,_,_=>none
def Ym (cx:Cx) (a:St) (ctx:Hy):Op->Option (Option Prop×DV)
 | .move x=>B5u a ctx x
 | .assign x=>B5u a ctx x
 | .pick d b c=>A1j a ctx d b c
 | .unOp b _ x=>B3i a ctx b x
 | .binOp b T x y _=>pU cx a ctx b T x y
 | .extract x i=>MH a x i
 | .fieldAddr T x f=>Xt cx a ctx T x f
 | .field T x f=>fT cx a ctx T x f
 | .load T x=>A0o cx a ctx T x
 | .indexAddr T x i=>B0i cx a ctx T x i
 | .index T x i=>fZ cx a ctx T x i
 | .lookup T x i b=>VL cx a ctx T x i b
 | .slice T x c b none=>iM cx a ctx T x c b
 | .convert T T' x=>A0a cx a ctx T T' x
 | .build T b=>fD cx a ctx T b.toList
 | .nilCheck x=>B1q a ctx x
 | .makeFunc fn first b=>B1i a ctx fn first.toList b.toList
 | .call ⟨.builtin c,b,d⟩=>LZ cx a ctx c b.toList d.toList
 | _=>none
section
variable {za:Zn} {w0 w:World} {Z:Nat->Prop} {B:Nat->Value} {st:St} {E:H6} {cx:Cx}
def bind_some {α c:Type} {x:Option α} {f:α->Option c} {b:c} :x.bind f=some b↔∃a,x=some a/\f a=some b:=g1w
def C3.tup (h:C3 za w0 st E w Z B) {t:Tmp} {vs:List SV} (c:st.S t= .tup vs):∃us:List Value,E t= .tuple us.toArray/\Pm w Z B vs us/\∀s∈vs,La st.nx s:=by
 have b:=h.slots t;have a:=h.refs t;rw[c]at b a;obtain⟨us,e,c⟩:=b;exact⟨us,e,c,a⟩
def Pm.get:∀ {ss:List SV} {vs:List Value} {i:Nat} {s:SV},Pm w Z B ss vs->ss[i]? =some s->∃v,vs[i]? =some v/\RS w Z B s v
 | [],_,_,_,_,a=>by simp at a
 |s'::ss,_,i,s,⟨v,g,e,b,c⟩,a=>by
  cases i with
  |zero=>simp at a;subst a;exact⟨v,by rw[e];rfl,b⟩
  |succ i=>simp at a;obtain⟨u,d,f⟩:=Pm.get c a;exact⟨u,by rw[e];simpa using d,f⟩
def L6 {P:Program} {T:TypeId} {ti:TI} (h:Um P T ti=true):Rq P T ti.ty.size=true/\(ti.agg=true/\jO P T ti.ty.size=true\/ti.agg=false/\Gh P T=true/\ti.ty.size=1)/\Ph P T ti.ty=true:=by
 simp only[Um,qC]at h;obtain⟨⟨⟨⟨⟨⟨c,a⟩,d⟩,_⟩,_⟩,_⟩,_⟩:=h;refine⟨c, ?_,d⟩;cases b:ti.agg with
 |true=>rw[b]at a;exact .inl ⟨rfl,a⟩
 |false=>simp only[b,rJ,qC]at a;exact .inr ⟨rfl,a.1,qD a.2⟩
def BP {P:Program} {T:TypeId} {ti:TI} {t:Ty} (h:Um P T ti=true) (c:ti.ty= .sl t):Gi P T ti.elem t.size=true/\Ph P ti.elem t=true/\∃i,P.info? ti.elem=some i/\i.bytes=ti.bytes:=by
 simp only[Um,qC]at h;obtain⟨⟨⟨⟨_,a⟩,_⟩,_⟩,_⟩:=h;rw[c]at a;simp only[qC]at a;refine⟨a.1.1,a.1.2, ?_⟩;cases b:P.info? ti.elem with
 |none=>simp[b]at a
 |some i=>simp only[b]at a;exact⟨i,rfl,qD a.2⟩
def oL {P:Program} {T:TypeId} {ti:TI} {k:IntKind} (h:Um P T ti=true) (b:ti.ty= .int k):B5h P T k=true:=by
 simp only[Um,qC]at h;obtain⟨⟨⟨⟨_,a⟩,_⟩,_⟩,_⟩:=h;rw[b]at a;exact a
def Yx {P:Program} {T:TypeId} {ti:TI} (h:Um P T ti=true) (c:ti.fields.isEmpty=false):Xu P T 0 ti.fields=true/\BH P T=some (ti.fields.map fun x=>(x.1,x.2.1)):=by
 simp only[Um,qC]at h;obtain⟨⟨⟨_,a⟩,_⟩,_⟩:=h;simp only[c,rJ,qC]at a;refine⟨a.1, ?_⟩;cases b:BH P T with
 |none=>simp[b]at a
 |some d=>simp only[b,rP]at a;rw[a.2]
def XW {P:Program} {T:TypeId} {ti:TI} (h:Um P T ti=true) (b:Nat.beq ti.arr 0=false):P.underlying T=some (.array ti.arr ti.elem):=by
 simp only[Um,qC]at h;obtain⟨⟨_,a⟩,_⟩:=h;simp only[b,rJ]at a;split at a
 . rename_i n e c;simp only[qC]at a;rw[c,qD a.1,qD a.2]
 . cases a
def Un {P:Program} {T:TypeId} {ti:TI} {c f:Bool} {d g:Ty} (h:Um P T ti=true) (l:ti.ty= .mp c d f g):P.underlying T=some (.map ti.key ti.elem)/\CP P ti.key c d=true/\Ph P ti.elem g=true/\LI P ti.elem f=true:=by
 simp only[Um,qC]at h;obtain⟨⟨⟨⟨_,b⟩,_⟩,_⟩,_⟩:=h;rw[l]at b;simp only[qC]at b;obtain⟨⟨⟨a,i⟩,j⟩,k⟩:=b;refine⟨?_,i,j,k⟩;split at a
 . rename_i o e n;simp only[qC]at a;rw[n,qD a.1,qD a.2]
 . cases a
def B7k {P:Program} {T:TypeId} {ti:TI} (h:Um P T ti=true) (a:ti.eq=true):CP P T ti.agg ti.ty=true:=by
 simp only[Um,qC]at h;have:=h.2;rw[a]at this;exact this
def Tb {P:Program} {T:TypeId} :∀ {l:List (Nat×Nat×Bool)} {a f:Nat} {q:Nat×Nat×Bool},Xu P T a l=true->l[f]? =some q->MK P T (a+f) q.1=true/\A0e P T (a+f) q.2.1 q.2.2=true
 | [],_,_,_,_,b=>by simp at b
 | (d,sz,c)::l,a,f,q,h,b=>by
  simp only[Xu,qC]at h;cases f with
  |zero=>simp at b;subst b;exact h.1
  |succ f=>
   simp at b;have:=Tb h.2 b;rw[show a+1+f=a+(f+1)from by omega]at this;exact this
def Ib {α:Type} {l:List α} {i:Nat} {a:α} (h:l[i]? =some a):l.isEmpty=false:=by
 cases l with
 |nil=>simp at h
 |cons _ _=>rfl
end
section
variable {za:Zn} {w0 w:World} {Z:Nat->Prop} {B:Nat->Value} {st:St} {E:H6} {cx:Cx} {ctx:Hy} {ty:TypeId} {φ:Option Prop} {d:DV}
def A3u (h:C3 za w0 st E w Z B) (j:P5 E ctx) {x:Operand} (a:B5u st ctx x=some (φ,d)):Xd cx.P st E w Z B ty (.move x) d/\Xd cx.P st E w Z B ty (.assign x) d:=by
 unfold B5u at a;cases c:st.ev ctx x with
 |some s=>
  rw[c]at a;cases a;obtain⟨b,f⟩:=h.ev j c;exact⟨⟨_,fun g _=>B3n,fun _=>b,f⟩,⟨_,fun g _=>oR,fun _=>b,f⟩⟩
 |none=>
  rw[c]at a;cases x with
  |tmp t=>
   simp only at a;cases b:st.S t with
   |tup l=>
    rw[b]at a;cases a;obtain⟨i,e,f,g⟩:=h.tup b;exact⟨⟨_,fun k _=>B3n,fun _=>⟨i,e,f⟩,g⟩,⟨_,fun k _=>oR,fun _=>⟨i,e,f⟩,g⟩⟩
   |one _=>rw[b]at a;cases a
   |cnd _ _ _=>rw[b]at a;cases a
   |dead=>rw[b]at a;cases a
  |const _=>cases a
  |global _=>cases a
  |func _=>cases a
def C3.c1 (h:C3 za w0 st E w Z B) (f:P5 E ctx) {x:Operand} {c:C} (b:(st.ev ctx x).bind Vc.c1=some c):RC w Z B c (Gw.ev E x)/\Cb st.nx c:=by
 obtain⟨s,g,a⟩:=bind_some.1 b;obtain⟨b,d⟩:=h.ev f g;exact kK b d a
def C3.int (h:C3 za w0 st E w Z B) (b:P5 E ctx) {x:Operand} {n:Int} (d:(st.ev ctx x).bind gA=some n):∃k,Gw.ev E x= .int k n/\MO k n:=by
 obtain⟨s,c,a⟩:=bind_some.1 d;exact B5g (h.ev b c).1 a
def A6r (h:C3 za w0 st E w Z B) (j:P5 E ctx) {c a b:Operand} (l:A1j st ctx c a b=some (φ,d)):Xd cx.P st E w Z B ty (.pick c a b) d:=by
 simp only[A1j,qI,bind_some,qL]at l;obtain⟨e,⟨F,y,u⟩,z,⟨G,n,r⟩,A,⟨H,o,s⟩,D,x,v⟩:=l;cases v;have k:Gw.ev E c= .bool e:=Ps (h.ev j y).1 u;have g:∀q,e=q->P5 E (C0d st q c++ctx):=fun q hq t b f=>by
  rcases qZ.1 f with f|f
  . cases c with
    |tmp I=>exact h.gctx (by rw[<-hq];exact k) t b f
    |const _=>cases f
    |global _=>cases f
    |func _=>cases f
  . exact j t b f
 have i:=B2h (w:=w) (Z:=Z) (B:=B) (v1:=Gw.ev E a) (v2:=Gw.ev E b) x (fun q=>(kK (h.ev (g true q) n).1 (h.ev (g true q) n).2 r).1) (fun q=>(kK (h.ev (g false q) o).1 (h.ev (g false q) o).2 s).1);exact Ho (fun J _=>C1f k) i.1 (i.2 _)
def B3j (h:C3 za w0 st E w Z B) (b:P5 E ctx) {op:UnOp} {T:TypeId} {x:Operand} (a:B3i st ctx op x=some (φ,d)):Xd cx.P st E w Z B ty (.unOp op T x) d:=by
 simp only[B3i,qI,bind_some,qL]at a;obtain⟨j,⟨s,i,c⟩,r,g,f⟩:=a;cases f;exact C4h (h.c1 b (bind_some.2 ⟨s,i,c⟩)).1 g
def C4j {P:Program} {T T' ty:TypeId} {x y:Operand} {a:Ty} {u v:a.den} (b:CP P T true a=true) (c:Bf true a w Z (Gw.ev E x) u) (d:Bf true a w Z (Gw.ev E y) v) (w':World):Gw.E7 P E ty (.binOp .eql T x y T') w' (.bool (DR a u v)) w'/\Gw.E7 P E ty (.binOp .neq T x y T') w' (.bool (!(DR a u v))) w':=by
 have f:=cE b c d w';have i:P.eqGuardType P.depth T=false:=by simp only[CP,qC,rQ]at b;exact b.1.2
 obtain⟨g,b,_⟩:=c;obtain⟨h,c,_⟩:=d;rw[b,c]at f;refine⟨fun _ _ _ _=> ?_,fun _ _ _ _=> ?_⟩
 . have d:(eqGuard .eql T x y (.agg g.toArray) (.agg h.toArray)).run P w'= .ok () w':=run_eqGuard_agg w' _ _ _ _ _ _ i;simp only[execOp,b,c];simp[d,run_eql_struct,f,Result.andThen]
 . have d:(eqGuard .neq T x y (.agg g.toArray) (.agg h.toArray)).run P w'= .ok () w':=run_eqGuard_agg w' _ _ _ _ _ _ i;simp only[execOp,b,c];simp[d,run_neq_struct,f,Result.andThen]
def A4z (h:C3 za w0 st E w Z B) (I:G6 cx.P cx.tys=true) (n:P5 E ctx) {op:BinOp} {T T':TypeId} {x y:Operand} (a:pU cx st ctx op T x y=some (φ,d)) (N:JC φ):Xd cx.P st E w Z B ty (.binOp op T x y T') d:=by
 simp only[pU,qI,bind_some]at a;obtain⟨U,F,V,G,a⟩:=a;obtain⟨r,O⟩:=h.ev n F;obtain⟨s,Q⟩:=h.ev n G;split at a
 . rename_i g t i j;have J:=(kK r O i).1;have M:=(kK s Q j).1;cases k:gD g&& !(isB cx.P T)with
   |true=>simp[k]at a
   |false=>
    simp only[k,rJ,qL]at a;obtain⟨R,D,A⟩:=a;cases A;have v:isB cx.P T=true\/∀e,g≠ .val .bool e:=by
     cases z:isB cx.P T with
     |true=>exact .inl rfl
     |false=>
      right;intro e c;subst c;simp[gD,z]at k
    obtain⟨W,o,u,f⟩:=B4e (P:=cx.P) (ty:=ty) (T':=T') D N J M v;exact Ho (fun b _=>o b) u (f _)
 . simp only[bind_some]at a;obtain⟨ti,H,g,i,t,j,a⟩:=a;obtain⟨c,a⟩:(ti.eq&&ti.agg)=true/\ _:=by
    cases o:(ti.eq&&ti.agg)with
    |false=>simp[o]at a
    |true=>simp only[o,qW]at a;exact⟨rfl,a⟩
   simp only[qC]at c;have f:=B7k (C1 I H) c.1;rw[c.2]at f;have l:=fun b=>C4j (P:=cx.P) (ty:=ty) (T':=T') f (Dl r i) (Dl s j) b
   split at a
   . cases a;exact Ho (fun b _=>(l b).1) rfl trivial
   . cases a;exact Ho (fun b _=>(l b).2) rfl trivial
   . cases a
def fS (h:C3 za w0 st E w Z B) {x:Operand} {i:Nat} (a:MH st x i=some (φ,d)):Xd cx.P st E w Z B ty (.extract x i) d:=by
 unfold MH at a;split at a
 . rename_i t;split at a
   . rename_i vs k;simp only[qL]at a;obtain⟨s,b,l⟩:=a;cases l;obtain⟨n,e,c,f⟩:=h.tup k;obtain⟨v,g,j⟩:=Pm.get c b;exact⟨v,fun o _=>A7w (vs:=n.toArray) e (by simpa using g),fun _=>j,f s (sX b)⟩
   . cases a
 . cases a
def UW (h:C3 za w0 st E w Z B) (s:G6 cx.P cx.tys=true) (j:P5 E ctx) {T:TypeId} {x:Operand} {f:Nat} (c:Xt cx st ctx T x f=some (φ,d)):Xd cx.P st E w Z B ty (.fieldAddr T x f) d:=by
 simp only[Xt,qI,bind_some,qL]at c;obtain⟨ti,r,q,g,u,⟨t,o,k⟩,v,n,l⟩:=c;cases l;have i:=Yx (C1 s r) (Ib g);have a:=Tb i.1 g;rw[sB]at a;have b:=h.c1 j (bind_some.2 ⟨t,o,k⟩);exact C1v a.1 b.1 b.2 n
def A0f (h:C3 za w0 st E w Z B) (Q:G6 cx.P cx.tys=true) (i:P5 E ctx) {T:TypeId} {x:Operand} {f:Nat} (c:fT cx st ctx T x f=some (φ,d)):Xd cx.P st E w Z B ty (.field T x f) d:=by
 simp only[fT,qI,bind_some]at c;obtain⟨ti,O,q,y,V,M,c⟩:=c;obtain⟨D,r⟩:=h.ev i M;have F:=Yx (C1 Q O) (Ib y);have s:=Tb F.1 y;rw[sB]at s;obtain⟨W,Y⟩:=V;cases W with
 |false=>simp at c
 |true=>
  simp only[qW,qL]at c;obtain⟨a0,G,H⟩:=c;cases H;obtain⟨k,e,R⟩:=D;obtain⟨g,t,u⟩:=UK R G;obtain⟨b,a⟩:=s;unfold MK at b;unfold A0e at a;split at b
  . rename_i a1 n;simp only[n]at a;split at b
    . rename_i j l;simp only[l]at a;simp only[qC,g1c]at b;obtain⟨a2,sz,z⟩:=q;simp only at b a g t;obtain⟨J,_⟩:=b;subst J;cases z with
      |true=>
       simp only[qW]at a;refine⟨.agg ((k.drop j.offset).take sz).toArray,fun I _ _ _ _ _=> ?_,fun _=>⟨_,rfl,g⟩,fun o i=>r o (u o i)⟩;obtain⟨v,A⟩:=Ou (P:=cx.P) (w:=I) a;simp only[execOp,e];simp[Instr.field,run_underlying n,l,asAgg,part,v,A,go_sem]
      |false=>
       simp only[rJ,qC]at a;have N:=qD a.2;subst N
       match U:(k.drop j.offset).take 1,g,t with
       | [v],g,_=>
        have I:k[j.offset]? =some v:=by
         have:((k.drop j.offset).take 1)[0]? =some v:=by rw[U];rfl
         simpa using this
        refine⟨v,fun X _ _ _ _ _=> ?_,fun _=>g,fun o i=>r o (u o i)⟩;have A:=Hq (P:=cx.P) (w:=X) a.1;simp only[execOp,e];simp[Instr.field,run_underlying n,l,asAgg,part,A,I,go_sem]
    . cases b
  . cases b
def A6d (h:C3 za w0 st E w Z B) (o:G6 cx.P cx.tys=true) (g:P5 E ctx) {T:TypeId} {x:Operand} (c:A0o cx st ctx T x=some (φ,d)):Xd cx.P st E w Z B ty (.load T x) d:=by
 simp only[A0o,qI,bind_some,qL]at c;obtain⟨ti,n,r,⟨s,l,i⟩,u,k,j⟩:=c;cases j;obtain⟨t,a,_⟩:=L6 (C1 o n);refine B5o h (h.c1 g (bind_some.2 ⟨s,l,i⟩)).1 k ?_;rcases a with⟨b,a⟩ | ⟨b,a,f⟩
 . exact .inl ⟨b,a⟩
 . exact .inr ⟨b,a,f⟩
def B5c (h:C3 za w0 st E w Z B) (n:G6 cx.P cx.tys=true) (j:P5 E ctx) {T:TypeId} {x ix:Operand} (a:B9m cx st ctx T x ix=some (φ,d)) (o:JC φ):Xd cx.P st E w Z B ty (.indexAddr T x ix) d:=by
 simp only[B9m,qI,bind_some]at a;obtain⟨ti,l,J,⟨s,A,v⟩,N,⟨H,D,z⟩,G,k,a⟩:=a;have c:=h.c1 j (bind_some.2 ⟨s,A,v⟩);obtain⟨Q,i,_⟩:=h.int j (bind_some.2 ⟨H,D,z⟩);obtain⟨X,M⟩:=G;simp only at a;split at a
 . rename_i t I V F g;cases b:decide (t=I)with
   |false=>simp[b]at a
   |true=>
    simp only[b,qW]at a;cases a;have:=qA b;subst this;have u:=BP (C1 n l) g;refine B0k h c.1 i k o (e:=ti.elem) (fun s y=> ?_) c.2;rcases y with⟨U,W,f,r⟩ | ⟨_,_,f⟩
    . cases f;subst r;exact u.1
    . cases f
 . rename_i t R sz O F g;cases b:Nat.beq t.size sz with
   |false=>simp[b]at a
   |true=>
    simp only[b,qW]at a;cases a;have:=qD b;have r:=BP (C1 n l) g;refine B0k h c.1 i k o (e:=ti.elem) (fun s u=> ?_) c.2;rcases u with⟨U,W,f,y⟩ | ⟨_,_,f⟩
    . cases f
    . cases f;rw[<-this];exact r.1
 . cases a
def iX {P:Program} {T e ty:TypeId} {x ix:Operand} {k:IntKind} {i:Int} {b o n sz:Nat} (h:Gw.ev E x= .pointer (some ⟨b,o,none⟩)) (f:Gw.ev E ix= .int k i) (g:P.underlying T=some (.array n e)) (j:Rq P e sz=true) (a:0<=i) (c:i<(n:Int)) (w:World):
 Gw.E7 P E ty (.indexAddr T x ix) w (.pointer (some ⟨b,o+i.toNat*sz,none⟩)) w:=fun _ _ _ _=>by
 have d:=Gw.Et (P:=P) (w:=w) j;simp[execOp,h,f,Instr.indexAt,asIntOf,run_underlying g,Instr.sureAddr,a,c,d,go_sem,K6]
def C7.selA {u:Ty} :∀ {n:Nat} {a:List Value} {x:(A8k u n).den} {i:Int},0<=i->i<(n:Int)->C7 (A8k u n) w Z a x->C7 u w Z ((a.drop (i.toNat*u.size)).take u.size) (Vc.selA u n x i)
 |0,_,_,i,b,c,_=>by omega
 |1,a,x,i,b,c,h=>by
  have:i.toNat=0:=by omega
  rw[this,xP,tZ,qR (by rw[C7.length h];exact qT _)];exact h
 |n+2,a,x,i,j,k,⟨c1,h,e,b,g⟩=>by
  subst e;have d:=C7.length b;simp only[Vc.selA];by_cases c:i=0
  . subst c;simp only[g3k,I5,qW];rw[show(0:Int).toNat=0 from rfl,xP,tZ, <-d,g2z];exact b
  . simp only[c,g2h,I5,rJ];have:=C7.selA (i:=i-1) (by omega) (by omega) g;have f:i.toNat*u.size=c1.length+(i-1).toNat*u.size:=by
     rw[d,show i.toNat=(i-1).toNat+1 from by omega,uO,vY]
    rw[f, <-vV,g2x];exact this
def B0j (h:C3 za w0 st E w Z B) (o:G6 cx.P cx.tys=true) (l:P5 E ctx) {T:TypeId} {x ix:Operand} (a:B0i cx st ctx T x ix=some (φ,d)) (t:JC φ):Xd cx.P st E w Z B ty (.indexAddr T x ix) d:=by
 unfold B0i at a;split at a
 . rename_i ti U;cases s:Nat.beq ti.arr 0 with
   |true=>
    simp only[s,qW]at a;split at a
    . rename_i r b;cases a;simp only[C2e,qI,bind_some]at b;obtain⟨_,_,c,_,b⟩:=b;split at b
      . cases b;exact t.elim
      . cases b
    . exact B5c h o l a t
   |false=>
    simp only[s,rJ]at a;cases R:A3k ix with
    |false=>
     simp only[R,rJ,C2f,qI,bind_some]at a;obtain⟨O,G,W,⟨M,D,y⟩,V,⟨N,F,z⟩,a⟩:=a;have r:=h.c1 l (bind_some.2 ⟨M,D,y⟩);obtain⟨a1,j,_⟩:=h.int l (bind_some.2 ⟨N,F,z⟩);have k:=XW (C1 o U) s;have n:=(L6 (C1 o G)).1;split at a
     . rename_i a3 a4;split at a
       . rename_i Y;subst Y;cases a;obtain⟨g,i⟩:=t;obtain⟨b,J,Q,e,I,v,c⟩:=r.1;exact Ho (fun f _=>iX e j k n g i f) ⟨b,J+0+V.toNat*O.ty.size,_,rfl,I,S7 v _ O.ty.size,c.selA g i⟩ trivial
       . cases a
     . cases a
    |true=>
    simp only[R,qW]at a;simp only[C2d,qI,bind_some,qL]at a;obtain⟨O,G,W,⟨M,D,y⟩,V,⟨N,F,z⟩,a2,u,a⟩:=a;cases a;have r:=h.c1 l (bind_some.2 ⟨M,D,y⟩);obtain⟨a1,j,_⟩:=h.int l (bind_some.2 ⟨N,F,z⟩);have k:=XW (C1 o U) s;have n:=(L6 (C1 o G)).1;obtain⟨g,i⟩:=t;have c:=r.1;have A:=r.2;unfold faC at u;split at u<;>cases u
    . obtain⟨b,e,H⟩:=c;exact Ho (fun f _=>iX H j k n g i f) ⟨b,e,rfl⟩ A
    . obtain⟨b,m,X,e,a0,H⟩:=c;exact Ho (fun f _=>iX H j k n g i f) ⟨b,m,X,e,a0,by rw[uG]⟩ A
    . obtain⟨b,J,Q,e,I,v,c⟩:=c;exact Ho (fun f _=>iX e j k n g i f) ⟨b,J,Q,by rw[uG],I,v,c⟩ A
 . cases a
def B1r (h:C3 za w0 st E w Z B) (i:P5 E ctx) {x:Operand} (a:B1q st ctx x=some (φ,d)):Xd cx.P st E w Z B ty (.nilCheck x) d:=by
 simp only[B1q,qI,bind_some]at a;obtain⟨f,⟨s,k,j⟩,a⟩:=a;have g:=h.c1 i (bind_some.2 ⟨s,k,j⟩);cases c:C2m f with
 |false=>simp only[c,rJ]at a;cases a
 |true=>
  simp only[c,qW]at a;cases a;have b:=g.1;refine Ho (v:=Gw.ev E x) (fun z _ _ _ _ _=> ?_) b g.2;cases f with
  |box o r=>obtain⟨n,e,l⟩:=b;simp[execOp,l]
  |elp u sz t y=>obtain⟨n,m,o,e,r,l⟩:=b;simp[execOp,l]
  |pf t y r=>obtain⟨l,o,n,e,_⟩:=b;simp[execOp,e]
  |fn o n=>have l:Gw.ev E x= _:=b;simp[execOp,l]
  |fv _ _ _ _ _ _=>obtain⟨o,n,l,_⟩:=b;simp[execOp,l]
  | _=>cases c
def SS (h:C3 za w0 st E w Z B) (c:P5 E ctx) {o:Option Operand} {i:Option Int} (a:B5x st ctx o=some i):A8f E o i:=by
 unfold B5x at a;cases o with
 |none=>cases a;rfl
 |some o=>
  simp only[qL]at a;obtain⟨j,d,rfl⟩:=a;obtain⟨k,b,_⟩:=h.int c d;exact⟨k,j,rfl,b⟩
def A1s (h:C3 za w0 st E w Z B) (u:G6 cx.P cx.tys=true) (c:P5 E ctx) {T:TypeId} {x:Operand} {lo l:Option Operand} (a:iM cx st ctx T x lo l=some (φ,d)) (v:JC φ):Xd cx.P st E w Z B ty (.slice T x lo l none) d:=by
 simp only[iM,qI,bind_some]at a;obtain⟨ti,r,F,⟨s,f,z⟩,M,n,H,k,A,o,a⟩:=a;have g:=h.c1 c (bind_some.2 ⟨s,f,z⟩);obtain⟨U,G⟩:=A;simp only at a;split at a
 . rename_i t D Q j;cases b:decide (t=D)with
   |false=>simp[b]at a
   |true=>
    simp only[b,qW]at a;cases a;have:=qA b;subst this;have y:=BP (C1 u r) j;refine oB h (e:=ti.elem) g.1 o g.2 v (SS h c n) (SS h c k) (fun s f=> ?_);rcases f with⟨O,R,i,rfl⟩ | ⟨_,_,_,i⟩
    . cases i;exact y.1
    . cases i
 . rename_i t J sz N I j;cases b:Nat.beq t.size sz with
   |false=>simp[b]at a
   |true=>
    simp only[b,qW]at a;cases a;have:=qD b;subst this;have y:=BP (C1 u r) j;refine oB h (e:=ti.elem) g.1 o g.2 v (SS h c n) (SS h c k) (fun s f=> ?_);rcases f with⟨O,R,i,rfl⟩ | ⟨_,_,_,i⟩
    . cases i
    . cases i;exact y.1
 . cases a
def A5l (h:C3 za w0 st E w Z B) (b:G6 cx.P cx.tys=true) (i:P5 E ctx) {T T':TypeId} {x:Operand} (a:A0a cx st ctx T T' x=some (φ,d)):Xd cx.P st E w Z B ty (.convert T T' x) d:=by
 simp only[A0a,qI,bind_some]at a;obtain⟨ti,l,y,n,r,⟨s,k,j⟩,a⟩:=a;have c:=h.c1 i (bind_some.2 ⟨s,k,j⟩);split at a
 . rename_i t u v o f g;cases a;exact B4j c.1 ⟨_,bZ (oL (C1 b l) f)⟩ (oL (C1 b n) g)
 . cases a
def pW (h:C3 za w0 st E w Z B) (j:G6 cx.P cx.tys=true) (g:P5 E ctx) {T:TypeId} {parts:List (Nat×Operand)} (a:fD cx st ctx T parts=some (φ,d)):Xd cx.P st E w Z B ty (.build T parts.toArray) d:=by
 simp only[fD,qI,bind_some]at a;obtain⟨ti,o,s,i,a⟩:=a;have b:=C1 j o;cases f:ti.fields.isEmpty with
 |true=>
  simp only[f,qW,bind_some]at a;obtain⟨t,n,a⟩:=a;cases c:Nat.beq ti.arr 0 with
  |true=>simp[c]at a
  |false=>
   simp only[c,rJ,qL]at a;obtain⟨r,k,l⟩:=a;cases l;exact fE h g (L6 b).2.2 (XW b c) (L6 (C1 j n)).1 i k
 |false=>
  simp only[f,rJ,qL]at a;obtain⟨l,c,k⟩:=a;cases k;exact A8q h g (L6 b).2.2 (Yx b f).2 i c
def mH (h:C3 za w0 st E w Z B) (c:G6 cx.P cx.tys=true) (b:P5 E ctx) {T:TypeId} {x ix:Operand} (a:VB cx st ctx T x ix=some (φ,d)) (f:JC φ):Xd cx.P st E w Z B ty (.index T x ix) d:=by unfold VB at a;cases a
def B3h {P:Program} {T:TypeId} {ti:TI} (h:Um P T ti=true) (b:ti.ty= .str):P.underlying T=some .string:=by
 unfold Um at h;simp only[qC]at h;have a:=h.1.1.1.2;rw[b]at a;simp only at a;split at a
 . assumption
 . cases a
def oT {P:Program} {E:Gw.H6} {w:World} {ty T:TypeId} {x ix:Operand} {s:ByteArray} {a:IntKind} {i:Int} (h:Gw.ev E x= .string s) (g:Gw.ev E ix= .int a i) (c:P.underlying T=some .string) (b:0<=i) (d:i<(s.data.toList.length:Int)):Gw.E7 P E ty (.index T x ix) w (.int .u8 (FG s i)) w:=fun _ _ _ _=>by
 have a:i.toNat<s.data.size:=by rw[<-sO];omega
 have f:s[i.toNat]? =some s.data[i.toNat]:=by
  have:s[i.toNat]? =s.data[i.toNat]?:=by
   rw[getElem?_def,getElem?_def];rfl
  rw[this,vC a]
 have d:FG s i=(s.data[i.toNat].toNat:Int):=by
  unfold FG;rw[qE,wL,vC a];rfl
 simp[execOp,h,g,Instr.index,asIntOf,run_underlying c,b,f,d,go_sem]
def mI (h:C3 za w0 st E w Z B) (b:P5 E ctx) {P:Program} {T:TypeId} {x ix:Operand} (f:P.underlying T=some .string) (a:VC st ctx x ix=some (φ,d)) (c:JC φ):Xd P st E w Z B ty (.index T x ix) d:=by
 simp only[VC,qI,bind_some]at a;obtain⟨u,⟨sv,l,g⟩,r,⟨t,k,i⟩,a⟩:=a;obtain⟨v,j,_⟩:=h.int b (bind_some.2 ⟨t,k,i⟩);split at a
 . rename_i s;cases a;have o:=(h.c1 b (bind_some.2 ⟨sv,l,g⟩)).1;have n:Gw.ev E x= .string s:=(List.cons.inj (show [Gw.ev E x]= [.string s]from o)).1;exact Ho (fun y _=>oT n j f c.1 c.2) ⟨rfl,by
    have:=(s.data.toList.getD r.toNat 0).toNat_lt;unfold FG;constructor
    . exact qF _
    . show _ <=(255:Int);omega⟩ trivial
 . cases a
def A0h (h:C3 za w0 st E w Z B) (g:G6 cx.P cx.tys=true) (f:P5 E ctx) {T:TypeId} {x ix:Operand} (a:fZ cx st ctx T x ix=some (φ,d)) (i:JC φ):Xd cx.P st E w Z B ty (.index T x ix) d:=by
 unfold fZ at a;split at a
 . rename_i b;cases c:cx.ti T with
   |none=>rw[c]at b;cases b
   |some ti=>
    rw[c]at b;exact mI h f (B3h (C1 g c) (yE b)) a i
 . exact mH h g f a i
def A3s (h:C3 za w0 st E w Z B) {t u:Bool} {n o:Ty} {c:C} {v:Value} {es:List (n.den×o.den)} (k:RC w Z B c v) (a:B5p st t n u o c=some es):
 (v= .map none/\es= [])\/∃b d cl,v= .map (some b)/\b<w.heap.size/\w.heap[b]? =some (.map d cl)/\Pj w Z t n u o d.toList es:=by
 unfold B5p at a;split at a
 . rename_i s;split at a
   . rename_i y z A D r l;split at a
     . rename_i g;have i:=h.locs s;rw[l]at i;obtain⟨b,d,cl,e,_,_,f,_,j⟩:=i;cases g;cases a;exact .inr ⟨b,d,cl,(show v= _ from k).trans e,(rU.1 f).1,f,j⟩
     . cases a
   . rename_i y z A D r F q l;split at a
     . rename_i g;have i:=h.locs s;rw[l]at i;obtain⟨b,d,cl,e,_,_,f,⟨_,j⟩,_⟩:=i;cases g;cases a;exact .inr ⟨b,d,cl,(show v= _ from k).trans e,(rU.1 f).1,f,j⟩
     . cases a
   . cases a
 . rename_i G r;split at a
   . rename_i g;subst g;cases a;rcases k with⟨e,x⟩ | ⟨b,d,cl,e,f,g,_,j⟩
     . simp only[sM,vR]at e;exact .inl ⟨e,x⟩
     . simp only[sM,vR]at e;exact .inr ⟨b,d,cl,e,h.zlt b f,g,j⟩
   . cases a
 . cases a;exact .inl ⟨k.1,rfl⟩
 . cases a
def AW {a:Ty} {d:Type} {Rk:Value->a.den->Prop} {Rv:Value->d->Prop} {k:a.den} :∀ {l:List (a.den×d)} {es:List MapEntry} {i:Nat},S4 Rk Rv es l->(O0 a k l i=none/\F5 a k l=none)\/∃j e y,O0 a k l i=some (i+j)/\es[j]? =some e/\F5 a k l=some y/\Rv e.val y/\Rk e.key ((l[j]?).map (·.1) |>.getD k)/\DR a k ((l[j]?).map (·.1) |>.getD k)=true
 | [],_,_,_=> .inl ⟨rfl,rfl⟩
 |x::l,_,i,⟨e,v,u,o,r,s⟩=>by
  subst u;simp only[O0,F5];cases t:DR a k x.1 with
  |true=>exact .inr ⟨0,e,x.2,rfl,rfl,rfl,r,o,t⟩
  |false=>
   rcases AW (i:=i+1) s with⟨b,c⟩ | ⟨j,f,y,b,c,g,h,n⟩
   . exact .inl ⟨b,c⟩
   . exact .inr ⟨j+1,f,y,by rw[rJ,b,uG,vY 1 j],by simpa using c,g,h,by simpa using n⟩
def oU {P:Program} {T:TypeId} {z:Value} (h:Ee P T=some z) (w':World):(zeroValue T).run P w'= .ok z w':=by
 unfold Ee at h;cases a:P.info? T with
 |none=>simp[a]at h
 |some i=>simp only[a,wB]at h;simp[zeroValue,typeInfo,a,h]
def mR (h:C3 za w0 st E w Z B) (am:G6 cx.P cx.tys=true) (n:P5 E ctx) {T:TypeId} {x ix:Operand} {j:Bool} (b:VL cx st ctx T x ix j=some (φ,d)) (U:JC φ):Xd cx.P st E w Z B ty (.lookup T x ix j) d:=by
 simp only[VL,qI,bind_some]at b;obtain⟨ti,ak,F,⟨a7,I,ae⟩,au,aj,b⟩:=b;have aa:=h.c1 n (bind_some.2 ⟨a7,I,ae⟩);obtain⟨ab,_⟩:=h.ev n aj;split at b
 . rename_i ar r o c ad;simp only[bind_some]at b;obtain⟨es,af,k,ah,b⟩:=b;have a3:(∃V,c= .sl V/\j=false/\o=false/\φ=some (F5 r k es=none)/\d=one1 (.raw (.slice none 0 0)))\/(Qe c=true/\some (φ,d)=some ((none:Option Prop),bif j then DV.tup [⟨o,explode c ((F5 r k es).getD c.dflt)⟩,⟨false,[.val .bool (F5 r k es).isSome]⟩]else .one ⟨o,explode c ((F5 r k es).getD c.dflt)⟩)):=by
    cases s:ti.rows&&C2i F&&B9o c&& !j&& !o with
    |true=>
     simp only[s,qW]at b;cases b;simp only[qC,rQ]at s;cases c<;>simp[B9o]at s;exact .inl ⟨_,rfl,s.1.2,s.2,rfl,rfl⟩
    |false=>
     simp only[s,rJ]at b;cases A:Qe c with
     |false=>simp[A]at b
     |true=>simp only[A,qW]at b;exact .inr ⟨rfl,b.symm⟩
   have ai:Qe c=true:=by
    rcases a3 with⟨V,rfl,_⟩ | ⟨h,_⟩
    . rfl
    . exact h
   obtain⟨R,v,ao,f⟩:=Un (C1 am ak) ad;have t:=Dl ab ah;obtain⟨z,J,M⟩:=Fe ao;have a6:Bf o c w Z z c.dflt:=by
    have s:=LJ (w:=w) (Z:=Z) ai;rw[<-M]at s;unfold LI at f;rw[J]at f;cases z with
    |agg A=>cases o<;>simp at f;exact⟨A.toList,by simp,s⟩
    |tuple _=>simp at f
    | _=>cases o<;>simp at f<;>exact s
   have ap:∃u y,(∀a,Q7 w a->(Instr.lookup T (Gw.ev E x) (Gw.ev E ix) j).run cx.P a= .ok (if j then .tuple #[u, .bool y]else u) a)/\Bf o c w Z u ((F5 r k es).getD c.dflt)/\y=(F5 r k es).isSome/\(y=false->u=z):=by
    rcases A3s h aa.1 af with⟨e,a5⟩ | ⟨D,X,W,e,a4,a2,O⟩
    . refine⟨z,false,fun a _=> ?_,by rw[a5];exact a6,by rw[a5];rfl,fun _=>rfl⟩;have s:=fun em=>Pz v t a em
      have A:=Ya (Rv:=fun _ (_:c.den)=>True) v t a (l:= []) (es:= []) rfl;unfold Instr.lookup;simp only[Sem.run_bind,run_underlying R,Result.andThen_ok,e,Sem.run_pure,s,A,O0,g1x,oU J]
    . rcases AW (k:=k) (i:=0) O with⟨G,H⟩ | ⟨aq,a8,av,G,H,Y,a9,_⟩
      . refine⟨z,false,fun a g=> ?_,by rw[H];exact a6,by rw[H];rfl,fun _=>rfl⟩;have s:=fun em=>Pz v t a em
        have A:=Ya v t a O;have Q:(getObj D).run cx.P a= .ok (.map X W) a:=by simp[getObj,Sem.run,g.block D a4,a2]
        unfold Instr.lookup;simp only[Sem.run_bind,run_underlying R,Result.andThen_ok,e,Sem.run_pure,Q,s,A,G,g1x,oU J]
      . refine⟨a8.val,true,fun a g=> ?_,by rw[Y];exact a9,by rw[Y];rfl,fun ag=>(by cases ag)⟩;have s:=fun em=>Pz v t a em
        have A:=Ya v t a O;have Q:(getObj D).run cx.P a= .ok (.map X W) a:=by simp[getObj,Sem.run,g.block D a4,a2]
        rw[sB]at G;unfold Instr.lookup;simp only[Sem.run_bind,run_underlying R,Result.andThen_ok,e,Sem.run_pure,Q,s,A,G,wB,H,wI]
   obtain⟨u,y,N,a0,a1,ac⟩:=ap;rcases a3 with⟨V,rfl,rfl,rfl,rfl,rfl⟩ | ⟨_,b⟩
   . have U:F5 r k es=none:=U;have an:u= .slice none 0 0:=by
      rw[ac (by rw[a1,U];rfl)];unfold LI at f;rw[J]at f;cases z with
      |agg s=>simp at f
      |tuple _=>simp at f
      |slice s A F=>simp[Dc,Value.cells]at M;obtain⟨rfl,rfl,rfl⟩:=M;rfl
      | _=>simp[Dc,Value.cells]at M
     refine⟨u,fun a g=>fun _ _ _ _=> ?_,fun E'=> ?_,fun F n=> ?_⟩
     . have:=N a (g rfl);simp at this;simp[execOp,this]
     . rw[an];exact⟨_,[],rfl,⟨rfl,rfl⟩,rfl⟩
     . simp at n;subst n;trivial
   cases j with
   |true=>
    simp only[qW]at b;cases b;refine⟨.tuple #[u, .bool y],fun a g=>fun _ _ _ _=> ?_,fun E'=>⟨[u, .bool y],rfl,u,_,rfl,Bf.explode a0,_,_,rfl,⟨_,[],rfl,by rw[a1];rfl,rfl⟩,rfl⟩,fun a7 I=> ?_⟩
    . simp[execOp,N a (g rfl)]
    . simp at I;rcases I with rfl|rfl
      . exact E9
      . intro F n;simp at n;subst n;trivial
   |false=>
    simp only[rJ]at b;cases b;refine⟨u,fun a g=>fun _ _ _ _=> ?_,fun E'=>Bf.explode a0,E9⟩;simp[execOp,N a (g rfl)]
 . cases b
def B1j (h:C3 za w0 st E w Z B) (c:P5 E ctx) {fn:Fn} {first b:List Operand} (a:B1i st ctx fn first b=some (φ,d)):Xd cx.P st E w Z B ty (.makeFunc fn first.toArray b.toArray) d:=by
 unfold B1i at a;split at a
 . simp only[qI,bind_some]at a;obtain⟨j,g,i,f,a⟩:=a;cases a;exact B9x h c g f
 . cases a
def Tg {k:IntKind} {a b:Int} (c:MO k a) (d:MO k b):MO k (max a b)/\MO k (min a b):=by unfold MO at*;omega
def RC.int {k:IntKind} {a:Int} {v:Value} (h:RC w Z B (.val (.int k) a) v):v= .int k a/\MO k a:=by
 obtain⟨b,c⟩:=h;simp only[sM,vR]at b;exact⟨b,c⟩
def fF (h:C3 za w0 st E w Z B) (O:G6 cx.P cx.tys=true) (f:P5 E ctx) {b:Builtin} {args:List Operand} {ts:List TypeId} (a:LZ cx st ctx b args ts=some (φ,d)):Xd cx.P st E w Z B ty (.call ⟨.builtin b,args.toArray,ts.toArray⟩) d:=by
 unfold LZ at a;split at a
 . simp only[qI,bind_some]at a;obtain⟨ti,N,u,⟨s,j,i⟩,U,J,a⟩:=a;have g:=h.c1 f (bind_some.2 ⟨s,j,i⟩);split at a
   . cases a
   . rename_i V F I;cases a;refine B9t h g.1 J (BP (C1 O N) F).1 (fun k H=> ?_);subst H;exact I _ rfl
   . cases a
 . simp only[qI,bind_some]at a;obtain⟨u,⟨s,j,i⟩,x,⟨t,o,n⟩,a⟩:=a;have g:=h.c1 f (bind_some.2 ⟨s,j,i⟩);have l:=h.c1 f (bind_some.2 ⟨t,o,n⟩);split at a
   . rename_i k v r b;cases c:decide (k=r)with
     |false=>simp[c]at a
     |true=>
      simp only[c,qW]at a;cases a;have:=qA c;subst this;have y:=RC.int g.1;have z:=RC.int l.1;exact Ho (fun A _=>C1c y.1 z.1) ⟨rfl,(Tg y.2 z.2).1⟩ trivial
   . cases a
 . simp only[qI,bind_some]at a;obtain⟨u,⟨s,j,i⟩,x,⟨t,o,n⟩,a⟩:=a;have g:=h.c1 f (bind_some.2 ⟨s,j,i⟩);have l:=h.c1 f (bind_some.2 ⟨t,o,n⟩);split at a
   . rename_i k v r b;cases c:decide (k=r)with
     |false=>simp[c]at a
     |true=>
      simp only[c,qW]at a;cases a;have:=qA c;subst this;have y:=RC.int g.1;have z:=RC.int l.1;exact Ho (fun A _=>C1e y.1 z.1) ⟨rfl,(Tg y.2 z.2).2⟩ trivial
   . cases a
 . simp only[qI,bind_some]at a;obtain⟨u,⟨s,j,i⟩,x,⟨t,o,n⟩,T,⟨R,M,G⟩,a⟩:=a;have g:=h.c1 f (bind_some.2 ⟨s,j,i⟩);have l:=h.c1 f (bind_some.2 ⟨t,o,n⟩);have D:=h.c1 f (bind_some.2 ⟨R,M,G⟩);split at a
   . rename_i k v r b Q u;cases c:decide (k=r)&&decide (k=Q)with
     |false=>simp only[c,rJ]at a;cases a
     |true=>
      simp only[c,qW]at a;cases a;simp only[qC,rP]at c;obtain⟨rfl,rfl⟩:=c;have y:=RC.int g.1;have z:=RC.int l.1;have A:=RC.int D.1;exact Ho (fun W _=>C1d y.1 z.1 A.1) ⟨rfl,(Tg (Tg y.2 z.2).1 A.2).1⟩ trivial
   . cases a
 . cases a
def BJ (h:C3 za w0 st E w Z B) (c:G6 cx.P cx.tys=true) (b:P5 E ctx) {op:Op} (a:Ym cx st ctx op=some (φ,d)) (f:JC φ):Xd cx.P st E w Z B ty op d:=by
 unfold Ym at a;split at a
 . exact(A3u h b a).1
 . exact(A3u h b a).2
 . exact A6r h b a
 . exact B3j h b a
 . exact A4z h c b a f
 . exact fS h a
 . exact UW h c b a
 . exact A0f h c b a
 . exact A6d h c b a
 . exact B0j h c b a f
 . exact A0h h c b a f
 . exact mR h c b a f
 . exact A1s h c b a f
 . exact A5l h c b a
 . rename_i T g;have:=pW (ty:=ty) h c b a;simpa using this
 . exact B1r h b a
 . have:=B1j (cx:=cx) (ty:=ty) h b a;simpa using this
 . have:=fF (ty:=ty) h c b a;simpa using this
 . cases a
end
def B2v (sz:Nat) (lo a:Int):C->C
 | .val (.sl t) l=>bif Nat.beq sz t.size then .val (.sl t) ((l.take a.toNat).drop lo.toNat)else .dead
 | _=> .dead
def CO (k:Nat) (a:C):C->C
 | .win j sz d b=>bif Nat.beq j k then B2v sz d b a else .win j sz d b
 | .row j=>bif Nat.beq j k then a else .row j
 | .mp j=>bif Nat.beq j k then a else .mp j
 |c=>c
def lW (k:Nat) (a:C) (s:SV):SV:=⟨s.agg,s.cs.map (CO k a)⟩
def IW (k:Nat) (a:C):DV->DV
 | .one s=> .one (lW k a s)
 | .tup b=> .tup (b.map (lW k a))
 | .cnd t b s=> .cnd t b (lW k a s)
 | .dead=> .dead
def lV (k:Nat) (a:C):LC->LC
 | .box T b=> .box T (b.map (CO k a))
 |x=>x
def mB (k:Nat):C->Bool
 | .win j _ _ _=>Nat.beq j k
 | .row j=>Nat.beq j k
 | .mp j=>Nat.beq j k
 | _=>false
def Xy (k:Nat):DV->Bool
 | .one s=>s.cs.any (mB k)
 | .tup a=>a.any fun s=>s.cs.any (mB k)
 | .cnd _ _ s=>s.cs.any (mB k)
 | .dead=>false
def bX (k:Nat):LC->Bool
 | .box _ a=>a.any (mB k)
 | _=>false
def mapV {α:Type} (p:α->Bool) (f:α->α) (g:Nat):List (Nat×Nat×α)->List (Nat×Nat×α)
 | []=> []
 | (s,x)::l=>(s,bif p x.2 then(g,f x.2)else x)::mapV p f g l
def AY {α:Type} (p:α->Bool) (f:α->α) (g:Nat) (d:Nat×α) (a:p d.2=false) (q:Nat):∀l:List (Nat×Nat×α),find d q (mapV p f g l)=bif p (find d q l).2 then(g,f (find d q l).2)else find d q l
 | []=>by simp[mapV,find,a]
 | (s,x)::l=>by
  simp only[mapV,find,AY p f g d a q l];cases Nat.beq s q<;>rfl
def Xz {k:Nat} {a:C} :∀ {cs:List C},cs.any (mB k)=false->cs.map (CO k a)=cs
 | [],_=>rfl
 |c::cs,h=>by
  simp only[yF,rH]at h;rw[rV,Xz h.2];congr 1;cases c with
  |row j=>simp only[mB]at h;simp only[CO,h.1,rJ]
  |mp j=>simp only[mB]at h;simp only[CO,h.1,rJ]
  |win j _ _ _=>simp only[mB]at h;simp only[CO,h.1,rJ]
  | _=>rfl
def bW {k:Nat} {b:C} {d:DV} (h:Xy k d=false):IW k b d=d:=by
 cases d with
 |one s=>simp only[IW,lW,Xz h]
 |cnd t a s=>simp only[IW,lW,Xz h]
 |dead=>rfl
 |tup a=>
  simp only[IW];congr 1;simp only[Xy]at h
  induction a with
  |nil=>rfl
  |cons s a c=>
   simp only[yF,rH]at h;rw[rV,c h.2];congr 1;simp only[lW,Xz h.1]
def A5u {k:Nat} {a:C} {l:LC} (h:bX k l=false):lV k a l=l:=by
 cases l with
 |box T b=>simp only[lV,Xz h]
 | _=>rfl
def St.freeze (a:St) (k:Nat) (b:C):St:=⟨mapV (Xy k) (IW k b) (a.ct+1) a.sl,mapV (bX k) (lV k b) (a.ct+1) (put k (a.ct+1, .none) a.lc),a.nx,a.ct+1,a.nm,a.fr.map (mapV (Xy k) (IW k b) (a.ct+1))⟩
def St.eS_freeze (a:St) (k:Nat) (b:C) (s:Nat):(a.freeze k b).eS s=bif Xy k (a.S s)then(a.ct+1,IW k b (a.S s))else a.eS s:=AY _ _ _ _ rfl _ _
def St.S_freeze (a:St) (k:Nat) (b:C) (s:Nat):(a.freeze k b).S s=IW k b (a.S s):=by
 show((a.freeze k b).eS s).2= _;rw[St.eS_freeze];cases h:Xy k (a.S s)with
 |true=>rfl
 |false=>exact(bW h).symm
def St.eL_freeze (a:St) (k:Nat) (b:C) (q:Nat):(a.freeze k b).eL q=bif bX k (if q=k then(a.ct+1,LC.none)else a.eL q).2 then(a.ct+1,lV k b (if q=k then(a.ct+1,LC.none)else a.eL q).2)else(if q=k then(a.ct+1,LC.none)else a.eL q):=by
 show find (0, .none) q (mapV (bX k) (lV k b) (a.ct+1) (put k (a.ct+1, .none) a.lc))= _;rw[AY _ _ _ _ rfl,Xx];rfl
def St.L_freeze (a:St) (k:Nat) (b:C) (q:Nat):(a.freeze k b).L q=lV k b (if q=k then .none else a.L q):=by
 show((a.freeze k b).eL q).2= _;rw[St.eL_freeze];have e:(if q=k then(a.ct+1,LC.none)else a.eL q).2=if q=k then LC.none else a.L q:=by split<;>rfl
 rw[e];cases h:bX k (if q=k then LC.none else a.L q)with
 |true=>rfl
 |false=>rw[rJ,e];exact(A5u h).symm
def bV {w:World} {v:Value} {b k:Nat} {a:C} {l:LC} :B4 w v (lV k a l) b↔B4 w v l b:=by cases l<;>exact xS
section
variable {za:Zn} {w0 w w':World} {Z:Nat->Prop} {B:Nat->Value} {st:St} {E:H6} {n:Nat}
section frz
variable {k:Nat} {c':C} (hc':∀v,v=B k->RC w Z B c' v) (hr':Cb n c')
include hc' in
theorem B4x {c:C} {v:Value} (h:RC w Z B c v):RC w Z B (CO k c' c) v:=by
 cases c with
 |row j=>
  simp only[CO];cases a:Nat.beq j k with
  |true=>have:=qD a;subst this;exact hc' v h
  |false=>exact h
 |mp j=>
  simp only[CO];cases a:Nat.beq j k with
  |true=>have:=qD a;subst this;exact hc' v h
  |false=>exact h
 |win j sz E A=>
  simp only[CO];cases i:Nat.beq j k with
  |true=>
   have:=qD i;subst this;have a:=hc' (B j) rfl;simp only[qW];unfold B2v;split
   . rename_i t D;cases l:Nat.beq sz t.size with
     |false=>trivial
     |true=>
      have:=qD l;subst this;obtain⟨r,n,s,g,y,z,b,d,f,u,x,o⟩:=h;rw[g]at a;rw[o];exact A4d a b d f
   . trivial
  |false=>exact h
 | _=>exact h
include hr' in
theorem A9x {c:C} (h:Cb n c):Cb n (CO k c' c):=by
 cases c with
 |row j=>
  simp only[CO];cases Nat.beq j k with
  |true=>exact hr'
  |false=>exact h
 |mp j=>
  simp only[CO];cases Nat.beq j k with
  |true=>exact hr'
  |false=>exact h
 |win j sz b a=>
  simp only[CO];cases Nat.beq j k with
  |true=>
   simp only[qW];unfold B2v;split
   . cases Nat.beq sz _ <;>trivial
   . trivial
  |false=>exact h
 | _=>exact h
include hc' in
theorem IV:∀ {cs:List C} {vs:List Value},Co w Z B cs vs->Co w Z B (cs.map (CO k c')) vs
 | [],_,h=>h
 | _:: _,_,⟨v,c,e,a,b⟩=>⟨v,c,e,B4x hc' a,IV b⟩
include hr' in
theorem AZ {cs:List C} (h:∀c∈cs,Cb n c):∀c∈cs.map (CO k c'),Cb n c:=fun c d=>by
 obtain⟨a,b,rfl⟩:=sW.1 d;exact A9x hr' (h a b)
include hc' in
theorem fV:∀ {s:SV} {v:Value},RS w Z B s v->RS w Z B (lW k c' s) v
 | ⟨true,_⟩,_,⟨a,e,h⟩=>⟨a,e,IV hc' h⟩
 | ⟨false,_⟩,_,h=>IV hc' h
include hc' in
theorem lX:∀ {ss:List SV} {vs:List Value},Pm w Z B ss vs->Pm w Z B (ss.map (lW k c')) vs
 | [],_,h=>h
 | _:: _,_,⟨v,c,e,a,b⟩=>⟨v,c,e,fV hc' a,lX b⟩
include hc' in
theorem A3h:∀ {d:DV} {v:Value},RD w Z B E d v->RD w Z B E (IW k c' d) v
 | .one _,_,h=>fV hc' h
 | .tup _,_,⟨a,e,h⟩=>⟨a,e,lX hc' h⟩
 | .cnd _ _ _,_,h=>h.imp (fun⟨a,b⟩=>⟨a,fV hc' b⟩) id
 | .dead,_,_=>trivial
include hr' in
theorem lT:∀ {d:DV},JS n d->JS n (IW k c' d)
 | .one _,h=>AZ hr' h
 | .tup f,h=>fun s b=>by
  obtain⟨c,a,rfl⟩:=sW.1 b;exact AZ hr' (h c a)
 | .cnd _ _ _,h=>AZ hr' h
 | .dead,_=>trivial
theorem lY (s:Nat) (f:List (Nat×Nat×DV)) (g:Nat):(find (0, .dead) s (mapV (Xy k) (IW k c') g f)).2=IW k c' (find (0, .dead) s f).2:=by
 rw[AY _ _ _ _ rfl];cases h:Xy k (find (0,DV.dead) s f).2 with
 |true=>rfl
 |false=>exact(bW h).symm
include hc' in
theorem A3i {g:Nat} :∀ {es:List H6} {a:List (List (Nat×Nat×DV))},RF w Z B es a->RF w Z B es (a.map (mapV (Xy k) (IW k c') g))
 | [],[],_=>trivial
 | _:: _,_:: _,⟨a,b⟩=>⟨fun s=>by rw[lY];exact A3h hc' (a s),A3i b⟩
 | [],_:: _,h=>h.elim
 | _:: _,[],h=>h.elim
include hr' in
theorem A9y {g:Nat} {a:List (List (Nat×Nat×DV))} (h:jK n a):jK n (a.map (mapV (Xy k) (IW k c') g)):=fun f d s=>by
 obtain⟨b,c,rfl⟩:=sW.1 d;rw[lY];exact lT hr' (h b c s)
include hr' in
theorem A9z:∀ {d:LC},CU n d->CU n (lV k c' d)
 | .box _ _,h=>AZ hr' h
 | .none,_=>trivial
 | .row _ _ _,_=>trivial
 | .map _ _ _ _ _,_=>trivial
 | .rows _ _ _ _ _ _,h=>h
 | .al _,h=>h
 | .sbox _ _ _,h=>h
 | .iter _ _ _ _ _ _,h=>h
 | .mapE _ _ _ _ _ _ _,h=>h
 | .nest _ _ _ _ _ _,h=>h
 | .itM _ _ _ _ _ _ _ _,h=>h
end frz
def Hm {d e sz m:Nat} {v:Value} {xs:List Value} {b f:Nat} (h:w.ownsRow d e sz v m xs) (j:v= .slice (some ⟨b,0,none⟩) m f):J2 w ⟨b,0,none⟩ xs:=fun o u a=>by
 subst j;rcases h.2 with⟨c,_⟩ | ⟨n,k,l,c,_,g,_,_,_,i⟩
 . cases c
 . cases c;rw[K6,sB];simp only[World.cell?,g];rw[<-i,wN]at a;split at a
   . simpa using a
   . cases a
def Bo {t:Ty} {d e:Nat} {v:Value} {l:List t.den} {xs:List Value} (c:w.ownsRow d e t.size v l.length xs) (i:G2 (C7 t w Z) xs l) (o:∀b,v.ownBlock=some b->Z b):C7 (.sl t) w Z [v] l:=by
 rcases c.2 with⟨a,n⟩ | ⟨g,f,r,a,_,s,h,k,_⟩
 . have:l= []:=qO n;subst this;subst a;exact⟨none,0,rfl,qT _,rL _,fun _=>rfl, .inl rfl⟩
 . exact⟨some ⟨g,0,none⟩,f,by rw[a],h,k,fun j=>(by cases j), .inr ⟨g,0,xs,rfl,o g (by rw[a];rfl),Hm c a,i⟩⟩
def Px {t:Ty} {k e e':Nat} {ls:List (List t.den)} {al:List (Nat×Nat)} {d:Option Nat} {xs:List Value} (c:w.ownsRow 0 e 1 (B k) ls.length xs) {i b:Nat} {x:Value} (o:De d i=false) (a:xs[i]? =some x) (l:root x=some b):B4 w (B k) (.rows t e e' ls al d) b:=by
 refine .inr ?_;rcases c.2 with⟨f,s⟩ | ⟨j,g,h,f,_,n,z,_,A,u⟩
 . have:=c.1;rw[s]at this;have v:xs= []:=qO (by omega);rw[v]at a;cases a
 . have r:i<ls.length:=by have:=(sP.1 a).1;have y:=c.1;omega
   refine⟨j,_,g,h,e,i,x,f,n,r,o, ?_,l⟩;rw[<-u,rY (by omega)]at a;simpa using a
def UP {α:Type} {R:List Value->α->Prop} :∀ {l:List α} {cs:List Value},cs.length=l.length->(∀(i:Nat) (a:α) (x:Value),l[i]? =some a->cs[i]? =some x->R [x] a)->G2 R cs l
 | [],cs,h,_=>qO h
 |a::l,[],h,_=>by simp at h
 |a::l,x::cs,h,b=>⟨[x],cs,rfl,b 0 a x rfl rfl,UP (by simpa using h) fun i a x c d=>b (i+1) a x (by simpa using c) (by simpa using d)⟩
def Ua {t:Ty} {e e' i b n:Nat} {v x:Value} {ls:List (List t.den)} {al:List (Nat×Nat)} {xs:List Value} (c:w.ownsRow 0 e 1 v n xs) (a:xs[i]? =some x) (j:root x=some b):B4 w v (.rows t e e' ls al none) b:=by
 refine .inr ?_;rcases c.2 with⟨d,o⟩ | ⟨h,f,g,d,_,k,y,_,z,r⟩
 . have:=c.1;rw[o]at this;have s:xs= []:=qO (by omega);rw[s]at a;cases a
 . have l:i<n:=by have:=(sP.1 a).1;have u:=c.1;omega
   refine⟨h,_,f,g,e,i,x,d,k,l,rfl, ?_,j⟩;rw[<-r,rY (by omega)]at a;simpa using a
def dJ {Z':Nat->Prop} {t:Ty} {e e':Nat} {v:Value} {ls:List (List t.den)} {al:List (Nat×Nat)} (h:Bj w Z t e e' v ls) (l:∀b,Z b->Z' b) (f:∀b,B4 w v (.rows t e e' ls al none) b->Z' b):C7 (.sl (.sl t)) w Z' [v] ls:=by
 obtain⟨u,a,j,r,s⟩:=h;refine Bo (t:= .sl t) a (UP (by have:=a.1;omega) fun n o x k g=> ?_) (fun b c=>f b (.inl ((E5 a).trans c)));obtain⟨y,d,i⟩:=j n o x k g;exact Bo d (i.mono fun _ _=>C7.mono l (fun _ _=>rfl)) (fun b c=>f b (Ua a g ((E5 d).trans c)))
def nT {U Z':Nat->Prop} {t:Ty} {k e e':Nat} {ls:List (List t.den)} {al:List (Nat×Nat)} (h:RL U w Z B k (.rows t e e' ls al none)) (c:∀b,Z b->Z' b) (a:∀b,B4 w (B k) (.rows t e e' ls al none) b->Z' b):C7 (.sl (.sl t)) w Z' [B k] ls:=dJ h.rowsR c a
def Bj.wf {t:Ty} {e e':Nat} {v:Value} {ls:List (List t.den)} (h:Bj w Z t e e' v ls):(Ty.sl (Ty.sl t)).wf ls:=C7.wf (dJ (al:= []) h (Z':=fun _=>True) (fun _ _=>trivial) (fun _ _=>trivial))
def C3.freeze (h:C3 za w0 st E w Z B) {k:Nat} {f:C} (H:st.nm<=k) (y:RC w (fun b=>Z b\/B4 w (B k) (st.L k) b) B f (B k)) (l:∀n,Cb n f):C3 za w0 (st.freeze k f) E w (fun b=>Z b\/B4 w (B k) (st.L k) b) B:=by
 have c:C3 za w0 (st.setL k .none) E w (fun b=>Z b\/B4 w (B k) (st.L k) b) B:=by
  refine(h.drop k).keep h.ext (qT _) (fun _ _=>rfl) (fun _=> .inl) (fun b d=> ?_);rcases d with d|d
  . exact .inl d
  . obtain⟨g,u,_⟩:=(h.locs k).root d;refine .inr ⟨u, ?_,fun q a=> ?_⟩
    . rcases g with g|g
      . exact g.2
      . have:=h.nms.1;omega
    . rw[St.L_setL]at a;by_cases j:q=k
      . rw[qJ j]at a;exact a.elim
      . rw[qH j]at a;exact h.disj q k b j a d
 have i:∀v,v=B k->RC w (fun b=>Z b\/B4 w (B k) (st.L k) b) B f v:=fun v hv=>by subst hv;exact y
 refine⟨c.ext,c.zlt,fun s=> ?_,fun q=> ?_,fun q D b A r t=> ?_,fun s=> ?_,fun q=> ?_,fun q a=> ?_,c.bone,c.zin,c.nms,c.bfix,⟨c.mrk.1,fun q b z o=>c.mrk.2 q b z (by rw[St.L_freeze,bV, <-St.L_setL]at o;exact o)⟩,A3i i c.frs,A9y (l _) c.frf⟩
 . rw[St.S_freeze];exact A3h i (c.slots s)
 . rw[St.L_freeze, <-St.L_setL];have:=c.locs q;cases a:(st.setL k .none).L q with
   |box T G=>
    rw[a]at this;obtain⟨b,F,d,g,j,u,x⟩:=this;exact⟨b,F,d,g,j,u,IV i x⟩
   |none=>trivial
   |row _ _ _=>rw[a]at this;exact this
   |map _ _ _ _ _=>rw[a]at this;exact this
   |rows _ _ _ _ _ _=>rw[a]at this;exact this
   |al _=>trivial
   |sbox _ _ _=>rw[a]at this;exact this
   |iter _ _ _ _ _ _=>rw[a]at this;exact this
   |mapE _ _ _ _ _ _ _=>rw[a]at this;exact this
   |nest _ _ _ _ _ _=>rw[a]at this;exact this
   |itM _ _ _ _ _ _ _ _=>rw[a]at this;exact this
 . rw[St.L_freeze,bV, <-St.L_setL]at r t;exact c.disj q D b A r t
 . rw[St.S_freeze];exact lT (l _) (c.refs s)
 . rw[St.L_freeze, <-St.L_setL];exact A9z (l _) (c.refl q)
 . rw[St.L_freeze, <-St.L_setL,c.fresh q a];rfl
def gL {f g:Bool} {c d:Ty} {b:Nat} {a:Array MapEntry} {cl:Nat} {es:List (c.den×d.den)} (h:w.heap[b]? =some (.map a cl)) (j:MOk a cl) (i:Pj w Z f c g d a.toList es) (k:Z b):C7 (.mp f c g d) w Z [.map (some b)] es:= .inr ⟨b,a,cl,rfl,k,h,j,i⟩
def settle:St->List C->St
 |st,[]=>st
 |st, .row k::a=>match st.L k with
  | .row t _ l=>settle (bif Nat.ble st.nm k then st.freeze k (.val (.sl t) l)else st) a
  | .rows t _ _ b _ none=>settle (bif Nat.ble st.nm k then st.freeze k (.val (.sl (.sl t)) b)else st) a
  | _=>settle st a
 |st, .win k _ _ _::a=>match st.L k with
  | .row t _ l=>settle (bif Nat.ble st.nm k then st.freeze k (.val (.sl t) l)else st) a
  | _=>settle st a
 |st, .mp k::a=>match st.L k with
  | .map c d f g b=>settle (bif Nat.ble st.nm k then st.freeze k (.val (.mp c d f g) b)else st) a
  | _=>settle st a
 |st,_::a=>settle st a
def C3.settle (h:C3 za w0 st E w Z B):∀cs:List C,∃Z',C3 za w0 (settle st cs) E w Z' B:=by
 intro cs
 induction cs generalizing st Z with
 |nil=>exact⟨Z,h⟩
 |cons f cs a=>
  cases f with
  |row k=>
   simp only[Vc.settle];cases b:st.L k with
   |row t e r=>
    cases j:Nat.ble st.nm k with
    |false=>exact a h
    |true=>
     have c:=h.locs k;rw[b]at c;obtain⟨s,d,i,o⟩:=c;have l:=E5 d;exact a (h.freeze (qQ j) (Bo d (i.mono fun _ _=>C7.mono (fun _=> .inl) (fun _ _=>rfl)) (fun n g=> .inr (by rw[b];exact l.trans g))) (fun _=>trivial))
   |rows t e l n al i=>
    cases i with
    |some _=>exact a h
    |none=>
     cases g:Nat.ble st.nm k with
     |false=>exact a h
     |true=>
      have c:=h.locs k;rw[b]at c;exact a (h.freeze (qQ g) (nT c (fun _=> .inl) fun j d=> .inr (by rw[b];exact d)) (fun _=>trivial))
   | _=>exact a h
  |win k _ _ _=>
   simp only[Vc.settle];cases c:st.L k with
   |row t e r=>
    cases j:Nat.ble st.nm k with
    |false=>exact a h
    |true=>
     have b:=h.locs k;rw[c]at b;obtain⟨s,d,i,o⟩:=b;have l:=E5 d;exact a (h.freeze (qQ j) (Bo d (i.mono fun _ _=>C7.mono (fun _=> .inl) (fun _ _=>rfl)) (fun n g=> .inr (by rw[c];exact l.trans g))) (fun _=>trivial))
   | _=>exact a h
  |mp k=>
   simp only[Vc.settle];cases c:st.L k with
   |map s t u v r=>
    cases j:Nat.ble st.nm k with
    |false=>exact a h
    |true=>
     have b:=h.locs k;rw[c]at b;obtain⟨l,o,n,e,_,_,d,i,g⟩:=b;exact a (h.freeze (qQ j) (by rw[e];exact gL d i (g.mono (fun _=> .inl) (fun _ _=>rfl)) (.inr (by rw[c];rfl))) (fun _=>trivial))
   | _=>exact a h
  | _=>exact a h
def stillB (cx:Cx) (st:St) (k:Nat):St:=match st.L k with
 | .box T a=>bif Nat.ble st.nm k then(match cx.ti T with
  |some ti=>match(settle st a).L k with
   | .box _ b=>(match Kx ti.ty b with
    |some (x,[])=>((settle st a).setL k .none).setL k (.sbox k ti.ty x)
    | _=>st)
   | _=>st
  |none=>st)else st
 | _=>st
def C3.stillB (h:C3 za w0 st E w Z B) (cx:Cx) (k:Nat):∃Z',C3 za w0 (stillB cx st k) E w Z' B:=by
 unfold Vc.stillB;split
 . rename_i T b I;cases x:Nat.ble st.nm k with
   |false=>exact⟨Z,h⟩
   |true=>
    simp only[qW];split
    . rename_i ti J;obtain⟨Z1,a⟩:=h.settle b;split
      . rename_i T' F i;split
        . rename_i D y;have o:k<(Vc.settle st b).nx:=by
           by_cases d:k<(Vc.settle st b).nx
           . exact d
           . rw[a.fresh k (by omega)]at i;cases i
          have n:=a.locs k;rw[i]at n;obtain⟨g,A,e,G,H,r,s⟩:=n;have v:∀c,B4 w (B k) ((Vc.settle st b).L k) c↔c=g:=fun c=>by
           rw[i,e];simp only[B4,root,rB];exact eq_comm
          have t:C3 za w0 ((Vc.settle st b).setL k .none) E w (fun c=>Z1 c\/B4 w (B k) ((Vc.settle st b).L k) c) B:=by
           refine(a.drop k).keep a.ext (qT _) (fun _ _=>rfl) (fun _=> .inl) (fun c d=> ?_);rcases d with d|d
           . exact .inl d
           . obtain⟨j,z,_⟩:=(a.locs k).root d;refine .inr ⟨z, ?_,fun q f=> ?_⟩
             . rcases j with j|j
               . exact j.2
               . have M:=a.nms.1;have N:=h.nms.1;have:=qQ x;omega
             . rw[St.L_setL]at f;by_cases l:q=k
               . rw[qJ l]at f;exact f.elim
               . rw[qH l]at f;exact a.disj q k c l f d
          have u:=t.addL (k:=k) (lc:= .sbox k ti.ty D) o ⟨rfl,⟨g,0,A.toList,by rw[e], .inr ((v g).2 rfl),r.cellsAt,(Fy s y).mono (fun _=> .inl) (fun _ _=>rfl)⟩,g,e⟩ (fun _ _ _ hh=>hh.elim) o (fun _ _ hh=>hh.elim);exact⟨_,u⟩
        . exact⟨Z,h⟩
      . exact⟨Z,h⟩
    . exact⟨Z,h⟩
 . exact⟨Z,h⟩
def settleO (st:St) (x:Operand):St:=match st.ev [] x with
 |some s=>settle st s.cs
 |none=>st
def C3.settleO (h:C3 za w0 st E w Z B) (x:Operand):∃Z',C3 za w0 (settleO st x) E w Z' B:=by
 unfold Vc.settleO;split
 . exact h.settle _
 . exact⟨Z,h⟩
end
section
variable {P:Program} {all:List Oper} {E:H6} {w w':World} {next:H6->World->Prop} {d:Nat} {op:Op} {ty:TypeId} {pos:String} {aft:Array Edge} {g:Option (Nat×Bool)} {v:Value}
def Q6 (b:Gw.E7 P E ty op w v w') (a:D9 all ⟨some d,op,ty,pos,aft,g⟩ E=true) (h:next (upd E d v) w'):M9 P all ⟨some d,op,ty,pos,aft,g⟩ next E w:=by
 unfold M9;rw[qJ a,b];exact h
def A4o (b:Gw.E7 P E ty op w v w') (a:D9 all ⟨none,op,ty,pos,aft,g⟩ E=true) (h:next E w'):M9 P all ⟨none,op,ty,pos,aft,g⟩ next E w:=by
 unfold M9;rw[qJ a,b];exact h
def Uk (b:Gw.HT P E ty op w w') (a:D9 all ⟨none,op,ty,pos,aft,g⟩ E=true) (h:next E w'):M9 P all ⟨none,op,ty,pos,aft,g⟩ next E w:=by
 unfold M9;rw[qJ a,b];exact h
def Yt {f:FuncId} {args:List Value} {Φ:Value->World->Prop} (a:Gw.A8c P E ty op w f args) (b:Gw.pA P f args w Φ) (c:D9 all ⟨some d,op,ty,pos,aft,g⟩ E=true)
 (h:∀v w',Φ v w'->next (upd E d v) w'):M9 P all ⟨some d,op,ty,pos,aft,g⟩ next E w:=by
 unfold M9;rw[qJ c,a];exact Calls.mono b fun _ _ ⟨v,a,hv⟩=>⟨v,a,h _ _ hv⟩
def Lu (a:D9 all ⟨some d,op,ty,pos,aft,g⟩ E=false) (h:next (upd E d undef) w):M9 P all ⟨some d,op,ty,pos,aft,g⟩ next E w:=by
 unfold M9;rw[qH (by rw[a];simp)];exact h
end
def wrB:Op->Bool
 | .store _ _ _=>true
 | .mapUpdate _ _ _ _=>true
 | .insert _ _ _ _=>true
 | .next _ _=>true
 | .mapEntry _ _ _=>true
 | .entryStore _ _ _ _=>true
 | .call ⟨.builtin .append,_,_⟩=>true
 | .call ⟨.builtin .copy,_,_⟩=>true
 | .call ⟨.builtin .delete,_,_⟩=>true
 | .call ⟨.builtin .clear,_,_⟩=>true
 | _=>false
def Nx (c:Zn) (b:World) (k:St->Prop) (E:H6) (w:World):Prop:=∃a Z B,C3 c b a E w Z B/\k a
def eK (b:Zn) (a w:World) (wr:Bool) (k:St->Prop) (E:H6) (w':World):Prop:=(wr=false->Q7 w w')/\Nx b a k E w'
def Qo (t:Ty):Nat->List (Nat×List C)->Option (List t.den)
 | _,[]=>some []
 |i,(j,a)::r=>bif Nat.beq i j then(match Kx t a with
  |some (x,[])=>(Qo t (i+1) r).map (x:: ·)
  | _=>none)else none
def settleP:St->List (Nat×Operand)->St
 |a,[]=>a
 |a,(_,x)::r=>settleP (settleO a x) r
def gB (a:St) (x:Operand):Option Int:=(a.ev [] x).bind gA
def Te:Value->Bool
 | .slice none 0 0=>true
 | _=>false
def Fs {v:Value} (h:Te v=true):v= .slice none 0 0:=by
 unfold Te at h;split at h
 . rfl
 . cases h
def Uw (a:St) (t:Ty):C->Option (List t.den)
 | .val (.sl b) l=>if h:b=t then some (h▸l)else none
 | .row k=>match a.L k with
  | .row b _ l=>if h:b=t then some (h▸l)else none
  | _=>none
 | .win k sz c b=>match a.L k with
  | .row a _ l=>if h:a=t then(bif Nat.beq sz a.size then some (h▸((l.take b.toNat).drop c.toNat))else none)else none
  | _=>none
 | .raw v=>bif Te v then some []else none
 | _=>none
def NN (a:St) (t:Ty) (e:TypeId):C->Option (List t.den)
 | .row k=>match a.L k with
  | .row c b l=>if h:c=t then(bif Nat.beq b e&&Nat.ble a.nm k then some (h▸l)else none)else none
  | _=>none
 | .raw v=>bif Te v then some []else none
 | _=>none
def boxS (a:St) (d:Tmp) (T:TypeId) (cs:List C):St:=(a.newL (.box T cs)).setS d (one1 (.box a.nx 0))
def rowS (a:St) (d:Tmp) (t:Ty) (e:TypeId) (l:List t.den):St:=(a.newL (.row t e l)).setS d (one1 (.row a.nx))
def B9w (a:St) (d:Tmp) (b:Bool) (c:Ty) (f:Bool) (g:Ty):St:=(a.newL (.map b c f g [])).setS d (one1 (.mp a.nx))
def dK (a:St) (d:Tmp) (t:Ty) (e e':TypeId) (ls:List (List t.den)):St:=(a.newL (.rows t e e' ls [] none)).setS d (one1 (.row a.nx))
def VM (cx:Cx) (a:St) (d:Tmp) (ti:TI) (n:Nat):Option St:=match ti.ty with
 | .sl (.sl t)=>(cx.ti ti.elem).map fun b=>dK a d t ti.elem b.elem (List.replicate n [])
 | _=>none
def B2u (c:Bool) (a:Ty) (d:Bool) (b:Ty):C->Option (List (a.den×b.den))
 | .val t f=>if h:t=Ty.mp c a d b then some (h▸f:(Ty.mp c a d b).den)else none
 | .raw (.map none)=>some []
 | _=>none
def A8j (a:St) (d:Tmp) (k:Nat) (t:Ty) (e e':TypeId) (ls:List (List t.den)) (al:List (Nat×Nat)) (i:Nat):St:=((a.newL (.al k)).setL k (.rows t e e' ls ((i,a.nx)::al) none)).setS d (one1 (.row a.nx))
def dropR (a:St):C->St
 | .row k=>a.setL k .none
 | _=>a
def FY (c:C):C->Bool
 | .win k _ _ _=>match c with
  | .row j=> !(Nat.beq j k)
  | _=>true
 | .row k=>match c with
  | .row j=> !(Nat.beq j k)
  | _=>true
 | _=>true
def slT:Ty->Option Ty
 | .sl t=>some t
 | _=>none
def B8i (cx:Cx) (a:St) (d:Tmp) (T:TypeId) (x y:Operand):Option (Option Prop×St):=do
 let ti<-cx.ti T
 let t<-slT ti.ty
 let b<-(a.ev [] x).bind c1
 let f<-(a.ev [] y).bind c1
 let l<-NN a t ti.elem b
 let c<-Uw a t f
 bif FY b f&&Nat.ble 1 t.size then some (some ((l.length+c.length)*ti.bytes<=140737488355328/\l.length+c.length<=9223372036854775807),rowS (dropR a b) d t ti.elem (l++c))else none
def Kk {α:Type} (l a:List α):List α:=a.take l.length++l.drop a.length
def kS (cx:Cx) (a:St) (d:Tmp) (T:TypeId) (x y:Operand):Option St:=do
 let ti<-cx.ti T
 let t<-slT ti.ty
 let c<-(a.ev [] x).bind c1
 let b<-(a.ev [] y).bind c1
 let f<-Uw a t b
 match c with
 | .row k=>match a.L k with
  | .row c e l=>if h:c=t then(bif FY (.row k) b then some ((a.setL k (.row c e (Kk l (h▸f)))).setS d (one1 (.val (.int .i64) (min (f.length:Int) (l.length:Int)))))else none)else none
  | _=>none
 | _=>none
def cM (cx:Cx) (a:St) (d:Tmp) (T:TypeId) (x:Operand):Option St:=do
 let ti<-cx.ti T
 let c<-(a.ev [] x).bind c1
 match c with
 | .elp k sz i f=>match a.L k with
  | .rows t e b c al none=>bif Nat.beq sz 1&&Nat.beq f 0&& !ti.agg then some (A8j a d k t e b c al i)else none
  | _=>none
 | _=>none
def B4m (a:St):C->St
 | .row q=>match a.L q with
  | .al k=>match a.L k with
   | .rows t e b c al none=>match DW q al with
    |some i=>bif Nat.ble a.nm k&&Nat.ble a.nm q then(a.setL k (.rows t e b c [] (some i))).setL q (.row t b (c.getD i []))else a
    |none=>a
   | _=>a
  | _=>a
 | _=>a
def detO (a:St) (x:Operand):St:=match(a.ev [] x).bind c1 with
 |some c=>B4m a c
 |none=>a
def A9m (cx:Cx) (a:St) (d:Tmp):Op->Option (Option Prop×St)
 | .box T x=>do
  let s<-a.ev [] x
  bif s.cs.all Ei then some (none,boxS a d T s.cs)else none
 | .alloc T=>do
  let ti<-cx.ti T
  some (none,boxS a d T (AJ ti.ty))
 | .buildSlice T len b=>do
  let ti<-cx.ti T
  let t<-slT ti.ty
  let c:=settleP a b.toList
  let f<-Jt c [] b.toList
  let b<-Qo t 0 f
  bif Nat.beq b.length len&&Nat.ble (len*t.size) 16777216&&Nat.ble 1 t.size then some (none,rowS c d t ti.elem b)else none
 | .makeSlice T c b=>do
  let ti<-cx.ti T
  let t<-slT ti.ty
  let l<-gB a c
  let c<-gB a b
  bif ti.rows then(VM cx a d ti l.toNat).map fun b=>(some (0<=l/\l<=c/\(ti.bytes:Int)*c<=281474976710656/\c<=9223372036854775807),b)
  else bif Qe t then some (some (0<=l/\l<=c/\(ti.bytes:Int)*c<=281474976710656/\c<=9223372036854775807),rowS a d t ti.elem (List.replicate l.toNat t.dflt))else none
 | .call ⟨.builtin .append,b,c⟩=>match b.toList,c.toList with
  | [x,y],[T,T']=>bif Nat.beq T T' then B8i cx (detO a x) d T x y else none
  | _,_=>none
 | .makeMap T r=>do
  let ti<-cx.ti T
  match ti.ty,r with
  | .mp b c f g,none=>some (none,B9w a d b c f g)
  | .mp b c f g,some o=>(gB a o).map fun _=>(none,B9w a d b c f g)
  | _,_=>none
 | .call ⟨.builtin .len,b,c⟩=>match b.toList,c.toList with
  | [x],[T]=>do
   let ti<-cx.ti T
   match ti.ty with
   | .mp f g h i=>do
    let c<-(a.ev [] x).bind c1
    let b<-B5p a f g h i c
    some (some (b.length<=9223372036854775807),a.setS d (one1 (.val (.int .i64) (b.length:Int))))
   | _=>none
  | _,_=>none
 | .load T x=>(cM cx a d T x).map fun b=>(none,b)
 | .range T x=>do
  let ti<-cx.ti T
  match ti.ty with
  | .mp b c f g=>do
   let h<-((settleO a x).ev [] x).bind c1
   let i<-B2u b c f g h
   some (none,((settleO a x).newL (.iter b c f g i none)).setS d (one1 (.box (settleO a x).nx 0)))
  | _=>none
 | .entry x=>do
  let c<-(a.ev [] x).bind c1
  match c with
  | .box k f=>match a.L k with
   | .iter b c g h _ (some y)=>bif Nat.beq f 0 then some (none,a.setS d (.tup [⟨b,explode c y.1⟩,⟨g,explode h y.2⟩]))else none
   | _=>none
  | _=>none
 | .call ⟨.builtin .copy,b,c⟩=>match b.toList,c.toList with
  | [x,y],[T,_]=>(kS cx a d T x y).map fun b=>(none,b)
  | _,_=>none
 | _=>none
section
variable {za:Zn} {w0 w w':World} {Z Z':Nat->Prop} {B:Nat->Value} {st st':St} {E:H6} {cx:Cx} {φ:Option Prop} {d:Tmp}
def S4.len {a b:Type} {Rk:Value->a->Prop} {Rv:Value->b->Prop} :∀ {l:List (a×b)} {es:List MapEntry},S4 Rk Rv es l->es.length=l.length
 | [],_,h=>by rw[show _= _ from h];rfl
 | _:: _,_,⟨e,c,b,_,_,a⟩=>by rw[b,rF,rF,S4.len a]
def Eh (h:C3 za w0 st E w Z B) {k:Nat} (a:live (st.L k)):k<st.nx:=by
 by_cases b:k<st.nx
 . exact b
 . rw[h.fresh k (by omega)]at a;exact a.elim
def Kw {a b e sz n:Nat} {v:Value} {xs:List Value} (h:w.ownsRow a e sz v n xs) (i:b<=a):w.ownsRow b e sz v n xs:=by
 refine⟨h.1, ?_⟩;rcases h.2 with h| ⟨g,a,b,c,d,f⟩
 . exact .inl h
 . exact .inr ⟨g,a,b,c,qY i d,f⟩
def iD {d a e sz n:Nat} {v:Value} {xs:List Value} (h:w.ownsRow d e sz v n xs) (k:∀b,v.ownBlock=some b->a<=b):w.ownsRow a e sz v n xs:=by
 refine⟨h.1, ?_⟩;rcases h.2 with h| ⟨g,f,i,c,l,j⟩
 . exact .inl h
 . exact .inr ⟨g,f,i,c,k g (by rw[c];rfl),j⟩
def C3.newBox (h:C3 za w0 st E w Z B) (d:Tmp) {T:TypeId} {cs:List C} {vs:Array Value} (s:Co w Z B cs vs.toList) (j:∀c∈cs,Cb st.nx c):
 ∃B',C3 za w0 (boxS st d T cs) (upd E d (.pointer (some ⟨w.heap.size,0,none⟩))) (w.alloc (.cells vs T)) Z B':=by
 have g:Q7 w (w.alloc (.cells vs T)):=Q7.alloc w _;have l:=h.more (Z':=Z) g (fun _=>id) (fun _=> .inl);have i:∀b,Z b->b<w.heap.size:=h.zlt;have u:N2 Z w (w.alloc (.cells vs T)):=fun b a=>g.block b (i b a)
 have o:=l.new (v:= .pointer (some ⟨w.heap.size,0,none⟩)) (lc:= .box T cs) ⟨w.heap.size,vs,C2 _ _ _, .inl ⟨h.nms.2,h.ext.size⟩,fun hz=>absurd (i _ hz) (tR _),Eu w vs T,
  Co.mono (n:=st.nx) (fun _=>id) u (fun k t=>C5 _ _ _ _ (uC t)) j s⟩
  (fun k b a r=>by
   simp only[B4,root,rB]at a;have:=((h.locs k).root (h.ft g r)).2.1;omega)
  (fun c f=>(j c f).le (uW _)) rfl (fun b _ a=>by simp only[B4,root,rB]at a;have:=h.mrk.1;omega)
 refine⟨_,o.setS d (x:=one1 (.box st.nx 0)) ⟨_,[],rfl,⟨w.heap.size,C2 _ _ _,rfl⟩,rfl⟩ (fun c f=> ?_)⟩;simp at f;subst f;exact rN _
def C3.newRowE (h:C3 za w0 st E w' Z B) (d:Tmp) {t:Ty} {e:TypeId} {l:List t.den} {v:Value} {xs:List Value} (c:w'.ownsRow w0.heap.size e t.size v l.length xs) (o:G2 (C7 t w' Z) xs l) (g:∀b,v.ownBlock=some b->¬Z b/\∀k,¬B4 w' (B k) (st.L k) b) (s:∀b,za.k0<=st.nx->v.ownBlock=some b->za.b0<=b):
 C3 za w0 (rowS st d t e l) (upd E d v) w' Z (upd B st.nx v):=by
 have i:=E5 c;have u:v.oneCell'=true:=by rcases c.2 with⟨hv,_⟩ | ⟨_,_,_,hv,_⟩<;>rw[hv]<;>rfl
 have j:=h.new (v:=v) (lc:= .row t e l) ⟨xs,by rw[C2];exact Kw c (rL _),o,fun b a=>by rw[C2]at a;exact⟨.inl ⟨h.nms.2,(World.ownsRow.lt c b a).1⟩,(g b a).1⟩⟩
  (fun k b a n=>(g b (i.symm.trans a)).2 k n) trivial u (fun b r a=>s b r (i.symm.trans a))
 refine j.setS d (x:=one1 (.row st.nx)) ⟨_,[],rfl,(C2 _ _ _).symm,rfl⟩ (fun w f=> ?_);simp at f;subst f;exact rN _
def C3.newRow (h:C3 za w0 st E w' Z B) (d:Tmp) {t:Ty} {e:TypeId} {l:List t.den} {v:Value} {xs:List Value} (g:w'.ownsRow w0.heap.size e t.size v l.length xs) (a:G2 (C7 t w' Z) xs l) (f:∀b,v.ownBlock=some b->¬Z b/\∀k,¬B4 w' (B k) (st.L k) b) (c:∀b,za.k0<=st.nx->v.ownBlock=some b->za.b0<=b):
 ∃B',C3 za w0 (rowS st d t e l) (upd E d v) w' Z B':=⟨_,h.newRowE d g a f c⟩
def Qn {j k e e' sz n:Nat} {v:Value} {xs i:List Value} (h:w.ownsRow j e sz v n xs) (c:w.ownsRow k e' sz v n i):xs=i:=by
 rcases h.2 with⟨b,o⟩ | ⟨z,t,x,b,_,l,_,_,_,r⟩
 . have d:=h.1;have f:=c.1;rw[o,xP]at d f;rw[qO d,qO f]
 . rcases c.2 with⟨a,_⟩ | ⟨A,u,y,a,_,g,_,_,_,s⟩
   . rw[b]at a;cases a
   . rw[b]at a;cases a;rw[l]at g;cases g;rw[<-r, <-s]
def C3.newRows (h:C3 za w0 st E w' Z B) (d:Tmp) (t:Ty) {e:TypeId} (e':TypeId) {n:Nat} {v:Value} {xs:List Value} (f:w'.ownsRow w0.heap.size e 1 v n xs) (N:∀x∈xs,x= .slice none 0 0) (A:∀b,v.ownBlock=some b->¬Z b/\∀k,¬B4 w' (B k) (st.L k) b) (H:∀b,za.k0<=st.nx->v.ownBlock=some b->za.b0<=b):
 ∃B',C3 za w0 (dK st d t e e' (List.replicate n [])) (upd E d v) w' Z B':=by
 have I:=E5 f;have M:v.oneCell'=true:=by rcases f.2 with⟨g,_⟩ | ⟨_,_,_,g,_⟩<;>rw[g]<;>rfl
 have r:∀(i:Nat) (x:Value),xs[i]? =some x->x= .slice none 0 0:=fun i x c=>N x (sX c)
 have s:∀b,B4 w' v (.rows t e e' (List.replicate n []) [] none) b->v.ownBlock=some b:=fun b a=>by
  rcases a with a| ⟨V,m,P,R,U,i,x,g,G,X,_,c,a⟩
  . exact I.symm.trans a
  . exfalso;rcases f.2 with⟨o,_⟩ | ⟨W,Q,T,o,_,z,Y,_,a0,J⟩
    . rw[g]at o;cases o
    . rw[g]at o;cases o;rw[G]at z;cases z;have:xs[i]? =some x:=by rw[<-J,rY (by omega)];simpa using c
      rw[r i x this]at a;simp[root]at a
 have D:=h.new (v:=v) (lc:= .rows t e e' (List.replicate n []) [] none) ⟨xs,by rw[C2,rK];exact Kw f (rL _),⟨fun p u=>(by cases u),fun i l x _ hl c=>⟨[], ?_, ?_⟩,fun i j x y b _ _ _ c _ a=> ?_⟩,fun i x b _ c a=> ?_,fun b a=> ?_⟩
  (fun k b a F=>(A b (s b a)).2 k F) (fun p u=>by cases u) M (fun b hk a=>H b hk (s b a))
 . refine⟨_,D.setS d (x:=one1 (.row st.nx)) ⟨_,[],rfl,(C2 _ _ _).symm,rfl⟩ (fun O w=> ?_)⟩;simp at w;subst w;exact rN _
 . have:=(zM.1 (sX hl)).2;subst this;exact⟨by simp, .inl ⟨r i x c,rfl⟩⟩
 . have:=(zM.1 (sX hl)).2;subst this;rfl
 . rw[r i x c]at a;simp[root]at a
 . rw[r i x c]at a;simp[root]at a
 . rw[C2]at a;have a:=s b a;have:=World.ownsRow.lt f b a;exact⟨.inl ⟨h.nms.2,this.1⟩,(A b a).1,this.2⟩
def C3.aliasL (h:C3 za w0 st E w Z B) {k:Nat} {t:Ty} {e e':TypeId} {ls:List (List t.den)} {al:List (Nat×Nat)} {i:Nat} {v:Value} {xs:List Value} (l:st.L k= .rows t e e' ls al none) (z:w.ownsRow 0 e 1 (B k) ls.length xs) (D:AtV xs i v) (A:v.oneCell'=true):
 C3 za w0 ((st.newL (.al k)).setL k (.rows t e e' ls ((i,st.nx)::al) none)) E w Z (upd B st.nx v):=by
 have n:k<st.nx:=Eh h (by rw[l];trivial);have c:=h.new (v:=v) (lc:= .al k) trivial (fun _ _ b=>b.elim) trivial A (fun _ _ b=>b.elim);have d:(st.newL (.al k)).L k= .rows t e e' ls al none:=by rw[St.L_newL,qH (uC n),l]
 have g:=c.locs k;have j:=c.refl k;rw[d]at g j;have y:(upd B st.nx v) k=B k:=C5 _ _ _ _ (uC n);obtain⟨G,f,⟨o,r,s⟩,u,x⟩:=g;have F:xs=G:=Qn z (by rw[<-y];exact f);subst F;refine c.relc (k:=k) (lc:= .rows t e e' ls ((i,st.nx)::al) none) (by rw[d];trivial) ⟨xs,f,⟨fun p a=> ?_,r,s⟩,u,x⟩ (fun p a=> ?_) (fun H b=> .inr (by rw[d];exact b))
 . rcases qS.1 a with rfl|a
   . simp only[C2];exact D
   . exact o p a
 . rcases qS.1 a with rfl|a
   . exact rN _
   . exact j p a
def C3.alias (h:C3 za w0 st E w Z B) (d:Tmp) {k:Nat} {t:Ty} {e e':TypeId} {ls:List (List t.den)} {al:List (Nat×Nat)} {i:Nat} {v:Value} {xs:List Value} (b:st.L k= .rows t e e' ls al none) (c:w.ownsRow 0 e 1 (B k) ls.length xs) (g:xs[i]? =some v) (f:v.oneCell'=true):
 ∃B',C3 za w0 (A8j st d k t e e' ls al i) (upd E d v) w Z B':=by
 refine⟨_,(h.aliasL b c (.inl g) f).setS d (x:=one1 (.row st.nx)) ⟨_,[],rfl,(C2 _ _ _).symm,rfl⟩ (fun j a=> ?_)⟩;simp at a;subst a;exact rN _
def C3.newMap (h:C3 za w0 st E w Z B) (d:Tmp) (g:Bool) (i:Ty) (j:Bool) (k:Ty):
 ∃B',C3 za w0 (B9w st d g i j k) (upd E d (.map (some w.heap.size))) (w.alloc (.map #[] 0)) Z B':=by
 have f:Q7 w (w.alloc (.map #[] 0)):=Q7.alloc w _;have l:=h.more (Z':=Z) f (fun _=>id) (fun _=> .inl);have o:∀b,Z b->b<w.heap.size:=h.zlt;have n:=l.new (v:= .map (some w.heap.size)) (lc:= .map g i j k []) ⟨w.heap.size, #[],0,C2 _ _ _, .inl ⟨h.nms.2,h.ext.size⟩,fun hz=>absurd (o _ hz) (tR _),heap_alloc_new w _,⟨by simp,by simp⟩,rfl⟩
  (fun s b a r=>by
   simp only[B4,root,rB]at a;have:=((h.locs s).root (h.ft f r)).2.1;omega)
  trivial rfl (fun b _ a=>by simp only[B4,root,rB]at a;have:=h.mrk.1;omega)
 refine⟨_,n.setS d (x:=one1 (.mp st.nx)) ⟨_,[],rfl,(C2 _ _ _).symm,rfl⟩ (fun t c=> ?_)⟩;simp at c;subst c;exact rN _
def Tv {t:Ty} :∀ {i:Nat} {g:List (Nat×List C)} {a:List (Nat×Value)} {xs:List t.den},A2m w Z B g a->Qo t i g=some xs->a=((a.map (·.2)).zipIdx i).map (fun x=>(x.2,x.1))/\(∀v∈a.map (·.2),v.cells.size=t.size)/\xs.length=a.length/\G2 (C7 t w Z) ((a.map (·.2)).flatMap (·.cells.toList)) xs
 |i,[],a,xs,h,b=>by cases b;rw[show a= []from h];exact⟨rfl,by simp,rfl,rfl⟩
 |i,(y,A)::D,a,xs,⟨v,E,e,n,o⟩,b=>by
  simp only[Qo]at b;cases d:Nat.beq i y with
  |false=>simp[d]at b
  |true=>
   have r:=qD d;subst r;simp only[d,qW]at b;split at b
   . rename_i x s;simp only[qL]at b;obtain⟨F,u,rfl⟩:=b;obtain⟨h,j,k,l⟩:=Tv o u;have f:=Fy n s;subst e;refine⟨?_, ?_,by simp[k],⟨v.cells.toList,_,by simp,f,l⟩⟩
     . simp only[rV,g1q];rw[<-h]
     . intro z c;simp only[rV,qS]at c;rcases c with rfl|c
       . have:=C7.length f;simpa using this
       . exact j z (by simpa using c)
   . cases b
def C3.settleP (h:C3 za w0 st E w Z B):∀a:List (Nat×Operand),∃Z',C3 za w0 (settleP st a) E w Z' B:=by
 intro a
 induction a generalizing st Z with
 |nil=>exact⟨Z,h⟩
 |cons x a b=>
  obtain⟨Z1,a⟩:=h.settleO x.2;exact b a
def Pg {P:Program} {T e ty:TypeId} {sz len:Nat} {parts:List (Nat×Operand)} {z:Value} (vs:List Value) (d:Gi P T e sz=true) (t:Ee P e=some z) (g:len*sz<=16777216) (n:1<=sz) (y:z.cells.size=sz)
 (c:(parts.map fun x=>(x.1,Gw.ev E x.2))=(vs.zipIdx 0).map fun x=>(x.2,x.1)) (s:∀v∈vs,v.cells.size=sz) (b:vs.length=len):
 ∃cs:Array Value,cs.toList=vs.flatMap (·.cells.toList)/\Gw.E7 P E ty (.buildSlice T len parts.toArray) w (.slice (some ⟨w.heap.size,0,none⟩) len len) (w.alloc (.cells cs e)):=by
 by_cases a:len=0
 . subst a;have:vs= []:=qO b;subst this;refine⟨#[],rfl,fun _ _ _ _=> ?_⟩;obtain⟨o,l⟩:=Ir d;have f:=Gw.Et (P:=P) (w:=w) l;have i:parts= []:=by simpa using c
   subst i;simp only[execOp];unfold Instr.buildSlice;have a:Array.range 0= #[]:=by apply Array.ext<;>simp
   simp[run_underlying o,f,Instr.fill,newRow,a]
 . obtain⟨r,j,k,u⟩:=lK sz vs 0 ((Array.range (len*sz)).map (z.cells[· %z.cells.size]!)) s (by simp[b]);refine⟨r,by rw[k];simp[b], ?_⟩;have h:len*sz≠0:=by
    have:1<=len:=by omega
    have:=vB this n;omega
   exact iW r d t g (by rw[c];exact j) h
def FE {P:Program} {o:Nat} {t ty e:TypeId} {i:TypeInfo} {z:Value} {size:Nat} (k:P.underlying t=some (.slice e)) (f:P.info? e=some i) (D:i.zero=some z) (I:i.size=size) (a1:z.cells.size=size) (a0:0<size)
 {v:Value} {n:Nat} {xs:List Value} (d:w.ownsRow o e size v n xs) {ao:Option Addr} {m c:Nat} {news:List Value} (h:news.length=m*size) (V:∀a,ao=some a->J2 w a news) (X:ao=none->m=0/\c=0) (E:∀u∈news,u.oneCell'=true)
 (a3:n+m<=9223372036854775807) (B:(n+m)*i.bytes<=140737488355328) (M:o<=w.heap.size):
 ∃l w',(Builtin.append_ #[t,t] ty #[v, .slice ao m c]).run P w= .ok l w'/\w'.ownsRow o e size l (n+m) (xs++news)/\w.grownBy w' v.ownBlock/\(l.ownBlock=v.ownBlock\/l.ownBlock=some w.heap.size)/\w.drawn<=w'.drawn:=by
 cases ao with
 |none=>
  obtain⟨rfl,rfl⟩:=X rfl;have b:news= []:=qO (by simpa using h);subst b;refine⟨v,w,run_append_owned_none (P:=P) w o t ty e i size k f v n xs d,by simpa using d,⟨rfl,rfl,rfl,qT _,fun _ _ _=>rfl⟩, .inl rfl,qT _⟩
 |some a=>
  by_cases T:m=0
  . subst T;have W:news= []:=qO (by simpa using h);subst W;have b:(Builtin.append_ #[t,t] ty #[v, .slice (some a) 0 c]).run P w= .ok v w:=by
     have F:(loadCells a 0).run P w= .ok #[] w:=by simpa using run_loadCells_list (P:=P) w a [] (by simp)
     rcases d.2 with⟨rfl,rfl⟩ | ⟨g,s,A,rfl,_,_,G,_⟩
     . simp[Builtin.append_,run_underlying k,sizeOf,typeInfo,f,Builtin.lenOf,Builtin.firstCells,F]
     . simp[Builtin.append_,run_underlying k,sizeOf,typeInfo,f,Builtin.lenOf,Builtin.firstCells,G,storeCells,F]
    exact⟨v,w,b,by simpa using d,⟨rfl,rfl,rfl,qT _,fun _ _ _=>rfl⟩, .inl rfl,qT _⟩
  . have U:n+m<=maxLen:=by simp only[maxLen];omega
    have y:=V a rfl;obtain⟨l,a2,b,Z,R,_⟩:=run_append_own (P:=P) w o t ty e i z size i.bytes k f D I rfl a1 a0 v n xs d a m c news h y E U B M;refine⟨l,a2,b,Z,R, ?_⟩;subst I;rcases d.2 with⟨rfl,rfl⟩ | ⟨x,s,A,rfl,_,O,G,_,N,_⟩
    . have J:m*i.bytes<=281474976710656:=by simp only[sB]at B;omega
      have r:=run_append_nil (P:=P) w t ty e i z k f D a m c news h y (by omega) (by omega) J;rw[r]at b;cases b;exact⟨.inr rfl,by simp[World.drawn_alloc,World.drawn_drew]<;>omega⟩
    . by_cases H:n+m<=s
      . have Q:n*i.size+news.length<=A.size:=by rw[h,N, <-uZ];exact rM _ H
        have r:=run_append_room (P:=P) w t ty e i k f x n s A O a m c news h y E H Q;rw[r]at b;cases b;exact⟨.inl rfl,by simp<;>omega⟩
      . have Y:∀j u,xs[j]? =some u->w.cell? ((⟨x,0,none⟩:Addr).add j)=some u:=d.cells (g:=x) rfl;have r:=run_append_grow (P:=P) w t ty e i z k f D ⟨x,0,none⟩ n s xs d.1 Y a m c news h y (by omega) (by omega) (growslice_fits (by omega) B);rw[r]at b;cases b;exact⟨.inr rfl,by simp[World.drawn_alloc,World.drawn_drew]<;>omega⟩
def UQ (h:C3 za w0 st E w Z B) {t:Ty} {c:C} {l:List t.den} {v:Value} (n:RC w Z B c v) (b:Uw st t c=some l):
 ∃ao f D,v= .slice ao l.length f/\l.length<=f/\(ao=none->f=0)/\(∀a,ao=some a->J2 w a D)/\G2 (C7 t w Z) D l:=by
 unfold Uw at b;split at b
 . rename_i d u;split at b
   . rename_i z;subst z;cases b;obtain⟨a,f,G,T,_,g,j⟩:=n;simp only[sM,vR]at G;rcases j with j| ⟨aa,ai,D,i,O,a1,y⟩
     . subst j;exact⟨a,f,[],G,T,g,fun _ _ a4 a6 J=>by simp at J,rfl⟩
     . subst i;exact⟨_,f,D,G,T,g,fun a i=>by cases i;exact a1,y⟩
   . cases b
 . rename_i F;split at b
   . rename_i d W u M;split at b
     . rename_i z;subst z;cases b;have x:=h.locs F;rw[M]at x;obtain⟨A,r,y,_⟩:=x;have n:v=B F:=n;rcases r.2 with⟨s,g⟩ | ⟨H,f,ab,s,_,_,a3,_⟩
       . have:u= []:=qO g;subst this;exact⟨none,0,[],by rw[n,s];rfl,qT _,fun _=>rfl,fun a i=>(by cases i),rfl⟩
       . exact⟨some ⟨H,0,none⟩,f,A,by rw[n,s],a3,fun j=>(by cases j),fun a i=>by cases i;exact Hm r s,y⟩
     . cases b
   . cases b
 . rename_i F sz k o;split at b
   . rename_i d W u M;split at b
     . rename_i z;subst z;cases N:Nat.beq sz d.size with
       |false=>simp only[N,rJ]at b;cases b
       |true=>
        simp only[N,qW]at b;cases b;have:=qD N;subst this;have x:=h.locs F;rw[M]at x;obtain⟨A,r,y,_⟩:=x;obtain⟨a,a5,f,P,X,Y,ac,ad,ae,af,ag,s⟩:=n;have g:a5=u.length:=by
         rcases r.2 with⟨j,U⟩ | ⟨_,_,_,j,_⟩<;>rw[P]at j<;>cases j
         . exact U.symm
         . rfl
        subst g;have R:((u.take o.toNat).drop k.toNat).length=o.toNat-k.toNat:=by simp;omega
        refine⟨_,_,(A.take (o.toNat*d.size)).drop (k.toNat*d.size),by rw[s,R],by rw[R];omega,fun O=> ?_,fun a9 I=> ?_,G2.drop (fun _ _ h=>C7.length h) k.toNat (G2.take (fun _ _ h=>C7.length h) o.toNat y)⟩
        . split at O
          . omega
          . have:=Y (by simpa using O);omega
        . by_cases a2:f=k.toNat
          . intro a4 a6 J;have Q:=OL J;rw[sQ,qU]at Q;have ah:A.length=u.length*d.size:=r.1;have a0:k.toNat=o.toNat:=by omega
            rw[a0]at Q;omega
          . rw[qH a2]at I;cases a with
            |none=>cases I
            |some a8=>
             obtain⟨H,rfl⟩:=X a8 rfl;cases I;show J2 w ((⟨H,0,none⟩:Addr).add (k.toNat*d.size)) _;rw[K6,sB];have U:=S7 (Hm r P) 0 (o.toNat*d.size);rw[tZ,sU]at U;have V:=S7 U (k.toNat*d.size) ((A.take (o.toNat*d.size)).drop (k.toNat*d.size)).length;rw[uS,sB]at V;exact V
     . cases b
   . cases b
 . rename_i a7;cases g:Te a7 with
   |false=>simp[g]at b
   |true=>
    simp[g]at b;subst b;exact⟨none,0,[],by rw[n.1,Fs g];rfl,qT _,fun _=>rfl,fun a i=>(by cases i),rfl⟩
 . cases b
def Fq {P:Program} {T:TypeId} {ti:TI} {t:Ty} (h:Um P T ti=true) (j:ti.ty= .sl t):∃i z,P.underlying T=some (.slice ti.elem)/\P.info? ti.elem=some i/\i.zero=some z/\i.size=t.size/\z.cells.toList=Dc t/\z.cells.size=t.size/\i.bytes=ti.bytes/\Gi P T ti.elem t.size=true:=by
 obtain⟨b,g,i,c,k⟩:=BP h j;obtain⟨n,a⟩:=Ir b;obtain⟨z,d,f⟩:=Fe g;unfold Ee at d;unfold Rq at a;simp only[c,wB]at d;simp only[c,g1c]at a;have l:(Dc t).length=t.size:=by
  clear f a b g j
  induction t with
  |pair o r g j=>simp[Dc,Ty.size,g,j]
  | _=>rfl
 exact⟨i,z,n,c,d,a,f,by rw[<-sO,f,l],k,b⟩
def Iq {ty t:Ty} (h:slT ty=some t):ty= .sl t:=by
 unfold slT at h;split at h
 . cases h;rfl
 . cases h
variable {all:List Oper} {ty:TypeId} {pos:String} {aft:Array Edge} {g:Option (Nat×Bool)} {k:St->Prop}
def F2 (E:H6):P5 E []:=fun _ _ h=>by cases h
def G2.of_index {α:Type} {R:List Value->α->Prop} {s:Nat} :∀ {l:List α} {cs:List Value},cs.length=l.length*s->(∀(i:Nat) (x:α),l[i]? =some x->R ((cs.drop (i*s)).take s) x)->G2 R cs l
 | [],cs,a,_=>qO (by simpa using a)
 |x::l,cs,a,h=>by
  have b:cs.length=s+l.length*s:=by rw[a,rF,uO,vY]
  refine⟨cs.take s,cs.drop s,(uN s cs).symm, ?_,G2.of_index (s:=s) (by rw[sQ];omega) (fun i y a=> ?_)⟩
  . have:=h 0 x rfl;simpa using this
  . have:=h (i+1) y (by simpa using a);rw[uO,vY, <-vV]at this;exact this
def MS {t:Ty} {z:Array Value} (g:z.toList=Dc t) (u:Qe t=true) (f:z.size=t.size) (c l:Nat) (d:l<=c):G2 (C7 t w Z) ((madeCells z (c*t.size)).toList.take (l*t.size)) (List.replicate l t.dflt):=by
 have r:((madeCells z (c*t.size)).toList.take (l*t.size)).length=l*t.size:=by
  rw[qU,sO,size_madeCells];exact tD (rM _ d)
 refine G2.of_index (s:=t.size) (by rw[r,rK]) (fun i x b=> ?_);have o:i<l:=by have:=OL b;simpa using this
 have v:x=t.dflt:=by
  have:=sX b;exact(zM.1 this).2
 subst v;have n:(((madeCells z (c*t.size)).toList.take (l*t.size)).drop (i*t.size)).take t.size=Dc t:=by
  have B:(Dc t).length=t.size:=by rw[<-g,sO,f]
  have y:i*t.size+t.size<=l*t.size:=by rw[<-uO];exact rM _ o
  have A:l*t.size<=c*t.size:=rM _ d;apply xL;intro j;by_cases a:j<t.size
  . rw[wN,qJ a,wM,wN,qJ (by omega)];have h:(i*t.size+j)%z.size=j:=by rw[f,sL,g2m,tV a]
    have k:(madeCells z (c*t.size)).toList[i*t.size+j]? =some (z[(i*t.size+j)%z.size]!):=by
     simp only[madeCells,wL,Array.getElem?_map];rw[Array.getElem?_range,qJ (by omega)];rfl
    rw[k,h, <-g,wL];rw[vC (by omega),g0s z j (by omega)]
  . rw[wN,qH a,rT (by omega)]
 rw[n];exact LJ u
def mQ (h:C3 za w0 st E w Z B) (Q:G6 cx.P cx.tys=true) {T:TypeId} {x:Operand} (b:cM cx st d T x=some st'):∃v B',(∀w',Q7 w w'->Gw.E7 cx.P E ty (.load T x) w' v w')/\C3 za w0 st' (upd E d v) w Z B':=by
 unfold cM at b;simp only[qI,bind_some]at b;obtain⟨ti,O,a1,⟨a0,I,J⟩,b⟩:=b;split at b
 . rename_i q sz i Y;split at b
   . rename_i a8 e a3 W al s;cases f:Nat.beq sz 1&&Nat.beq Y 0&& !ti.agg with
     |false=>simp only[f,rJ]at b;cases b
     |true=>
      simp only[f,qW]at b;cases b;simp only[qC,rQ]at f;have N:=qD f.1.1;have H:=qD f.1.2;subst N H;have M:Gh cx.P T=true:=by
       rcases(L6 (C1 Q O)).2.1 with⟨j,_⟩ | ⟨_,j,_⟩
       . rw[f.2]at j;cases j
       . exact j
      obtain⟨g,X,a2,l,D,k⟩:=(h.c1 (F2 E) (bind_some.2 ⟨a0,I,J⟩)).1;have o:=h.locs q;rw[s]at o;obtain⟨t,c,⟨a4,u,a5⟩,a6,a7⟩:=o;have G:X=W.length:=by
       rw[l]at c;rcases c.2 with⟨j,_⟩ | ⟨_,_,_,j,_⟩<;>cases j
       rfl
      subst G;have V:i<t.length:=by have:=c.1;omega
      have n:=qP V;have r:=Hm c l i _ n;rw[K6,sB]at r;have F:=qP D;obtain⟨a9,y,_⟩:=u i _ _ rfl F n;have R:(t[i]).oneCell'=true:=by rcases y.2 with⟨k,_⟩ | ⟨_,_,_,k,_⟩<;>rw[k]<;>rfl
      obtain⟨B',z⟩:=h.alias d s c n R;refine⟨_,B',fun w' U=>iY k M ?_,z⟩;have A:g<w.heap.size:=by rw[l]at c;exact(World.ownsRow.lt c g rfl).2
      have e:=World.cell?_of_block (a:=⟨g,i,none⟩) (U.block g A);rw[show i*1+0=i from by omega,e];exact r
   . cases b
 . cases b
def A7b {P:Program} {w:World} {f sT ty elem:TypeId} {size g a dCap c:Nat} {d:Value} {cur:Array Value} {t:TypeId} {cs:List Value} (s:P.underlying f=some (.slice elem)) (h:(P.info? elem).map (·.size)=some size)
 (n:w.heap[g]? =some (.cells cur t (0,0))) (r:(Builtin.lenOf d).run P w= .ok c w) (k:(Builtin.firstCells size (Nat.min c a) d).run P w= .ok cs.toArray w) (l:cs.length<=cur.size) (j:∀v∈cs,v.oneCell'=true):
 (Builtin.copy_ #[f,sT] ty #[.slice (some ⟨g,0,none⟩) a dCap,d]).run P w= .ok (goInt (Nat.min c a)) (w.setRow g (cs++cur.toList.drop cs.length).toArray):=by
 have i:=run_storeCells_at P g 0 t cs 0 cur w n (by simpa using l) j;cases b:P.info? elem with
 |none=>simp[b]at h
 |some u=>
  have o:u.size=size:=by simpa[b]using h
  simp only[sB,g0z,wH]at i;simp[Builtin.copy_,run_underlying s,r,sizeOf,typeInfo,b,o,k,i]
def A7a {P:Program} {w:World} {c sT ty elem:TypeId} {size dCap k:Nat} {b:Value} (i:P.underlying c=some (.slice elem)) (d:(P.info? elem).map (·.size)=some size)
 (h:(Builtin.lenOf b).run P w= .ok k w) (f:(Builtin.firstCells size 0 b).run P w= .ok #[] w):
 (Builtin.copy_ #[c,sT] ty #[.slice none 0 dCap,b]).run P w= .ok (goInt 0) w:=by
 cases a:P.info? elem with
 |none=>simp[a]at d
 |some j=>
  have g:j.size=size:=by simpa[a]using d
  simp[Builtin.copy_,run_underlying i,h,sizeOf,typeInfo,a,g,f]
def A9c (h:C3 za w0 st E w Z B) (b5:G6 cx.P cx.tys=true) {T sT:TypeId} {x y:Operand} (f:kS cx st d T x y=some st'):∃v w' B',Gw.E7 cx.P E ty (.call ⟨.builtin .copy, #[x,y], #[T,sT]⟩) w v w'/\C3 za w0 st' (upd E d v) w' Z B':=by
 simp only[kS,qI,bind_some]at f;obtain⟨ti,b3,bn,U,D,⟨b9,ah,ai⟩,z,⟨ba,ak,am⟩,a,b8,f⟩:=f;have U:=Iq U;obtain⟨bm,af,aa,av,ad,b2,bk,bl,bg,bj⟩:=Fq (C1 b5 b3) U;obtain⟨b6,_⟩:=h.c1 (F2 E) (bind_some.2 ⟨b9,ah,ai⟩);obtain⟨b7,_⟩:=h.c1 (F2 E) (bind_some.2 ⟨ba,ak,am⟩);obtain⟨ag,bb,c,ab,bh,ax,an,O⟩:=UQ h b7 b8;cases D with
 |row k=>
  simp only at f;split at f
  . rename_i b e l t;split at f
    . rename_i aq;subst aq;cases a1:FY (.row k) z with
      |false=>simp only[a1,rJ]at f;cases f
      |true=>
       simp only[a1,qW]at f;cases f;have X:=h.locs k;rw[t]at X;obtain⟨ae,Q,a2,I⟩:=X;have W:Gw.ev E x=B k:=b6;have a6:(Builtin.lenOf (Gw.ev E y)).run cx.P w= .ok a.length w:=by rw[ab];rfl
       have a5:(cx.P.info? ti.elem).map (·.size)=some b.size:=by rw[av,wI,b2]
       have bi:Nat.min a.length l.length=min a.length l.length:=rfl;have N:c.length=a.length*b.size:=O.length (fun i x=>C7.length);have a3:(Builtin.firstCells b.size (Nat.min a.length l.length) (Gw.ev E y)).run cx.P w= .ok (c.take (min a.length l.length*b.size)).toArray w:=by
        rw[ab];cases ag with
        |none=>
         have:a= []:=qO (by have:=ax rfl;omega);subst this;simp[Builtin.firstCells]
        |some D=>
         have F:(c.take (min a.length l.length*b.size)).length=min a.length l.length*b.size:=by
          rw[qU,N];exact tD (rM _ (g2k ..))
         have:=run_loadCells_list (P:=cx.P) w D (c.take (min a.length l.length*b.size)) (fun j v hj=>an D rfl j v (by
          have J:=OL hj;rw[rY (by omega)]at hj;exact hj))
         rw[F]at this;exact this
       have b0:∀u∈c.take (min a.length l.length*b.size),u.oneCell'=true:=fun u hu'=>O.oneCell u (sC hu')
       have ac:∀m:Nat,m<=l.length->RC w Z B (.val (.int .i64) (m:Int)) (.int .i64 (m:Int)):=fun m hm=>by
        have:l.length<=maxLen:=by
         rcases Q.2 with⟨_,V⟩ | ⟨_,_,_,_,_,_,J,aj,_⟩
         . omega
         . omega
        refine⟨rfl, ?_⟩;unfold MO;simp only[maxLen]at this;constructor
        . change(-9223372036854775808:Int)<= _;omega
        . change _ <=(9223372036854775807:Int);omega
       have a7:(min (a.length:Int) (l.length:Int))=((min a.length l.length:Nat):Int):=by omega
       rcases Q.2 with⟨s,V⟩ | ⟨g,G,n,s,au,a4,ay,ao,ap,b4⟩
       . have aw:l= []:=qO V;subst aw;have R:=A7a (sT:=sT) (ty:=ty) (dCap:=0) aa a5 a6 (by simpa using a3);refine⟨goInt 0,w,B,fun _ _ _ _=>by simp[execOp,resolve,invoke,builtin,W,s,R], ?_⟩;have H:C3 za w0 (st.setL k (.row b e (Kk [] a))) E w Z B:=by
          have J:Kk ([]:List b.den) a= []:=by simp[Kk]
          rw[J];exact h.relc (by rw[t];trivial) ⟨ae,Q,a2,I⟩ trivial (fun z aj=> .inl aj)
         refine H.setS d ?_ (fun i A=>by simp at A;subst A;trivial);rw[a7,show min a.length ([]:List b.den).length=0 from Nat.min_zero _];exact⟨_,_,rfl,ac _ (by simp),rfl⟩
       . have ar:(c.take (min a.length l.length*b.size)).length<=n.size:=by
          rw[qU,N,ap];have J:min a.length l.length*b.size<=G*b.size:=rM _ (by omega);omega
         have F:(c.take (min a.length l.length*b.size)).length=min a.length l.length*b.size:=by
          rw[qU,N];exact tD (rM _ (g2k ..))
         have R:=A7b (sT:=sT) (ty:=ty) (dCap:=G) aa a5 a4 a6 a3 ar b0;refine⟨goInt (Nat.min a.length l.length),w.setRow g (c.take (min a.length l.length*b.size)++n.toList.drop (c.take (min a.length l.length*b.size)).length).toArray,B,fun _ _ _ _=>by simp[execOp,resolve,invoke,builtin,W,s,R], ?_⟩;generalize a0:(c.take (min a.length l.length*b.size)++n.toList.drop (c.take (min a.length l.length*b.size)).length).toArray=r;have Y:TD g w (w.setRow g r):=⟨rfl,rfl,⟨rfl,qT _⟩,by simp,fun k t=>setRow_other w g k _ t⟩;have b1:root (B k)=some g:=by rw[s];rfl
         obtain⟨bf,az⟩:=I g (by rw[s];rfl);have a9:N2 Z w (w.setRow g r):=fun af ad=>Y.2.2.2.2 af (fun o=>az (o▸ad))
         have a8:G2 (C7 b (w.setRow g r) Z) (c.take (min a.length l.length*b.size)++ae.drop (min a.length l.length*b.size)) (Kk l a):=by
          have J:Kk l a=a.take (min a.length l.length)++l.drop (min a.length l.length):=by
           unfold Kk;rcases Nat.le_total a.length l.length with o|o
           . rw[tD o,qR o,qR (qT _)]
           . rw[Nat.min_eq_right o,sG o,sG (qT _)]
          rw[J];refine G2.append ?_ ?_
          . exact(O.take (fun i x=>C7.length) _).mono fun i x=>C7.mono (fun _=>id) a9
          . exact(a2.drop (fun i x=>C7.length) _).mono fun i x=>C7.mono (fun _=>id) a9
         have M:(Kk l a).length=l.length:=by
          unfold Kk;rw[rR,qU,sQ];omega
         have H:C3 za w0 (st.setL k (.row b e (Kk l a))) E (w.setRow g r) Z B:=by
          refine h.chg (by rw[t];trivial) (by rw[t];exact b1) Y ⟨_,⟨?_, .inr ⟨g,G,r, ?_,au,setRow_heap w g n _ e _ a4, ?_,ao, ?_, ?_⟩⟩,a8,fun z J=> ?_⟩ trivial (fun z J=> .inl J)
          . rw[a8.length (fun i x=>C7.length)]
          . rw[M];exact s
          . rw[M];exact ay
          . have aj:n.toList.length=n.size:=sO;have bc:r.size=(c.take (min a.length l.length*b.size)).length+(n.toList.length-(c.take (min a.length l.length*b.size)).length):=by
             rw[<-a0, <-sQ, <-rR];rfl
            omega
          . rw[M, <-a0,F, <-b4,g0w,g0a];have be:min a.length l.length*b.size<=l.length*b.size:=rM _ (by omega);rw[F,qR (by omega)]
          . exact I z J
         refine H.setS d ?_ (fun i A=>by simp at A;subst A;trivial);rw[a7];exact⟨_,_,rfl,(ac _ (by omega)),rfl⟩
    . cases f
  . cases f
 | _=>simp at f
def C2g:LC->Bool
 | .al _=>true
 | _=>false
def nS {v:Value} {e h:TypeId} {n d g f j:Nat} {xs:List Value} {cur:Array Value} {x:Value} (i:w.ownsRow 0 e 1 v n xs) (c:v= .slice (some ⟨g,0,none⟩) d f) (k:w.heap[g]? =some (.cells cur h (0,0))) (u:j<d) (o:cur[j]? =some x):xs[j]? =some x:=by
 rcases i.2 with⟨a,_⟩ | ⟨t,r,s,a,_,b,y,_,z,l⟩
 . rw[c]at a;cases a
 . rw[c]at a;cases a;rw[k]at b;cases b;rw[<-l,rY (by omega)];simpa using o
def C3.detach (h:C3 za w0 st E w Z B) {k q i:Nat} {t:Ty} {e e':TypeId} {ls:List (List t.den)} {al:List (Nat×Nat)} (n:st.L k= .rows t e e' ls al none) (a6:st.L q= .al k) (T:DW q al=some i) (af:st.nm<=k) (ai:st.nm<=q) (a1:za.b0=0):
 C3 za w0 ((st.setL k (.rows t e e' ls [] (some i))).setL q (.row t e' (ls.getD i []))) E w Z B:=by
 have Q:=h.locs k;have R:=h.refl k;rw[n]at Q R;obtain⟨I,r,⟨O,P,u⟩,v,z⟩:=Q;have W:=Kc T;have H:∀b,root (B q)=some b->I[i]? =some (B q):=fun b d=>(O (i,q) W).resolve_right fun hh=>by rw[hh.2]at d;simp[root]at d
 obtain⟨_,ae,_,_,a0,ac⟩:=iK ⟨I,r,⟨O,P,u⟩,v,z⟩ T;have a7:q<st.nx:=R (i,q) W;have ah:k≠q:=fun hh=>by rw[hh,a6]at n;cases n
 have X:∀b,B4 w (B k) (.rows t e e' ls [] (some i)) b->B4 w (B k) (.rows t e e' ls al none) b:=fun b d=>by
  rcases d with d| ⟨g,Y,J,M,N,j,x,G,A,V,_,o,d⟩
  . exact .inl d
  . exact .inr ⟨g,Y,J,M,N,j,x,G,A,V,rfl,o,d⟩
 have a9:C3 za w0 (st.setL k (.rows t e e' ls [] (some i))) E w Z B:=
  h.relc (by rw[n];trivial) ⟨I,r,⟨fun p F=>(by cases F),fun j l x _ hl o=>P j l x rfl hl o,fun a c x y b hac _ _ hxa hyc=>u a c x y b hac rfl rfl hxa hyc⟩,fun j x b _ o=>v j x b rfl o,fun b d=>z b (X b d)⟩ (fun p F=>(by cases F)) (fun b d=> .inr (by rw[n];exact X b d))
 have a8:=E5 a0;have U:∀b,root (B q)=some b->B4 w (B k) (.rows t e e' ls al none) b:=fun b d=>Px r rfl (H b d) d
 refine a9.addL (k:=q) a7 ⟨ae,a0,ac,fun b d=> ?_⟩ (fun j b V d f=> ?_) trivial (fun b _ _=>by rw[a1];exact rL _)
 . obtain⟨s,ad,_⟩:=z b (U b (a8.trans d));refine⟨.inl ?_,ad⟩;have ag:=h.nms.1;rcases s with s|s
   . exact⟨by omega,s.2⟩
   . omega
 . have d:root (B q)=some b:=d;rw[St.L_setL]at f;by_cases D:j=k
   . subst D;rw[qJ rfl]at f;rcases f with f| ⟨g,Y,J,M,N,m,x,G,A,a5,a3,aa,a2⟩
     . exact v i (B q) b rfl (H b d) d f
     . have ab:=nS r G A a5 aa;have a4:i≠m:=fun hh=>by
        subst hh;simp[De]at a3
       exact u i m (B q) x b a4 rfl rfl (H b d) ab d a2
   . rw[qH D]at f;exact h.disj k j b (Ne.symm D) (by rw[n];exact U b d) f
def C3.detO (h:C3 za w0 st E w Z B) (x:Operand) (a:za.b0=0\/∀k,(st.ev [] x).bind Vc.c1=some (C.row k)->C2g (st.L k)=false):C3 za w0 (Vc.detO st x) E w Z B:=by
 unfold Vc.detO;split
 . rename_i i d;unfold B4m;split
   . rename_i q;split
     . rename_i k c;split
       . rename_i t e j n al g;split
         . rename_i l f;cases b:Nat.ble st.nm k&&Nat.ble st.nm q with
           |false=>exact h
           |true=>
            simp only[qC]at b;rcases a with a|a
            . exact h.detach g c f (qQ b.1) (qQ b.2) a
            . have:=a q d;rw[c]at this;cases this
         . exact h
       . exact h
     . exact h
   . exact h
 . exact h
def B4n (st:St) (x:Operand) (ctx:Hy) (y:Operand):(detO st x).ev ctx y=st.ev ctx y:=by
 have d:∀(b:Bool) (c a:St),c.ev ctx y=a.ev ctx y->(bif b then c else a).ev ctx y=a.ev ctx y:=by
  intro b c a h;cases b
  . rfl
  . exact h
 unfold detO;split
 . unfold B4m;split
   . split
     . split
       . split
         . exact d _ _ _ rfl
         . rfl
       . rfl
     . rfl
   . rfl
 . rfl
def gW (k0:Nat) (st:St):Op->Bool
 | .call ⟨.builtin .append,a,_⟩=>match a.toList with
  |x:: _=>(match(st.ev [] x).bind c1 with
   |some (.row k)=>Nat.ble k0 k&& !(C2g (st.L k))
   | _=>true)
  | _=>true
 | _=>true
def B4p {av:Op} (h:C3 za w0 st E w Z B) (bo:za.b0=0\/∀op,op=av->gW za.k0 st op=true) (a0:G6 cx.P cx.tys=true) (a:A9m cx st d av=some (φ,st')) (b3:JC φ) (H:k st') (O:D9 all ⟨some d,av,ty,pos,aft,g⟩ E=true):M9 cx.P all ⟨some d,av,ty,pos,aft,g⟩ (eK za w0 w (wrB av) k) E w:=by
 unfold A9m at a;split at a
 . simp only[qI,bind_some]at a;obtain⟨s,cr,a⟩:=a;cases o:s.cs.all Ei with
   |false=>simp only[o,rJ]at a;cases a
   |true=>
    simp only[o,qW]at a;cases a;obtain⟨y,ae⟩:=h.ev (F2 E) cr;obtain⟨B',am⟩:=h.newBox d (T:= _) (RS.cells h y o) ae;exact Q6 (C4i rfl) O ⟨fun _=>Q7.alloc w _,_,_,_,am,H⟩
 . simp only[qI,bind_some]at a;obtain⟨ti,N,a⟩:=a;cases a;obtain⟨J,z,ad⟩:=Fe (L6 (C1 a0 N)).2.2;have am:=Bt (w:=w) (Z:=Z) (B:=B) (n:=st.nx) (Dc ti.ty);obtain⟨B',W⟩:=h.newBox d (T:= _) (vs:=J.cells) (by rw[ad];exact am.1) am.2;exact Q6 (A4q z) O ⟨fun _=>Q7.alloc w _,_,_,_,W,H⟩
 . rename_i T len bv;simp only[qI,bind_some]at a;obtain⟨ti,N,t,U,de,cn,xs,cy,a⟩:=a;have U:=Iq U;cases o:Nat.beq xs.length len&&Nat.ble (len*t.size) 16777216&&Nat.ble 1 t.size with
   |false=>simp only[o,rJ]at a;cases a
   |true=>
    simp only[o,qW]at a;cases a;simp only[qC]at o;obtain⟨bb,J,I,b1,z,b9,ad,b7,f,b4⟩:=Fq (C1 a0 N) U;obtain⟨Z1,y⟩:=h.settleP bv.toList;obtain⟨ae,am⟩:=Kl y (F2 E) cn;obtain⟨ab,ag,an,G⟩:=Tv ae cy;have ay:=qD o.1.1;have b6:Ee cx.P ti.elem=some J:=by simp[Ee,b1,z]
    obtain⟨j,a1,a5⟩:=Pg (w:=w) (ty:=ty) (len:=len) _ b4 b6 (qQ o.1.2) (qQ o.2) b7 ab ag (by rw[sS, <-an,ay]);have r:Q7 w (w.alloc (.cells j ti.elem)):=Q7.alloc w _;have W:=y.more (Z':=Z1) r (fun _=>id) (fun _=> .inl);have ac:N2 Z1 w (w.alloc (.cells j ti.elem)):=fun i f=>r.block i (y.zlt i f)
    have A:j.toList.length=len*t.size:=by rw[a1,G2.length (fun _ _ h=>C7.length h) G,ay]
    have b2:(w.alloc (.cells j ti.elem)).ownsRow w0.heap.size ti.elem t.size (.slice (some ⟨w.heap.size,0,none⟩) len len) xs.length j.toList:=by
     rw[ay];refine⟨A, .inr ⟨w.heap.size,len,j,rfl,h.ext.size,Eu w _ _,qT _, ?_,by simpa using A,by rw[<-A,uS]⟩⟩;have M:=qQ o.1.2;have ax:=qQ o.2;have:len*1<=len*t.size:=rW _ ax;simp only[maxLen];omega
    obtain⟨B',M⟩:=W.newRow d (t:=t) (e:=ti.elem) (l:=xs) b2 (by rw[a1];exact G.mono fun _ _=>C7.mono (fun _=>id) ac) (fun i f=>by
     simp only[Value.ownBlock,rB]at f;refine⟨fun z=> ?_,fun q b=> ?_⟩
     . have:=y.zlt i z;omega
     . have:=((y.locs q).root (y.ft r b)).2.1;omega) (fun i _ f=>by simp only[Value.ownBlock,rB]at f;have:=h.mrk.1;omega)
    have:=Q6 (pos:=pos) (aft:=aft) a5 (by simpa using O) (show eK za w0 w (wrB (.buildSlice T len bv)) k _ _ from⟨fun _=>r,_,_,_,M,H⟩);simpa using this
 . rename_i T bu bh;simp only[qI,bind_some]at a;obtain⟨ti,N,t,U,l,u,c,D,a⟩:=a;have U:=Iq U;cases bs:ti.rows with
   |true=>
    simp only[bs,qW,qL]at a;obtain⟨d5,A,a⟩:=a;cases a;unfold VM at A;split at A
    case h_2=>cases A
    rename_i G b1;rw[U]at b1;cases b1;simp only[qL]at A;obtain⟨bq,_,A⟩:=A;subst A;obtain⟨b6,b7,b9,bb⟩:=b3;obtain⟨an,J,I,bc,z,ag,ad,b2,f,bw⟩:=Fq (C1 a0 N) U;obtain⟨bm,aj,_⟩:=h.int (F2 E) u;obtain⟨bp,b4,_⟩:=h.int (F2 E) D;have a4:=run_make (P:=cx.P) w T ti.elem an J I bc z bm bp l c b6 b7 (by rw[f];exact b9) bb;have a5:Gw.E7 cx.P E ty (.makeSlice T bu bh) w (.slice (some ⟨w.heap.size,0,none⟩) l.toNat c.toNat) (w.alloc (.cells (madeCells J.cells (c.toNat*an.size)) ti.elem)):=fun _ _ _ _=>by simp[execOp,aj,b4,a4]
    generalize a1:madeCells J.cells (c.toNat*an.size)=j at a5;have bj:(Ty.sl G).size=1:=rfl;rw[bj]at ag b2;have ax:j.size=c.toNat*1:=by rw[<-a1, <-ag];simp[madeCells]
    have r:Q7 w (w.alloc (.cells j ti.elem)):=Q7.alloc w _;have W:=h.more (Z':=Z) r (fun _=>id) (fun _=> .inl);have ab:l.toNat<=c.toNat:=by omega
    have bt:G2 (C7 (.sl G) (w.alloc (.cells j ti.elem)) Z) (j.toList.take (l.toNat*1)) (List.replicate l.toNat (Ty.sl G).dflt):=by
     rw[<-a1,ag];exact MS ad rfl b2 _ _ ab
    have bi:(w.alloc (.cells j ti.elem)).ownsRow w0.heap.size ti.elem 1 (.slice (some ⟨w.heap.size,0,none⟩) l.toNat c.toNat) l.toNat (j.toList.take (l.toNat*1)):=by
     refine⟨?_, .inr ⟨w.heap.size,c.toNat,j,rfl,h.ext.size,Eu w _ _,ab, ?_,ax,rfl⟩⟩
     . rw[qU,sO,ax];exact tD (rM _ ab)
     . simp only[maxLen];omega
    have be:∀x∈j.toList.take (l.toNat*1),x= .slice none 0 0:=fun x r=>by
     have r:=sC r;rw[<-a1]at r;simp only[madeCells,g1n,sW]at r;obtain⟨bx,_,rfl⟩:=r;have bk:J.cells.toList= [.slice none 0 0]:=ad;have bl:J.cells= #[.slice none 0 0]:=by rw[<-tX (xs:=J.cells),bk]
     rw[bl];simp[g4t]
    obtain⟨B',M⟩:=W.newRows d G bq.elem bi be (fun i f=>by
     simp only[Value.ownBlock,rB]at f;refine⟨fun z=> ?_,fun q b=> ?_⟩
     . have:=h.zlt i z;omega
     . have:=((h.locs q).root (h.ft r b)).2.1;omega) (fun i _ f=>by simp only[Value.ownBlock,rB]at f;have:=h.mrk.1;omega)
    exact Q6 a5 O ⟨fun _=>r,_,_,_,M,H⟩
   |false=>
   simp only[bs,rJ]at a;cases o:Qe t with
   |false=>simp only[o,rJ]at a;cases a
   |true=>
    simp only[o,qW]at a;cases a;obtain⟨ax,b1,b2,b4⟩:=b3;obtain⟨G,J,I,b7,z,ag,ad,bb,f,bi⟩:=Fq (C1 a0 N) U;obtain⟨bc,aj,_⟩:=h.int (F2 E) u;obtain⟨be,an,_⟩:=h.int (F2 E) D;have a4:=run_make (P:=cx.P) w T ti.elem G J I b7 z bc be l c ax b1 (by rw[f];exact b2) b4;have a5:Gw.E7 cx.P E ty (.makeSlice T bu bh) w (.slice (some ⟨w.heap.size,0,none⟩) l.toNat c.toNat) (w.alloc (.cells (madeCells J.cells (c.toNat*G.size)) ti.elem)):=fun _ _ _ _=>by simp[execOp,aj,an,a4]
    generalize a1:madeCells J.cells (c.toNat*G.size)=j at a5;have ab:j.size=c.toNat*t.size:=by rw[<-a1, <-ag];simp[madeCells]
    have r:Q7 w (w.alloc (.cells j ti.elem)):=Q7.alloc w _;have W:=h.more (Z':=Z) r (fun _=>id) (fun _=> .inl);have A:l.toNat<=c.toNat:=by omega
    have b6:G2 (C7 t (w.alloc (.cells j ti.elem)) Z) (j.toList.take (l.toNat*t.size)) (List.replicate l.toNat t.dflt):=by
     rw[<-a1,ag];exact MS ad o bb _ _ A
    have b9:(w.alloc (.cells j ti.elem)).ownsRow w0.heap.size ti.elem t.size (.slice (some ⟨w.heap.size,0,none⟩) l.toNat c.toNat) (List.replicate l.toNat t.dflt).length (j.toList.take (l.toNat*t.size)):=by
     rw[rK];refine⟨?_, .inr ⟨w.heap.size,c.toNat,j,rfl,h.ext.size,Eu w _ _,A, ?_,ab,rfl⟩⟩
     . rw[qU,sO,ab];exact tD (rM _ A)
     . simp only[maxLen];omega
    obtain⟨B',M⟩:=W.newRow d b9 b6 (fun i f=>by
     simp only[Value.ownBlock,rB]at f;refine⟨fun z=> ?_,fun q b=> ?_⟩
     . have:=h.zlt i z;omega
     . have:=((h.locs q).root (h.ft r b)).2.1;omega) (fun i _ f=>by simp only[Value.ownBlock,rB]at f;have:=h.mrk.1;omega)
    exact Q6 a5 O ⟨fun _=>r,_,_,_,M,H⟩
 . rename_i ak aw;split at a
   . rename_i x ai T T' af ar;cases Y:Nat.beq T T' with
     |false=>simp[Y]at a
     |true=>
      simp only[Y,qW]at a;have c7:=qD Y;subst c7;have A:=h.detO x (bo.imp id fun F k H=>by
       have:=F _ rfl;simp only[gW,af,H,qC,rQ]at this;exact this.2)
      have bl:=B4n st x;have cl:za.b0=0\/∀j,(st.ev [] x).bind Vc.c1=some (C.row j)->za.k0<=j:=bo.imp id fun F j G=>by
       have:=F _ rfl;simp only[gW,af,G,qC,rQ]at this;exact qQ this.1
      generalize Vc.detO st x=ah at a A bl;simp only[B8i,qI,bind_some]at a;obtain⟨ti,N,t,U,a1,⟨bw,be,bk⟩,i,⟨d4,cp,c9⟩,l,u,bx,d0,a⟩:=a;have U:=Iq U;cases o:FY a1 i&&Nat.ble 1 t.size with
      |false=>simp only[o,rJ]at a;cases a
      |true=>
       simp only[o,qW]at a;cases a;simp only[qC]at o;obtain⟨c5,c6⟩:=b3;obtain⟨db,J,I,ce,z,cs,ad,d1,f,da⟩:=Fq (C1 a0 N) U;have ax:=A.c1 (F2 E) (bind_some.2 ⟨bw,be,bk⟩);have c8:=A.c1 (F2 E) (bind_some.2 ⟨d4,cp,c9⟩);obtain⟨ao,bz,c3,cv,d9,cj,ca,b7⟩:=UQ A c8.1 d0;have cd:=G2.length (R:=C7 t w Z) (s:=t.size) (fun _ _ h=>C7.length h) b7;have an:za.b0=0\/∀j,a1= .row j->za.k0<=j:=cl.imp id fun F j G=>F j (by
        rw[bl]at be;exact bind_some.2 ⟨bw,be,by rw[bk,G]⟩)
       have co:∃xs,w.ownsRow w0.heap.size ti.elem t.size (Gw.ev E x) l.length xs/\G2 (C7 t w Z) xs l/\(∀q,(Gw.ev E x).ownBlock=some q->¬Z q/\w0.heap.size<=q/\∀j,¬B4 w (B j) ((dropR ah a1).L j) q)/\C3 za w0 (dropR ah a1) E w Z B/\(∀q,(Gw.ev E x).ownBlock=some q->za.b0<=q):=by
        unfold NN at u;split at u
        . rename_i j;split at u
          . rename_i df c0 dd G;split at u
            . rename_i b8;subst b8;cases X:Nat.beq c0 ti.elem&&Nat.ble ah.nm j with
              |false=>simp only[X,rJ]at u;cases u
              |true=>
               simp only[X,qW]at u;cases u;simp only[qC]at X;have d8:=qQ X.2;have cc:=qD X.1;subst cc;have bi:=A.locs j;rw[G]at bi;obtain⟨xs,ab,b6,bp⟩:=bi;have cu:∀q,(B j).ownBlock=some q->w0.heap.size<=q:=fun q b=>by
                rcases(bp q b).1 with g|g
                . exact g.2
                . have:=A.nms.1;omega
               replace ab:=iD ab cu;have ck:=fun q b=>(bp q b).2
               have b1:Gw.ev E x=B j:=ax.1;have bq:=E5 ab;rw[<-b1]at ab;refine⟨xs,ab,b6,fun q b=> ?_,A.drop j,fun q b=> ?_⟩
               case refine_2=>
                rw[b1]at b;rcases an with an|an
                . rw[an];exact rL _
                . exact A.mrk.2 j q (an j rfl) (by rw[G];exact bq.trans b)
               rw[b1]at b;refine⟨ck q b,(World.ownsRow.lt ab q (by rw[b1];exact b)).1,fun bt ag=> ?_⟩;simp only[dropR,St.L_setL]at ag;by_cases bb:bt=j
               . rw[qJ bb]at ag;exact ag.elim
               . rw[qH bb]at ag;exact A.disj bt j q bb ag (by rw[G];exact bq.trans b)
            . cases u
          . cases u
        . rename_i d7;cases Q:Te d7 with
          |false=>simp[Q]at u
          |true=>
           simp[Q]at u;subst u;have ag:Gw.ev E x= .slice none 0 0:=by rw[ax.1.1];exact Fs Q
           refine⟨[],by rw[ag];exact World.ownsRow_nil _ _ _ _,rfl,fun q b=> ?_,A,fun q b=> ?_⟩<;>(rw[ag]at b;cases b)
        . cases u
       obtain⟨xs,ab,b6,b2,bc,cw⟩:=co;obtain⟨d6,b4,a4,cm,b9,bj,cb⟩:=FE (P:=cx.P) (ty:=ty) I ce z cs d1 (qQ o.2) ab (ao:=ao) (m:=bx.length) (c:=bz) (news:=c3) cd (fun a1 ax=>ca a1 ax) (fun Q=>by have:=cj Q;omega) (G2.oneCell b7) c6 (by rw[f];exact c5) A.ext.size;have ac:∀q,(Z q\/∃j,B4 w (B j) ((dropR ah a1).L j) q)->b4.heap[q]? =w.heap[q]?:=fun q b=>by
        refine b9.block q ?_ (fun F=> ?_)
        . rcases b with b| ⟨j,G⟩
          . exact A.zlt q b
          . exact((bc.locs j).root G).2.1
        . have:=b2 q F.symm;rcases b with b| ⟨j,G⟩
          . exact this.1 b
          . exact this.2.2 j G
       have W:=bc.keep (Z':=Z) (A.ext.grown b9 cb (fun q b=> .inl (b2 q b).2.1)) b9.size ac (fun _=>id) (fun _=> .inl);have ct:N2 Z w b4:=fun q b=>ac q (.inl b)
       have bm:∀j q,B4 b4 (B j) ((dropR ah a1).L j) q->B4 w (B j) ((dropR ah a1).L j) q:=fun j q hf=>(B4.iff fun c D=>ac c (.inr ⟨j,D⟩)).1 hf
       obtain⟨B',M⟩:=W.newRow d (l:=l++bx) (by rw[rR];exact cm) ((b6.append b7).mono fun _ _=>C7.mono (fun _=>id) ct) (fun q b=>by
        rcases bj with ag|ag
        . rw[ag]at b;exact⟨(b2 q b).1,fun j G=>(b2 q b).2.2 j (bm j q G)⟩
        . rw[ag]at b;cases b;exact⟨fun z=>absurd (A.zlt _ z) (tR _),fun j G=>absurd ((bc.locs j).root (bm j _ G)).2.1 (tR _)⟩) (fun q b1 b=>by
        rcases bj with ag|ag
        . rw[ag]at b;exact cw q b
        . rw[ag]at b;cases b;exact A.mrk.1)
       have b5:ak= #[x,ai]:=by rw[<-af]
       have bf:aw= #[T,T]:=by rw[<-ar]
       subst b5 bf;refine Q6 (v:=d6) (w':=b4) (fun _ _ _ _=> ?_) O ⟨fun F=>(by cases F),_,_,_,M,H⟩;simp[execOp,resolve,invoke,builtin,cv,a4]
   . cases a
 . rename_i T d3;simp only[qI,bind_some]at a;obtain⟨ti,N,a⟩:=a;split at a
   . rename_i a6 a7 a8 a9 Y;cases a;obtain⟨B',M⟩:=h.newMap d a6 a7 a8 a9;exact Q6 A7x O ⟨fun _=>Q7.alloc w _,_,_,_,M,H⟩
   . rename_i a6 a7 a8 a9 au Y;simp only[qL]at a;obtain⟨n,Q,a⟩:=a;cases a;obtain⟨I,_⟩:=Un (C1 a0 N) Y;obtain⟨dc,aj,_⟩:=h.int (F2 E) Q;obtain⟨B',M⟩:=h.newMap d a6 a7 a8 a9;refine Q6 (v:= .map (some w.heap.size)) (w':=w.alloc (.map #[] 0)) (fun _ _ _ _=> ?_) O ⟨fun _=>Q7.alloc w _,_,_,_,M,H⟩;simp[execOp,Instr.makeMap,aj,run_underlying I,asInt,go_sem]
   . cases a
 . rename_i ak aw;split at a
   . rename_i x T af ar;simp only[qI,bind_some]at a;obtain⟨ti,N,a⟩:=a;split at a
     . rename_i a6 a7 a8 a9 Y;simp only[bind_some]at a;obtain⟨c,⟨s,ap,aq⟩,aa,a3,a⟩:=a;cases a;have ay:(aa.length:Int)<=9223372036854775807:=by have:aa.length<=9223372036854775807:=b3;omega
       have b5:ak= #[x]:=by rw[<-af]
       have bf:aw= #[T]:=by rw[<-ar]
       subst b5 bf;obtain⟨I,_⟩:=Un (C1 a0 N) Y;have y:=h.c1 (F2 E) (bind_some.2 ⟨s,ap,aq⟩);have cf:MO .i64 (aa.length:Int):=by
        unfold MO;have aj:i64.min= -9223372036854775808:=by decide
        have j:i64.max=9223372036854775807:=by decide
        omega
       have cz:Gw.E7 cx.P E ty (.call ⟨.builtin .len, #[x], #[T]⟩) w (.int .i64 (aa.length:Int)) w:=by
        intro _ _ _ _;rcases A3s h y.1 a3 with⟨e,Q⟩ | ⟨i,a2,V,e,ch,f,X⟩
        . simp[execOp,resolve,invoke,builtin,Builtin.len_,e,run_underlying I,goInt,Q]
        . have bn:(getObj i).run cx.P w= .ok (.map a2 V) w:=by simp[getObj,Sem.run,f]
          have u:=S4.len X;simp[execOp,resolve,invoke,builtin,Builtin.len_,e,run_underlying I,bn,goInt]at u⊢;exact tA Int.ofNat u
       exact Q6 cz O ⟨fun _=>Q7.refl w,_,_,_,h.setS d (x:=one1 (.val (.int .i64) (aa.length:Int))) ⟨_,[],rfl,⟨rfl,cf⟩,rfl⟩ (fun c D=>by simp at D;subst D;trivial),H⟩
     . cases a
   . cases a
 . rename_i T x;simp only[qL]at a;obtain⟨d5,u,a⟩:=a;cases a;obtain⟨v,B',y,ae⟩:=mQ (ty:=ty) h a0 u;exact Q6 (y w (Q7.refl w)) O ⟨fun _=>Q7.refl w,_,_,_,ae,H⟩
 . rename_i T x;simp only[qI,bind_some]at a;obtain⟨ti,N,a⟩:=a;split at a
   . rename_i a6 a7 a8 a9 Y;simp only[bind_some]at a;obtain⟨c,⟨s,ap,aq⟩,aa,a3,a⟩:=a;cases a;obtain⟨I,_⟩:=Un (C1 a0 N) Y;obtain⟨Z1,y⟩:=h.settleO x;have D:=(y.c1 (F2 E) (bind_some.2 ⟨s,ap,aq⟩)).1;have bg:∀au,(Instr.range T (Gw.ev E x)).run cx.P w= .ok (.pointer (some ⟨w.heap.size,0,none⟩)) (w.alloc au)->ItR (w.alloc au) Z1 a6 a7 a8 a9 w.heap.size aa none->M9 cx.P all ⟨some d, .range T x,ty,pos,aft,g⟩ (eK za w0 w (wrB (.range T x)) k) E w:=fun au a4 ba=>by
      have r:Q7 w (w.alloc au):=Q7.alloc w _;have W:=y.more (Z':=Z1) r (fun _=>id) (fun _=> .inl);have ae:=W.new (v:= .pointer (some ⟨w.heap.size,0,none⟩)) (lc:= .iter a6 a7 a8 a9 aa none) ⟨w.heap.size,C2 _ _ _, .inl ⟨y.nms.2,h.ext.size⟩,fun z=>absurd (y.zlt _ z) (tR _),ba⟩
       (fun k i f j=>by
        simp only[B4,root,rB]at f;have:=((y.locs k).root (y.ft r j)).2.1;omega)
       trivial rfl (fun i _ f=>by simp only[B4,root,rB]at f;have:=h.mrk.1;omega)
      have M:=ae.setS d (x:=one1 (.box (settleO st x).nx 0)) (v:= .pointer (some ⟨w.heap.size,0,none⟩)) ⟨_,[],rfl,⟨w.heap.size,C2 _ _ _,rfl⟩,rfl⟩ (fun c D=>by simp at D;subst D;exact rN _);exact Q6 (fun _ _ _ _=>by simp[execOp,a4]) O ⟨fun _=>r,_,_,_,M,H⟩
     unfold B2u at a3;split at a3
     . split at a3
       . rename_i b8;subst b8;cases a3;rcases D with⟨e,Q⟩ | ⟨i,a2,V,e,f,F,ci,X⟩
         . simp only[sM,vR]at e;exact bg (.mapIter none 0 #[] 0) (by rw[e];exact run_range_nilMap (P:=cx.P) w T _ _ I) (.inl ⟨heap_alloc_new w _,Q,rfl⟩)
         . simp only[sM,vR]at e;have ch:=y.zlt i f;have bn:(getObj i).run cx.P w= .ok (.map a2 V) w:=by simp[getObj,Sem.run,F]
           have ac:N2 Z1 w (w.alloc (.mapIter (some i) V #[] V)):=fun q b=>(Q7.alloc w _).block q (y.zlt q b)
           refine bg (.mapIter (some i) V #[] V) (by rw[e];exact run_range_map (P:=cx.P) w T _ _ i a2 V I F) (.inr ⟨i, #[],a2,V,heap_alloc_new w _,f,(ac i f).trans F,ci, ?_,fun x r=>by cases r⟩);have cg:leftOf a2 #[]=a2:=by simp[leftOf]
           rw[cg];exact Pj.mono (fun _=>id) ac X
       . cases a3
     . cases a3;have e:Gw.ev E x= .map none:=D.1;exact bg (.mapIter none 0 #[] 0) (by rw[e];exact run_range_nilMap (P:=cx.P) w T _ _ I) (.inl ⟨heap_alloc_new w _,rfl,rfl⟩)
     . cases a3
   . cases a
 . rename_i x;simp only[qI,bind_some]at a;obtain⟨c,⟨s,ap,aq⟩,a⟩:=a;split at a
   . rename_i q d2;split at a
     . rename_i a6 a7 a8 a9 left ai b;cases o:Nat.beq d2 0 with
       |false=>simp only[o,rJ]at a;cases a
       |true=>
        simp only[o,qW]at a;cases a;have ab:=qD o;subst ab;obtain⟨i,A,an⟩:=(h.c1 (F2 E) (bind_some.2 ⟨s,ap,aq⟩)).1;have j:=h.locs q;rw[b]at j;obtain⟨d3,az,_,_,ba⟩:=j;rw[A]at az;cases az;rcases ba with⟨_,_,Q⟩ | ⟨m,seen,a2,V,ax,b7,b1,b2,b9,b4⟩
        . cases Q
        . obtain⟨e,X,⟨b6,ag⟩,G,a1⟩:=b4 ai rfl;subst ag;have a4:=run_entry_at (P:=cx.P) w i m V b6 a2 V e ax b1 X b2.2;refine Q6 (v:= .tuple #[e.key,e.val]) (w':=w) (fun _ _ _ _=>by simp[execOp,an,a4]) O ⟨fun _=>Q7.refl w,_,_,_,h.setS d (x:= .tup [⟨a6,explode a7 ai.1⟩,⟨a8,explode a9 ai.2⟩]) ⟨[e.key,e.val],rfl,_,_,rfl,Bf.explode G,_,_,rfl,Bf.explode a1,rfl⟩ (fun s a c D=> ?_),H⟩;simp only[qS,vO,g1d]at a;rcases a with rfl|rfl<;>exact E9 c D
     . cases a
   . cases a
 . rename_i ak aw;split at a
   . rename_i x ai T sT af ar;obtain⟨ah,cq,a⟩:=qL.1 a;cases a;have c2:ak= #[x,ai]:=g1m.1 af;have c4:aw= #[T,sT]:=g1m.1 ar;subst c2 c4;obtain⟨v,w',B',a5,az⟩:=A9c (ty:=ty) (sT:=sT) h a0 cq;exact Q6 a5 O ⟨fun F=>(by cases F),_,_,_,az,H⟩
   . cases a
 . cases a
end
def Ys (off n:Nat) (cs a:List C):List C:=cs.take off++a++cs.drop (off+n)
def A2p (a:St) (k r:Nat) (lc:LC):St:=(((a.setL r .none).setL k .none).setL k lc).setL r (.al k)
def hoP (i:Nat):Option Nat->Option Prop
 |none=>none
 |some j=>some (i=j)
def attach (a:St) (k r i:Nat) (t:Ty) (e e':TypeId) (ls:List (List t.den)) (c:Option Nat):Option (Option Prop×St):=match a.L r with
 | .row d b l=>if h:d=t then(bif Nat.beq b e'&&Nat.ble a.nm r&&Nat.ble a.nm k&&Nat.blt k r then some (hoP i c,A2p a k r (.rows t e e' (ls.set i (h▸l)) [(i,r)] none))else none)else none
 | _=>none
def iN (ti:TI) (a:St) (s:SV) (k sz i off:Nat):Option St:=match a.L k with
 | .row t e l=>bif s.cs.all Ei&&Nat.beq s.cs.length ti.ty.size&&Nat.beq sz t.size&&Nat.ble (off+ti.ty.size) t.size then
  (match Kx t (Ys off ti.ty.size (explode t (l.getD i t.dflt)) s.cs)with
   |some (x,[])=>some (a.setL k (.row t e (l.set i x)))
   | _=>none)else none
 | .al j=>match a.L j with
  | .rows t e d c al none=>match DW k al with
   |some b=>bif s.cs.all Ei&&Nat.beq s.cs.length ti.ty.size&&Nat.beq sz t.size&&Nat.ble (off+ti.ty.size) t.size then
    (match Kx t (Ys off ti.ty.size (explode t ((c.getD b []).getD i t.dflt)) s.cs)with
     |some (x,[])=>some (a.setL j (.rows t e d (c.set b ((c.getD b []).set i x)) al none))
     | _=>none)else none
   |none=>none
  | _=>none
 | _=>none
def XP (cx:Cx) (a:St) (T:TypeId) (p v:Operand):Option (Option Prop×St):=do
 let ti<-cx.ti T
 let c<-(a.ev [] p).bind c1
 match c with
 | .box k c=>do
  let s<-a.ev [] v
  match a.L k with
  | .box T' b=>bif s.cs.all Ei&&Nat.beq s.cs.length ti.ty.size&&Nat.ble (c+ti.ty.size) b.length then some (none,a.setL k (.box T' (Ys c ti.ty.size b s.cs)))else none
  | _=>none
 | .elp k sz i b=>match a.L k with
  | .rows t e c f _ d=>match a.ev [] v with
   |some ⟨false,[.row r]⟩=>bif Nat.beq sz 1&&Nat.beq b 0&&Nat.beq ti.ty.size 1 then attach a k r i t e c f d else none
   | _=>none
  | _=>do
   let s<-(settleO a v).ev [] v
   (iN ti (settleO a v) s k sz i b).map fun c=>(none,c)
 | _=>none
def mapM (d:St) (c:Bool) (a:Ty) (g:Bool) (b:Ty) (k:Nat):Option (List (a.den×b.den)):=match d.L k with
 | .map d f h i j=>if l:Ty.mp d f h i=Ty.mp c a g b then some (l▸(show(Ty.mp d f h i).den from j):(Ty.mp c a g b).den)else none
 | _=>none
def VN (cx:Cx) (a:St) (d:Tmp) (T:TypeId) (m x:Operand):Option St:=none
def UR (a:St) (m s y:Operand):Option St:=none
def MV (cx:Cx) (a:St) (T:TypeId) (m x y:Operand):Option St:=do
 let ti<-cx.ti T
 let c<-((settleO a y).ev [] m).bind c1
 let i<-(settleO a y).ev [] x
 let j<-(settleO a y).ev [] y
 match ti.ty,c with
 | .mp c b d f, .mp k=>do
  let g<-mapM (settleO a y) c b d f k
  let h<-Qq c b i
  let v<-Qq d f j
  some ((settleO a y).setL k (.map c b d f (Df b h v g)))
 | _,_=>none
section
variable {za:Zn} {w0 w w':World} {Z Z':Nat->Prop} {B:Nat->Value} {st st':St} {E:H6} {cx:Cx} {φ:Option Prop} {d:Tmp} {all:List Oper} {ty:TypeId} {pos:String} {aft:Array Edge} {g:Option (Nat×Bool)} {k:St->Prop}
def Co.one (h:C3 za w0 st E w Z B):∀ {cs:List C} {vs:List Value},cs.all Ei=true->Co w Z B cs vs->∀u∈vs,u.oneCell'=true
 | [],_,_,a=>by rw[show _= _ from a];exact Jz
 |c::cs,_,a,⟨v,f,e,b,d⟩=>by
  simp only[tI,qC]at a;rw[e];exact Kv (RC.one h a.1 b) (Co.one h a.2 d)
def dX {off n:Nat} {cs a:List C} {vs us:List Value} (h:Co w Z B cs vs) (b:Co w Z B a us) (c:a.length=n):Co w Z B (Ys off n cs a) (vs.take off++us++vs.drop (off+us.length)):=by
 have:us.length=n:=by rw[<-c,b.len]
 rw[this];exact((h.take off).append b).append (h.drop (off+n))
def oC {α:Type} {cur us:List α} {n a sz off m:Nat} (c:us.length=m) (b:a+sz<=n) (d:n<=cur.length) (f:off+m<=sz):
 (cur.take (a+off)++us++cur.drop (a+off+m)).take n=(cur.take n).take a++((((cur.take n).drop a).take sz).take off++us++(((cur.take n).drop a).take sz).drop (off+m))++(cur.take n).drop (a+sz):=by
 have b:(cur.take n).take a=cur.take a:=by rw[g0y,tD (by omega)]
 have d:((cur.take n).drop a).take sz=(cur.drop a).take sz:=by rw[g0w,g0y,tD (by omega)]
 have f:((cur.drop a).take sz).take off=(cur.drop a).take off:=by rw[g0y,tD (by omega)]
 have g:((cur.drop a).take sz).drop (off+m)=(cur.drop (a+off+m)).take (sz-(off+m)):=by rw[g0w,vV,uG]
 have h:(cur.take n).drop (a+sz)=(cur.drop (a+sz)).take (n-(a+sz)):=by rw[g0w]
 have i:cur.take a++(cur.drop a).take off=cur.take (a+off):=by rw[List.take_add]
 have j:(cur.drop (a+off+m)).take (sz-(off+m))++(cur.drop (a+sz)).take (n-(a+sz))=(cur.drop (a+off+m)).take (n-(a+off+m)):=by
  have:n-(a+off+m)=(sz-(off+m))+(n-(a+sz)):=by omega
  rw[this,List.take_add,vV];congr 3;omega
 rw[b,d,f,g,h];have b:(cur.take (a+off)).length=a+off:=by rw[qU];omega
 rw[g0a,qR (by rw[rR,b,c];omega),rR,b,c, <-j, <-i];simp only[uJ]
def frE (k0 k:Nat) (a b:LC):Bool:=match a with
 | .rows _ _ _ _ _ _=>Nat.ble k0 k
 | _=>match b with
  | .al j=>Nat.ble k0 j
  | _=>Nat.ble k0 k
def frO (k0:Nat) (st:St):Op->Bool
 | .store _ p v=>match(st.ev [] p).bind c1 with
  |some (.box k _)=>Nat.ble k0 k
  |some (.elp k _ _ _)=>frE k0 k (st.L k) ((settleO st v).L k)
  | _=>false
 | _=>false
def AL {B0 b:Nat} (a:TD b w w') (c:B0<=b):Below B0 w w'/\True:=⟨⟨a.1,a.2.1,a.2.2.1.1,by rw[a.2.2.2.1];exact qT _,fun k c=>a.2.2.2.2 k (by omega)⟩,trivial⟩
def H2 {α:Type} {c:Bool} {a:Option α} {x:α} (h:(bif c then a else none)=some x):c=true/\a=some x:=by
 cases c with
 |true=>exact⟨rfl,h⟩
 |false=>cases h
def B9j {k0 sz i off q:Nat} {T:TypeId} {p v:Operand} (a:frO k0 st (.store T p v)=true) (f:(st.ev [] p).bind c1=some (.elp q sz i off)) (d:(match(settleO st v).L q with| .al _=>false| _=>true)=true):k0<=q:=by
 simp only[frO,f]at a;generalize st.L q=b at*;generalize (settleO st v).L q=c at*;unfold frE at a;cases b<;>cases c<;>simp at d a<;>exact a
def B9i {k0 sz i off q j:Nat} {T:TypeId} {p v:Operand} (a:frO k0 st (.store T p v)=true) (g:(st.ev [] p).bind c1=some (.elp q sz i off)) (f:∀t e e' ls al c,st.L q= .rows t e e' ls al c->False) (d:(settleO st v).L q= .al j):k0<=j:=by
 simp only[frO,g,d]at a;cases b:st.L q with
 |rows t e e' ls al c=>exact(f _ _ _ _ _ _ b).elim
 | _=>simp[b,frE]at a;exact a
def MA {v:Value} (h:v.oneCell'=true):v.cells.toList= [v]:=by
 have:v.cells= #[v]:=by cases v<;>simp[Value.cells,Value.oneCell']at h⊢
 rw[this]
def dI {P:Program} (O:C3 za w0 st E w Z B) {T e:TypeId} {p v:Operand} {t:Ty} {l:List t.den} {xs:List Value} {b m d i off n:Nat} {s:SV} {x:t.den} (a8:Rq P T n=true) (a4:w.ownsRow 0 e t.size (.slice (some ⟨b,0,none⟩) m d) l.length xs) (u:G2 (C7 t w Z) xs l) (a3:¬Z b) (f:i<m) (aa:Gw.ev E p= .pointer (some ⟨b,i*t.size+off,none⟩))
 (o:Co w Z B s.cs (Gw.ev E v).cells.toList) (a2:s.cs.all Ei=true) (G:s.cs.length=n) (W:off+n<=t.size) (M:Kx t (Ys off n (explode t (l.getD i t.dflt)) s.cs)=some (x,[])):
 ∃w',Gw.HT P E ty (.store T p v) w w'/\TD b w w'/\∃N,w'.ownsRow 0 e t.size (.slice (some ⟨b,0,none⟩) m d) (l.set i x).length N/\G2 (C7 t w' Z) N (l.set i x):=by
 have c:(Gw.ev E v).cells.toList.length=n:=by rw[<-G,o.len]
 rcases a4.2 with⟨a,_⟩ | ⟨ab,ac,g,a,U,F,H,V,r,a9⟩
 . cases a
 . cases a;have ad:=G2.length (R:=C7 t w Z) (s:=t.size) (fun _ _ h=>C7.length h) u;have Y:=G2.get (R:=C7 t w Z) (s:=t.size) (fun _ _ h=>C7.length h) u (qP f);have X:l.getD i t.dflt=l[i]:=by rw[qE,qP f];rfl
   rw[X]at M;have a0:i*t.size+t.size<=l.length*t.size:=by rw[<-uO];exact rM _ f
   have a1:l.length*t.size<=d*t.size:=rM _ H;generalize Q:(Gw.ev E v).cells.toList=y at*;have J:=SX (P:=P) (ty:=ty) (w:=w) y aa rfl Q a8 c F (by rw[c,r];omega) (Co.one O a2 o);generalize D:(g.toList.take (i*t.size+off)++y++g.toList.drop (i*t.size+off+y.length)).toArray=j at J;have A:TD b w (w.setRow b j):=⟨rfl,rfl,⟨rfl,qT _⟩,by simp,fun k hk=>setRow_other w b k _ hk⟩;have a6:N2 Z w (w.setRow b j):=fun z hz=>A.2.2.2.2 z (fun a=>a3 (a▸hz))
   have a5:=Fy (dX (off:=off) (T5 (B:=B) Y) o G) M;have I:=G2.set (R:=C7 t w Z) (s:=t.size) (fun _ _ h=>C7.length h) u a5 f;refine⟨_,J,A,_, ?_,I.mono fun _ _=>C7.mono (fun _=>id) a6⟩;rw[qN];have a7:=G2.length (R:=C7 t w Z) (s:=t.size) (fun _ _ h=>C7.length h) I;refine⟨by rw[a7,qN], .inr ⟨b,d,j,rfl,U,setRow_heap w b g _ e _ F,H,V, ?_, ?_⟩⟩
   . rw[<-D];simp only[zV,rR,qU,sQ,sO,r,c];omega
   . rw[<-D];simp only[g0o];rw[c, <-a9];exact oC c a0 (by simpa[r]using a1) W
def C3.attach (h:C3 za w0 st E w Z B) {k r i g:Nat} {t:Ty} {e e':TypeId} {ls:List (List t.den)} {al:List (Nat×Nat)} {o:Option Nat} {l:List t.den} {xs:List Value} (u:st.L k= .rows t e e' ls al o) (T:st.L r= .row t e' l) (J:k≠r) (an:st.nm<=k) (b1:st.nm<=r) (ak:i<ls.length) (Q:∀j,o=some j->i=j)
 (aq:w.ownsRow 0 e 1 (B k) ls.length xs) (a1:root (B k)=some g) (s:TD g w w') (a6:w'.ownsRow 0 e 1 (B k) ls.length (xs.set i (B r))) (ap:za.k0<=k->∀b,root (B r)=some b->za.b0<=b):C3 za w0 (A2p st k r (.rows t e e' (ls.set i l) [(i,r)] none)) E w' Z B:=by
 have X:=h.locs k;have Y:=h.locs r;rw[u]at X;rw[T]at Y;obtain⟨b5,A,⟨ay,ag,ah⟩,W,az⟩:=X;have av:=Qn aq A;subst av;obtain⟨ax,a9,aw,b4⟩:=Y;have D:B4 w (B k) (st.L k) g:=by rw[u];exact .inl a1
 have a2:¬Z g:=((h.locs k).root D).2.2;have a8:N2 Z w w':=fun n hc'=>s.2.2.2.2 n (fun e=>a2 (e▸hc'))
 have z:∀b,root (B r)=some b->B4 w (B r) (st.L r) b:=fun b a=>by rw[T];exact a
 have au:root (B r)≠some g:=fun a=>h.disj k r g J D (z g a)
 have ao:k<st.nx:=Eh h (by rw[u];trivial);have a7:r<st.nx:=Eh h (by rw[T];trivial);have b2:xs.length=ls.length:=by have:=A.1;omega
 have P:∀b,B4 w' (B k) (.rows t e e' (ls.set i l) [(i,r)] none) b->root (B r)=some b\/B4 w (B k) (st.L k) b:=fun b a=>by
  rcases a with a| ⟨aa,b3,V,a3,a5,j,x,M,N,ac,_,d,a⟩
  . exact .inr (by rw[u];exact .inl a)
  . have H:(xs.set i (B r))[j]? =some x:=by
     rcases a6.2 with⟨f,_⟩ | ⟨ab,a0,a4,f,_,I,aj,_,am,U⟩
     . rw[M]at f;cases f
     . rw[M]at f;cases f;rw[N]at I;cases I;rw[<-U,rY (by omega)];simpa using d
    by_cases c:i=j
    . subst c;rw[sH (by omega)]at H;cases H;exact .inl a
    . rw[sV c]at H;refine .inr ?_;rw[u];have R:De o j=false:=by
       cases o with
       |none=>rfl
       |some q=>have:=Q q rfl;subst this;exact E6 c
      exact Px A R H a
 have ad:=(h.drop r).drop k;have ae:C3 za w0 ((st.setL r .none).setL k .none) E w' Z B:=by
  refine ad.keep (h.ext.chg s ((h.locs k).root D).1.m) (by rw[s.2.2.2.1];exact qT _) (fun q f=>s.2.2.2.2 q ?_) (fun _=>id) (fun _=> .inl);rintro rfl;rcases f with f| ⟨j,f⟩
  . exact a2 f
  . rw[St.L_setL]at f;split at f
    . exact f.elim
    . rename_i H;rw[St.L_setL]at f;split at f
      . exact f.elim
      . exact h.disj j k q H f D
 have ai:∀b,(root (B r)=some b\/B4 w (B k) (st.L k) b)->up za w0 k b/\¬Z b/\b<w.heap.size:=fun b a=>by
  rcases a with a|a
  . obtain⟨f,H,I⟩:=(h.locs r).root (z b a);refine⟨?_,I,H⟩;rcases f with f|f
    . exact .inl ⟨by rw[<-h.nms.1];exact an,f.2⟩
    . have:=h.nms.1;omega
  . obtain⟨f,H,I⟩:=(h.locs k).root a;exact⟨f,I,H⟩
 have ar:∀(j:Nat) (v:List t.den) (x:Value),i≠j->ls[j]? =some v->xs[j]? =some x->De o j=false/\∃O,w'.ownsRow 0 e' t.size x v.length O/\G2 (C7 t w' Z) O v:=fun j v x c y d=>by
  have f:De o j=false:=by
   cases o with
   |none=>rfl
   |some q=>have:=Q q rfl;subst this;exact E6 c
  obtain⟨O,H,M⟩:=ag j v x f y d;refine⟨f,O,Ap H (fun n I=>s.2.2.2.2 n ?_),M.mono fun _ _=>C7.mono (fun _=>id) a8⟩;rintro rfl;exact W j x n f d ((E5 H).trans I) a1
 have G:∀(j:Nat) (x:Value),i≠j->(xs.set i (B r))[j]? =some x->xs[j]? =some x/\De o j=false:=fun j x c d=>by
  rw[sV c]at d;refine⟨d, ?_⟩;cases o with
  |none=>rfl
  |some q=>have:=Q q rfl;subst this;exact E6 c
 have F:(xs.set i (B r))[i]? =some (B r):=sH (by omega);have af:C3 za w0 (((st.setL r .none).setL k .none).setL k (.rows t e e' (ls.set i l) [(i,r)] none)) E w' Z B:=by
  refine ae.addL ao ⟨_,by rw[qN];exact a6,⟨fun p H=> ?_,fun j v x _ y d=> ?_,fun j N x U b a4 _ _ d M a f=> ?_⟩,fun j x b _ d a=> ?_,fun b a=> ?_⟩ (fun j b R a f=> ?_) (fun p H=> ?_) (fun b a5 a=> ?_)
  . simp only[qX]at H;subst H;exact .inl F
  . by_cases c:i=j
    . subst c;rw[sH ak]at y;rw[F]at d;cases y;cases d;exact⟨ax,Ap a9 (fun n aj=>s.2.2.2.2 n (fun e=>au (e▸(E5 a9).trans aj))),aw.mono fun _ _=>C7.mono (fun _=>id) a8⟩
    . rw[sV c]at y;exact(ar j v x c y (G j x c d).1).2
  . by_cases c:i=j
    . subst c;rw[F]at d;cases d;have:=G N U a4 M;exact h.disj k r b J (by rw[u];exact Px A this.2 this.1 f) (z b a)
    . have I:=G j x c d;by_cases a3:i=N
      . subst a3;rw[F]at M;cases M;exact h.disj k r b J (by rw[u];exact Px A I.2 I.1 a) (z b f)
      . have V:=G N U a3 M;exact ah j N x U b a4 I.2 V.2 I.1 V.1 a f
  . by_cases c:i=j
    . subst c;rw[F]at d;cases d;exact fun f=>h.disj k r b J (by rw[u];exact .inl f) (z b a)
    . have:=G j x c d;exact W j x b this.2 this.1 a
  . obtain⟨aa,ab,ac⟩:=ai b (P b a);exact⟨aa,ab,by rw[s.2.2.2.1];exact ac⟩
  . rw[St.L_setL,qH R,St.L_setL]at f;split at f
    . exact f.elim
    . rename_i am;have a0:B4 w (B j) (st.L j) b:=(B4.iff fun n hcf=>s.2.2.2.2 n (fun e=>h.disj j k n R hcf (e▸D))).1 f;rcases P b a with a|a
      . exact h.disj j r b am a0 (z b a)
      . exact h.disj j k b R a0 a
  . simp only[qX]at H;subst H;exact a7
  . rcases P b a with a|a
    . exact ap a5 b a
    . exact h.mrk.2 k b a5 a
 exact af.addL a7 trivial (fun _ _ _ a=>a.elim) trivial (fun _ _ a=>a.elim)
def dZ (h:C3 za w0 st E w Z B) (bp:G6 cx.P cx.tys=true) {T:TypeId} {p v:Operand} (a:XP cx st T p v=some (φ,st')) (bt:JC φ) (F:k st') (O:D9 all ⟨none, .store T p v,ty,pos,aft,g⟩ E=true):M9 cx.P all ⟨none, .store T p v,ty,pos,aft,g⟩ (fun E' w'=>(frO za.k0 st (.store T p v)=true->Below za.b0 w w'/\True)/\Nx za w0 k E' w') E w:=by
 simp only[XP,qI,bind_some]at a;obtain⟨ti,bn,H,⟨Y,V,U⟩,a⟩:=a;have a5:=(L6 (C1 bp bn)).1;have s:=h.c1 (F2 E) (bind_some.2 ⟨Y,V,U⟩);split at a
 . rename_i q D;simp only[bind_some]at a;obtain⟨X,af,a⟩:=a;split at a
   . rename_i T' a9 j;cases b:X.cs.all Ei&&Nat.beq X.cs.length ti.ty.size&&Nat.ble (D+ti.ty.size) a9.length with
     |false=>simp only[b,rJ]at a;cases a
     |true=>
      simp only[b,qW]at a;cases a;simp only[qC]at b;have Q:=qD b.1.2;have a2:=qQ b.2;obtain⟨i,an⟩:=h.ev (F2 E) af;have J:=RS.cells h i b.1.1;have r:=h.locs q;have N:=h.refl q;rw[j]at r N;obtain⟨c,M,e,ao,aa,a6,am⟩:=r;obtain⟨aw,I,R⟩:=s.1;rw[e]at I;cases I;have ak:(Gw.ev E v).cells.toList.length=ti.ty.size:=by rw[<-Q,J.len]
      have G:=SX (P:=cx.P) (ty:=ty) (w:=w) (Gw.ev E v).cells.toList R rfl rfl a5 ak a6 (by rw[ak];have:=am.len;simp at this;omega) (Co.one h b.1.1 J);have o:TD c w (w.setRow c (M.toList.take D++(Gw.ev E v).cells.toList++M.toList.drop (D+(Gw.ev E v).cells.toList.length)).toArray):=⟨rfl,rfl,⟨rfl,qT _⟩,by simp,fun k F=>setRow_other w c k _ F⟩;have t:root (B q)=some c:=by rw[e];rfl
      have au:N2 Z w (w.setRow c (M.toList.take D++(Gw.ev E v).cells.toList++M.toList.drop (D+(Gw.ev E v).cells.toList.length)).toArray):=fun ai a7=>o.2.2.2.2 ai (fun f=>aa (f▸a7))
      have aj:∀H∈Ys D ti.ty.size a9 X.cs,Cb st.nx H:=fun H s=>by
       simp only[Ys,qZ]at s;rcases s with(s|s) |s
       . exact N H (sC s)
       . exact an H s
       . exact N H (vM s)
      refine Uk G O ⟨fun f=>AL o (h.mrk.2 q c (by simp only[frO,show(st.ev [] p).bind c1=some _ from bind_some.2 ⟨Y,V,U⟩]at f;exact qQ f) (by rw[j];exact t)),_,_,_,h.chg (by rw[j];trivial) (by rw[j];exact t) o (lc:= .box T' (Ys D ti.ty.size a9 X.cs)) ⟨c,_,e,ao,aa,setRow_heap w c M _ T' _ a6, ?_⟩ aj (fun _ f=> .inl f),F⟩;exact Co.mono (n:=st.nx) (fun _=>id) au (fun _ _=>rfl) aj (by simpa using dX am J Q)
   . cases a
 . rename_i q sz u D;split at a
   . rename_i a0 e I W al ar j;split at a
     . rename_i A bh;cases b:Nat.beq sz 1&&Nat.beq D 0&&Nat.beq ti.ty.size 1 with
       |false=>simp only[b,rJ]at a;cases a
       |true=>
        simp only[b,qW]at a;simp only[qC]at b;have b3:=qD b.1.1;have b4:=qD b.1.2;have b6:=qD b.2;subst b3 b4;unfold Vc.attach at a;split at a
        . rename_i c9 b5 ax aw;split at a
          . rename_i bg;subst bg;cases M:Nat.beq b5 I&&Nat.ble st.nm A&&Nat.ble st.nm q&&Nat.blt q A with
            |false=>simp only[M,rJ]at a;cases a
            |true=>
             simp only[M,qW]at a;cases a;simp only[qC]at M;have b7:=qD M.1.1.1;subst b7;have bm:q<A:=qQ M.2;obtain⟨a1,b8⟩:=h.ev (F2 E) bh;obtain⟨bv,ca,a6,bq,c4⟩:=a1;cases a6;have bs:Gw.ev E v=B A:=bq;have r:=h.locs q;rw[j]at r;obtain⟨b1,i,_⟩:=r;obtain⟨c,m,a8,y,a3,R⟩:=s.1;have bk:m=W.length:=by
              rw[y]at i;rcases i.2 with⟨f,_⟩ | ⟨_,_,_,f,_⟩<;>cases f
              rfl
             subst bk;have au:(B A).oneCell'=true:=h.bone A;have bb:(Gw.ev E v).cells.toList= [B A]:=by rw[bs];exact MA au
             have ak:=i;rw[y]at ak;rcases ak.2 with⟨f,_⟩ | ⟨bx,bz,N,f,b9,an,bl,be,aa,bo⟩
             . cases f
             . cases f;have G:=SX (P:=cx.P) (ty:=ty) (w:=w) [B A] R rfl bb a5 (by rw[b6];rfl) an (by rw[aa];simp;omega) (fun bv a6=>by simp at a6;subst a6;exact au);generalize am:(N.toList.take (u*1+0)++ [B A]++N.toList.drop (u*1+0+ [B A].length)).toArray=aj at G;have o:TD c w (w.setRow c aj):=⟨rfl,rfl,⟨rfl,qT _⟩,by simp,fun k F=>setRow_other w c k _ F⟩;have t:root (B q)=some c:=by rw[y];rfl
               have bi:B4 w (B q) (st.L q) c:=by rw[j];exact .inl t
               refine Uk G O ⟨fun f=>AL o (h.mrk.2 q c (by simp only[frO,show(st.ev [] p).bind c1=some _ from bind_some.2 ⟨Y,V,U⟩,j,frE]at f;exact qQ f) bi),_,_,_,h.attach j aw (uC bm) (qQ M.1.2) (qQ M.1.1.2) a3 (fun x z=> ?_) i t o ?_ ?_,F⟩
               . subst z;exact bt
               . rw[y];refine⟨by rw[qN];exact i.1, .inr ⟨c,a8,aj,rfl,b9,setRow_heap w c N _ e _ an,bl,be, ?_, ?_⟩⟩
                 . rw[<-am];simp only[zV,rR,qU,sQ,sO,aa,rF,yD];omega
                 . rw[<-am, <-bo];simp only[g0o];apply xL;intro x;have c2:N.toList.length=a8*1:=by rw[sO,aa]
                   simp only[xC,sU,rF,yD,sB];by_cases z:x<W.length
                   . rw[rY z];by_cases ao:u=x
                     . subst ao;rw[sH (by rw[qU];omega),uJ,tF (by rw[qU];omega),qU];rw[show u-min u N.toList.length=0 from by omega];rfl
                     . rw[sV ao,rY z,uJ];by_cases bj:x<u
                       . rw[vD (by rw[qU];omega),rY bj]
                       . rw[tF (by rw[qU];omega),qU,show min u N.toList.length=u from by omega];obtain⟨d,b⟩:∃d,x-u=d+1:=⟨x-u-1,by omega⟩;rw[b];simp only[xV,wH,uQ,wM];rw[show u+1+d=x from by omega]
                   . rw[rT (by rw[qU];omega),rT (by rw[qN,qU];omega)]
               . exact fun c3 b2 ba=>h.mrk.2 A b2 (by omega) (by rw[aw];exact ba)
          . cases a
        . cases a
     . cases a
   . rename_i ap;simp only[bind_some,qL]at a;obtain⟨X,af,c8,l,a⟩:=a;cases a;obtain⟨Z1,i⟩:=h.settleO v;have c0:=fun a0 e I W al ar=>ap a0 e I W al ar
     obtain⟨a1,b8⟩:=i.ev (F2 E) af;obtain⟨c,m,a8,y,a3,R⟩:=s.1;have t:root (B q)=some c:=by rw[y];rfl
     unfold iN at l;split at l
     . rename_i a0 e ax j;obtain⟨b,l⟩:=H2 l;simp only[qC]at b;split at l
       . rename_i az ah;cases l;have Q:=qD b.1.1.2;have ag:=qD b.1.2;have a2:=qQ b.2;subst ag;have J:=RS.cells i a1 b.1.1.1;have r:=i.locs q;rw[j]at r;obtain⟨b1,av,bf,ad⟩:=r;rw[y]at av ad;obtain⟨w',G,o,bw,ae,ab⟩:=dI (P:=cx.P) (ty:=ty) i a5 av bf (ad c rfl).2 a3 R J b.1.1.1 Q a2 ah;refine Uk G O ⟨fun f=>AL o ?_,_,_,_,i.chg (by rw[j];trivial) (by rw[j];exact t) o (lc:= .row a0 e (ax.set u az)) ⟨_,by rw[y];exact ae,ab,fun ai a7=>by rw[y]at a7;exact ad ai a7⟩ trivial (fun _ f=> .inl f),F⟩;exact i.mrk.2 q c (B9j f (bind_some.2 ⟨Y,V,U⟩) (by rw[j])) (by rw[j];exact t)
       . cases l
     . rename_i x j;split at l
       . rename_i a0 e I W al z;split at l
         . rename_i c5 ac;obtain⟨b,l⟩:=H2 l;simp only[qC]at b;split at l
           . rename_i az ah;cases l;have Q:=qD b.1.1.2;have ag:=qD b.1.2;have a2:=qQ b.2;subst ag;have J:=RS.cells i a1 b.1.1.1;have r:=i.locs x;rw[z]at r;obtain⟨b1,cb,c6,c7,ay,bu⟩:=iK r ac;have aq:¬Z1 c:=by
              obtain⟨am,a6,⟨M,aa,aj⟩,ak,N⟩:=r;exact(N c (Px a6 rfl ((M _ (Kc ac)).resolve_right fun f=>by rw[f.2]at t;simp[root]at t) t)).2.1
             rw[y]at ay;obtain⟨w',G,o,bw,ae,ab⟩:=dI (P:=cx.P) (ty:=ty) i a5 ay bu aq a3 R J b.1.1.1 Q a2 ah;have a4:=B2p r (Kc ac) t o aq (by rw[y];exact ae) ab;refine Uk G O ⟨fun f=>AL o ?_,_,_,_,i.chg (k:=x) (by rw[z];trivial) (by rw[z];exact a4.2.1) o a4.1 (by have:=i.refl x;rw[z]at this;exact this) (fun H bc=> .inr (by rw[z];exact(U7 fun g O=>o.2.2.2.2 g (fun e=>a4.2.2 (e▸O))).1 bc)),F⟩;exact i.mrk.2 x c (B9i f (bind_some.2 ⟨Y,V,U⟩) ap j) (by rw[z];exact a4.2.1)
           . cases l
         . cases l
       . cases l
     . cases l
 . cases a
def nV:∀(v:Value) (n:Nat),(∃k a,v= .int k a)\/(∃b,v= .bool b)->Instr.sameBits n v v=true:=by
 rintro v n (⟨k,a,rfl⟩ | ⟨b,rfl⟩)
 . cases n<;>simp[Instr.sameBits]
 . cases n<;>simp[Instr.sameBits]
def Tw:∀ {t:Ty} {cs:List Value} {x:t.den},Fz t=true->C7 t w Z cs x->∀v∈cs,(∃k a,v= .int k a)\/(∃b,v= .bool b)
 | .int k,_,x,_,h=>by rw[h.1];intro v c;simp at c;exact .inl ⟨_,_,c⟩
 | .bool,_,x,_,h=>by rw[show _= _ from h];intro v c;simp at c;exact .inr ⟨_,c⟩
 | .unit,_,_,_,h=>by rw[show _= _ from h];intro v c;cases c
 | .pair a b,_,_,d,⟨c1,h,e,f,g⟩=>by
  simp only[Fz,qC]at d;rw[e];intro v c;rcases qZ.1 c with c|c
  . exact Tw d.1 f v c
  . exact Tw d.2 g v c
 | .str,_,_,h,_=>by cases h
 | .sl _,_,_,h,_=>by cases h
 | .ptr _,_,_,h,_=>by cases h
 | .mp _ _ _ _,_,_,h,_=>by cases h
def nW:∀(cs:List Value) (n:Nat),(∀v∈cs,(∃k a,v= .int k a)\/(∃b,v= .bool b))->(cs.zip cs).all (fun x=>Instr.sameBits n x.1 x.2)=true
 | [],_,_=>rfl
 |c::cs,n,h=>by
  simp only[List.zip_cons_cons,tI,qC];exact⟨nV c n (h c (by simp)),nW cs n (fun v d=>h v (by simp[d]))⟩
def B0u {a:Bool} {t:Ty} {v:Value} {x:t.den} (b:Fz t=true) (h:T3 (C7 t w Z) a v x):Instr.sameBits 10000 v v=true:=by
 cases a with
 |true=>
  obtain⟨cs,e,h⟩:=h;subst e;have:=nW cs 9999 (Tw b h);simp only[Instr.sameBits,beq_self_eq_true,wQ];exact this
 |false=>exact nV v 10000 (Tw (cs:= [v]) b h v (by simp))
def B0v {a:Bool} {t:Ty} {v c:Value} {x:t.den} (d:Fz t=true) (h:T3 (C7 t w Z) a v x) (b:T3 (C7 t w Z) a c x):v=c:=by
 cases a with
 |true=>
  obtain⟨cs,e,h⟩:=h;obtain⟨cs',f,b⟩:=b;rw[e,f,Nj d h b]
 |false=>
  have:=Nj (cs:= [v]) (cs':= [c]) d h b;simpa using this
def lG {a:Ty} {d:Type} {Rk:Value->a.den->Prop} {Rv:Value->d->Prop} {k:a.den} {v:d} {kv vv:Value} {cl:Nat} (g:Rk kv k) (h:Rv vv v):∀ {l:List (a.den×d)} {es:List MapEntry} {i:Nat},S4 Rk Rv es l->
 (O0 a k l i=none->S4 Rk Rv (es++ [{key:=kv,val:=vv,born:=cl}]) (Df a k v l))/\(∀j,O0 a k l i=some (i+j)->S4 Rk Rv (es.modify j fun e=> {e with key:=kv,val:=vv}) (Df a k v l))
 | [],es,i,b=>by
  rw[show es= []from b];exact⟨fun _=>⟨_,[],rfl,g,h,rfl⟩,fun j c=>by cases c⟩
 |x::l,_,i,⟨e,u,t,n,o,r⟩=>by
  subst t;simp only[O0,Df];cases f:DR a k x.1 with
  |true=>
   refine⟨fun b=>by simp at b,fun j c=> ?_⟩;simp only[qW,rB]at c;have:j=0:=by omega
   subst this;exact⟨_,_,rfl,g,h,r⟩
  |false=>
   simp only[rJ];have c:=lG (cl:=cl) g h (i:=i+1) r;refine⟨fun b=>⟨e,_,rfl,n,o,c.1 b⟩,fun j s=> ?_⟩;cases j with
   |zero=>
    exfalso;have:∀(l:List (a.den×d)) (i j:Nat),O0 a k l i=some j->i<=j:=by
     intro l
     induction l with
     |nil=>intro i j b;cases b
     |cons y l c=>
      intro i j b;unfold O0 at b;cases f:DR a k y.1 with
      |true=>simp[f]at b;omega
      |false=>simp[f]at b;have:=c _ _ b;omega
    have:=this _ _ _ s;omega
   |succ j=>exact⟨e,_,rfl,n,o,c.2 j (by rw[s];congr 1;omega)⟩
def Ja (f:MapEntry->MapEntry) (a:∀e,(f e).born=e.born):∀(l:List MapEntry) (j:Nat),(l.modify j f).map (·.born)=l.map (·.born)
 | [],j=>by cases j<;>rfl
 |x::l,0=>by simp[a]
 |x::l,j+1=>by simp[Ja f a l j]
def cP (h:C3 za w0 st E w Z B) (aq:G6 cx.P cx.tys=true) {T:TypeId} {m x y:Operand} (f:MV cx st T m x y=some st'):
 ∃w',Gw.HT cx.P E ty (.mapUpdate T m x y) w w'/\Gw.HT cx.P E ty (.insert T m x y) w w'/\∃Z' B',C3 za w0 st' E w' Z' B':=by
 simp only[MV,qI,bind_some]at f;obtain⟨ti,ap,az,⟨aw,an,ae⟩,b5,N,b6,ao,f⟩:=f;obtain⟨Z1,r⟩:=h.settleO y;split at f
 . rename_i z g A D k aa;simp only[bind_some]at f;obtain⟨l,c,key,ag,Q,au,f⟩:=f;cases f;obtain⟨a6,J,_,_⟩:=Un (C1 aq ap) aa;have ad:=r.c1 (F2 E) (bind_some.2 ⟨aw,an,ae⟩);have s:=Dl (r.ev (F2 E) N).1 ag;have av:=Dl (r.ev (F2 E) ao).1 au;have M:=FO J;have a1:live ((settleO st y).L k):=by
    simp only[mapM]at c;cases j:(settleO st y).L k<;>rw[j]at c<;>simp at c<;>trivial
   have a9:∃b d cl,B k= .map (some b)/\up za w0 k b/\¬Z1 b/\w.heap[b]? =some (.map d cl)/\MOk d cl/\Pj w Z1 z g A D d.toList l:=by
    simp only[mapM]at c;have:=r.locs k;cases j:(settleO st y).L k with
    |map b3 b4 b7 b8 ak=>
     rw[j]at c this;simp only at c;split at c
     . rename_i I;cases I;cases c;exact this
     . cases c
    | _=>rw[j]at c;simp at c
   obtain⟨b,d,cl,F,ar,a3,G,t,H⟩:=a9;have a2:Gw.ev E m= .map (some b):=(show Gw.ev E m=B k from ad.1).trans F;have ai:b<w.heap.size:=(rU.1 G).1;have X:=fun em=>Pz J s w em
   have Y:=Ya J s w H;have a0:(getObj b).run cx.P w= .ok (.map d cl) w:=by simp[getObj,Sem.run,G]
   have a5:∀o,(setObj b o).run cx.P w= .ok () {w with heap:=w.heap.setIfInBounds b o} :=fun o=>by simp[setObj,Sem.run,G]
   have W:∀o,TD b w {w with heap:=w.heap.setIfInBounds b o} :=fun o=>⟨rfl,rfl,⟨rfl,qT _⟩,by simp,fun q j=>by simp[tG,Ne.symm j]⟩
   have aj:∀o,({w with heap:=w.heap.setIfInBounds b o} :World).heap[b]? =some o:=fun o=>by simp[tG,ai]
   have fin:∀ents' cl',MOk ents' cl'->Pj w Z1 z g A D ents'.toList (Df g key Q l)->∃Z' B',C3 za w0 ((settleO st y).setL k (.map z g A D (Df g key Q l))) E {w with heap:=w.heap.setIfInBounds b (.map ents' cl')} Z' B':=fun ents' cl' hmo' he'=>by
    have ak:N2 Z1 w {w with heap:=w.heap.setIfInBounds b (.map ents' cl')} :=fun R O=>(W _).2.2.2.2 R (fun I=>a3 (I▸O))
    exact⟨Z1,B,r.chg a1 (B4.of a1 (by rw[F];rfl)) (W _) (lc:= .map z g A D (Df g key Q l)) ⟨b,ents',cl',F,ar,a3,aj _,hmo',he'.mono (fun _=>id) ak⟩ trivial (fun _ I=> .inl I)⟩
   have a4:=lG (cl:=cl) (kv:=Gw.ev E x) (vv:=Gw.ev E y) s av (i:=0) H;rcases AW (k:=key) (i:=0) H with⟨n,_⟩ | ⟨v,a7,b9,n,U,b0,b1,V,a8⟩
   . have u:(Instr.mapUpdate T (Gw.ev E m) (Gw.ev E x) (Gw.ev E y)).run cx.P w= .ok () {w with heap:=w.heap.setIfInBounds b (.map (d.push {key:=Gw.ev E x,val:=Gw.ev E y,born:=cl}) (cl+1))} :=by
      unfold Instr.mapUpdate;simp only[Sem.run_bind,run_underlying a6,Result.andThen_ok,a2,a0,X,Y,n,g1x,a5]
     refine⟨_,fun _ _ _ _=> ?_,fun _ _ _ _=> ?_,fin _ (cl+1) ⟨fun x a=> ?_, ?_⟩ (by rw[g1e];exact a4.1 n)⟩
     . simp[execOp,u]
     . simp[execOp,u]
     . rw[g1e,qZ]at a;rcases a with a|a
       . have:=t.1 x a;omega
       . simp at a;subst a;exact rN _
     . rw[g1e,vH,tN];refine⟨t.2,by simp,fun ay ab b ac=> ?_⟩;simp at ac;obtain⟨x,a,rfl⟩:=sW.1 ab;have:=t.1 x a;omega
   . have ah:=(SK M).1 a8;rw[<-ah]at V;have N:=B0v M V s;have af:d[v]? =some a7:=by simpa using U
     have am:=B0u M s;have u:(Instr.mapUpdate T (Gw.ev E m) (Gw.ev E x) (Gw.ev E y)).run cx.P w= .ok () {w with heap:=w.heap.setIfInBounds b (.map (d.modify v fun e=> {e with key:=Gw.ev E x,val:=Gw.ev E y}) cl)} :=by
      have I:O0 g key l 0=some v:=by rw[n,sB]
      unfold Instr.mapUpdate;simp only[Sem.run_bind,run_underlying a6,Result.andThen_ok,a2,a0,X,Y,I,wB,U,wI,af,vJ,N];simp[Instr.keyThatStays,am,a5]
     refine⟨_,fun _ _ _ _=> ?_,fun _ _ _ _=> ?_,fin _ cl ⟨fun R a=> ?_, ?_⟩ (by rw[g0l];exact a4.2 v n)⟩
     . simp[execOp,u]
     . simp[execOp,u]
     . rw[g0l]at a;have:R.born∈(d.toList.modify v fun e=> {e with key:=Gw.ev E x,val:=Gw.ev E y}).map (·.born):=vS a;rw[Ja (fun e:MapEntry=> {e with key:=Gw.ev E x,val:=Gw.ev E y}) (fun _=>rfl)]at this;obtain⟨ax,O,b2⟩:=sW.1 this;have:=t.1 ax O;omega
     . rw[g0l,Ja (fun e:MapEntry=> {e with key:=Gw.ev E x,val:=Gw.ev E y}) (fun _=>rfl)];exact t.2
 . cases f
def SP {c d:Bool} {a b:Ty} {q:Nat} {es:List (a.den×b.den)} (h:mapM st c a d b q=some es):st.L q= .map c a d b es:=by
 unfold mapM at h;split at h
 . rename_i g;split at h
   . rename_i f;cases f;cases h;exact g
   . cases h
 . cases h
def A5p (h:C3 za w0 st E w Z B) {T:TypeId} {m s y:Operand} (a:UR st m s y=some st'):∃w',Gw.HT cx.P E ty (.entryStore T m s y) w w'/\∃Z' B',C3 za w0 st' E w' Z' B':=by unfold UR at a;cases a
def A6g (h:C3 za w0 st E w Z B) (f:G6 cx.P cx.tys=true) {T:TypeId} {m x:Operand} (a:VN cx st d T m x=some st') (c:k st') (b:D9 all ⟨some d, .mapEntry T m x,ty,pos,aft,g⟩ E=true):M9 cx.P all ⟨some d, .mapEntry T m x,ty,pos,aft,g⟩ (eK za w0 w true k) E w:=by unfold VN at a;cases a
def UE (cx:Cx) (st:St) (T:TypeId) (x:Operand):Option St:=none
def A5e {ty:TypeId} {st':St} (h:C3 za w0 st E w Z B) (b:G6 cx.P cx.tys=true) {T:TypeId} {x:Operand} (a:UE cx st T x=some st'):∃v w',Gw.E7 cx.P E ty (.call ⟨.builtin .clear, #[x], #[T]⟩) w v w'/\C3 za w0 st' E w' Z B:=by unfold UE at a;cases a
end
end Go.Vc
