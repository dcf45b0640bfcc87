/- Part. -/
import Derived.Laws.CopyRow
import Derived.Test.YtcbjamefalhfgaaGreatKSA
set_option linter.all false
namespace Go.Vc
open Go Go.RowKit Go.Gw
open Go.IntKind (i64)
section
variable {za:Zn} {w0 w:World} {Z:Nat->Prop} {B:Nat->Value} {st:St} {E:H2} {P:Program}
def A6a (w:World) (Z:Nat->Prop) (B:Nat->Value):List (Nat×List C)->List (Nat×Value)->Prop
 | [],a=>a= []
 | (i,b)::r,c=>∃v a,c=(i,v)::a/\Cm w Z B b v.cells.toList/\A6a w Z B r a
def jO {place:Nat->Option (Nat×Nat)} :∀ {parts:List (Nat×List C)} {j:List (Nat×Value)} {cs cs':List C} {vs:Array Value},A6a w Z B parts j->Cm w Z B cs vs.toList->Zd place cs parts=some cs'->∃d,Instr.fill place vs j=some d/\Cm w Z B cs' d.toList
 | [],_,cs,cs',vs,b,h,a=>by
  rw[show _= _ from b];simp only[Zd,rF]at a;subst a;exact⟨vs,rfl,h⟩
 | (z,i)::F,_,cs,cs',vs,⟨v,j,e,k,l⟩,h,b=>by
  subst e;simp only[Zd]at b;cases g:place z with
  |none=>simp[g]at b
  |some q=>
   obtain⟨a,sz⟩:=q;simp only[g]at b;cases c:Nat.beq i.length sz&&Nat.ble (a+sz) cs.length with
   |false=>simp[c]at b
   |true=>
    simp only[c,qW]at b;simp only[qC]at c;have s:i.length=sz:=qE c.1;have E:a+sz<=cs.length:=qR c.2;have u:v.cells.size=sz:=by rw[<-s,k.len];simp
    have D:cs.length=vs.size:=by rw[h.len];simp
    have f:=Vs a v.cells.toList 0 vs (by simp;omega);simp only[tA]at f;generalize r:(v.cells.toList.zipIdx 0).foldl (λcs (x:Value×Nat)=>cs.setIfInBounds (a+x.2) x.1) vs=A at f;have t:Cm w Z B (cs.take a++i++cs.drop (a+sz)) A.toList:=by
     rw[f];have y:v.cells.toList.length=sz:=by simpa using u
     rw[y];exact((h.take a).append k).append (h.drop (a+sz))
    obtain⟨d,n,o⟩:=jO l t b;refine⟨d,?_,o⟩;unfold Instr.fill;simp only[g];rw[qG (by simp;omega)];rw[<-n, <-r, <-g4h];simp
def OD {place:Nat->Option (Nat×Nat)} {Q:C->Prop} :∀ {parts:List (Nat×List C)} {cs cs':List C},(∀x∈parts,∀c∈x.2,Q c)->(∀c∈cs,Q c)->Zd place cs parts=some cs'->∀c∈cs',Q c
 | [],cs,cs',_,h,a=>by
  simp only[Zd,rF]at a;subst a;exact h
 | (i,j)::r,cs,cs',f,h,b=>by
  simp only[Zd]at b;cases g:place i with
  |none=>simp[g]at b
  |some q=>
   simp only[g]at b;cases d:Nat.beq j.length q.2&&Nat.ble (q.1+q.2) cs.length with
   |false=>simp[d]at b
   |true=>
    simp only[d,qW]at b;refine OD (λx k=>f x (qL _ k)) ?_ b;intro c a;simp only[rA]at a;rcases a with(a|a) |a
    . exact h c (sB a)
    . exact f (i,j) (by simp) c a
    . exact h c (vQ a)
def Ks (st:St) (ctx:Iy):List (Nat×Operand)->Option (List (Nat×List C))
 | []=>some []
 | (i,x)::r=>match st.ev ctx x with
  |some s=>bif s.cs.all Fc then(Ks st ctx r).map λl=>(i,s.cs)::l else none
  |none=>none
def RS.cells (h:C5 za w0 st E w Z B) {s:SV} {v:Value} (a:RS w Z B s v) (i:s.cs.all Fc=true):Cm w Z B s.cs v.cells.toList:=by
 obtain⟨f,b⟩:=s;cases f with
 |true=>obtain⟨d,e,a⟩:=a;subst e;exact a
 |false=>
  have a:Cm w Z B b [v]:=a
  match b,a with
  | [c],k=>
   obtain⟨u,l,e,d,g⟩:=k;cases e;have j:=RC.one h (by simpa using i) d;have:v.cells= #[v]:=by cases v<;>simp[Value.cells,Value.oneCell']at j|-
   rw[this];exact⟨v,[],rfl,d,g⟩
  | [],d=>cases d
  |c::j::r,g=>obtain⟨u,l,e,k,⟨_,_,d,_⟩⟩:=g;cases e;cases d
def Lp (h:C5 za w0 st E w Z B) {ctx:Iy} (i:Q5 E ctx):∀ {parts:List (Nat×Operand)} {l:List (Nat×List C)},Ks st ctx parts=some l->A6a w Z B l (parts.map λx=>(x.1,Gw.ev E x.2))/\∀x∈l,∀c∈x.2,Cj st.nx c
 | [],l,a=>by cases a;exact⟨rfl,by simp⟩
 | (t,x)::r,l,a=>by
  simp only[Ks]at a;cases f:st.ev ctx x with
  |none=>simp[f]at a
  |some s=>
   simp only[f]at a;cases b:s.cs.all Fc with
   |false=>simp only[b,rI]at a;cases a
   |true=>
    simp only[b,qW]at a;cases d:Ks st ctx r with
    |none=>simp[d]at a
    |some u=>
     simp[d]at a;subst a;obtain⟨j,k⟩:=h.ev i f;obtain⟨n,o⟩:=Lp h i d;refine⟨⟨Gw.ev E x,_,rfl,RS.cells h j b,n⟩,λy g=>?_⟩;rcases qX.1 g with rfl|g
     . exact k
     . exact o y g
def CG (t:Ty):List C:=(Dy t).map Pw
def Fy {T:TypeId} {t:Ty} (h:Qu P T t=true):∃z,Fa P T=some z/\z.cells.toList=Dy t:=by
 unfold Qu at h;split at h
 . rename_i z a;split at h
   . rename_i b;exact⟨z,a,by rw[mF b];simp⟩
   . cases h
 . cases h
def B2u (h:C5 za w0 st E w Z B) {ctx:Iy} (b:Q5 E ctx) {T ty:TypeId} {t:Ty} {parts:List (Nat×Operand)} {l:List (Nat×List C)} {cs:List C} {a:List (Nat×Nat)} (d:Qu P T t=true) (k:DJ P T=some a)
 (g:Ks st ctx parts=some l) (c:Zd (λi=>a[i]?) (CG t) l=some cs):Yl P st E w Z B ty (.build T parts.toArray) (.one ⟨true,cs⟩):=by
 obtain⟨z,o,r⟩:=Fy d;obtain⟨d,f⟩:=Lp h b g;have b:=Cn (w:=w) (Z:=Z) (B:=B) (n:=st.nx) (Dy t);obtain⟨a,g,j⟩:=jO (vs:=z.cells) d (by rw[r];exact b.1) c;exact⟨.agg a,λd _=>C1u a o k g,λ_=>⟨a.toList,by simp,j⟩,OD f b.2 c⟩
def iZ (h:C5 za w0 st E w Z B) {ctx:Iy} (a:Q5 E ctx) {T ty e:TypeId} {t:Ty} {len sz:Nat} {parts:List (Nat×Operand)} {l:List (Nat×List C)} {cs:List C} (d:Qu P T t=true) (k:P.underlying T=some (.array len e)) (o:Tc P e sz=true)
 (b:Ks st ctx parts=some l) (c:Zd (λi=>some (i*sz,sz)) (CG t) l=some cs):Yl P st E w Z B ty (.build T parts.toArray) (.one ⟨true,cs⟩):=by
 obtain⟨z,r,s⟩:=Fy d;obtain⟨d,f⟩:=Lp h a b;have b:=Cn (w:=w) (Z:=Z) (B:=B) (n:=st.nx) (Dy t);obtain⟨a,g,j⟩:=jO (vs:=z.cells) d (by rw[s];exact b.1) c;exact⟨.agg a,λd _=>A1t a r k o g,λ_=>⟨a.toList,by simp,j⟩,OD f b.2 c⟩
def A9e:List SV->Option (List Nat)
 | []=>some []
 | ⟨false,[.box k 0]⟩::r=>(A9e r).map (k:: ·)
 | _=>none
def evL (st:St) (ctx:Iy):List Operand->Option (List SV)
 | []=>some []
 |x::r=>match st.ev ctx x with
  |some s=>(evL st ctx r).map (s:: ·)
  |none=>none
def WQ (h:C5 za w0 st E w Z B) {ctx:Iy} (f:Q5 E ctx):∀ {xs:List Operand} {ss:List SV},evL st ctx xs=some ss->Nz w Z B ss (xs.map (Gw.ev E))/\∀s∈ss,Mj st.nx s
 | [],ss,a=>by cases a;exact⟨rfl,by simp⟩
 |x::r,ss,a=>by
  simp only[evL]at a;cases c:st.ev ctx x with
  |none=>simp[c]at a
  |some s=>
   simp only[c]at a;cases b:evL st ctx r with
   |none=>simp[b]at a
   |some l=>
    simp[b]at a;subst a;obtain⟨g,i⟩:=h.ev f c;obtain⟨j,k⟩:=WQ h f b;refine⟨⟨_,_,rfl,g,j⟩,λy d=>?_⟩;rcases qX.1 d with rfl|d
    . exact i
    . exact k y d
def A6n {n:Nat} :∀ {ss:List SV} {b:List Nat} {vs:List Value},Nz w Z B ss vs->(∀s∈ss,Mj n s)->A9e ss=some b->vs=b.map B/\∀k∈b,k<n
 | [],b,vs,h,_,a=>by cases a;exact⟨h,by simp⟩
 |s::v,b,vs,⟨A,D,e,i,j⟩,g,a=>by
  unfold A9e at a;split at a
  . rename_i c;cases c
  . rename_i k z c;cases c;cases f:A9e v with
    |none=>simp[f]at a
    |some y=>
     simp[f]at a;subst a;obtain⟨l,o⟩:=A6n j (λs hs=>g s (qL _ hs)) f;obtain⟨_,_,h,⟨x,r,u⟩,_⟩:=i;cases h;have t:=g ⟨false,[.box k 0]⟩ (by simp) (.box k 0) (by simp);refine⟨by rw[e,l,u, <-r];rfl,λq d=>?_⟩;rcases qX.1 d with rfl|d
     . exact t
     . exact o q d
  . cases a
def C4n (h:C5 za w0 st E w Z B) {ctx:Iy} (g:Q5 E ctx) {ty:TypeId} {f:FuncId} {a:List Operand} {ss:List SV} {b:List Nat} (c:evL st ctx a=some ss) (d:A9e ss=some b):
 Yl P st E w Z B ty (.makeFunc (.func f) #[] a.toArray) (.one ⟨false,[.fn f b]⟩):=by
 obtain⟨a,b⟩:=WQ h g c;obtain⟨c,g⟩:=A6n a b d;exact Gv (λa _=>C8x c) rfl g
def B6p (e:Bool):C->C->Option C
 | .val t x, .val a y=>if h:a=t then some (.val t (G6 e x (h▸y)))else none
 | _,_=>none
def B6q {e:Bool} {c1 a c:C} {v1 v2:Value} (h:B6p e c1 a=some c) (b:e=true->RC w Z B c1 v1) (d:e=false->RC w Z B a v2):RC w Z B c (bif e then v1 else v2)/\∀n,Cj n c:=by
 unfold B6p at h;split at h
 . split at h
   . rename_i t x g y f;subst f;cases h;refine⟨?_,λ_=>trivial⟩;cases e with
     |true=>exact b rfl
     |false=>exact d rfl
   . cases h
 . cases h
end
def Rp:Ty->Bool
 | .ptr _=>false
 | .pair a b=>Rp a&&Rp b
 | _=>true
def NC {w:World} {Z:Nat->Prop} :∀ {t:Ty},Rp t=true->C8 t w Z (Dy t) t.dflt
 | .int k,_=>⟨rfl,pI k⟩
 | .bool,_=>rfl
 | .str,_=>rfl
 | .unit,_=>rfl
 | .pair a b,h=>by
  simp only[Rp,qC]at h;exact⟨_,_,rfl,NC h.1,NC h.2⟩
 | .sl _,_=>⟨none,0,rfl,qP _,rM _,λ_=>rfl, .inl rfl⟩
 | .ptr _,h=>by cases h
 | .mp _ _ _ _,_=> .inl ⟨rfl,rfl⟩
def B9r (f:St) (c:Bool) (a:Ty) (d:Bool) (b:Ty):C->Option (List (a.den×b.den))
 | .mp k=>match f.L k with
  | .map f g h i j=>if k:Ty.mp f g h i=Ty.mp c a d b then some (k▸(show(Ty.mp f g h i).den from j):(Ty.mp c a d b).den)else none
  | .mapE f g h i j _ _=>if k:Ty.mp f g h i=Ty.mp c a d b then some (k▸(show(Ty.mp f g h i).den from j):(Ty.mp c a d b).den)else none
  | _=>none
 | .val t f=>if h:t=Ty.mp c a d b then some (h▸f:(Ty.mp c a d b).den)else none
 | .raw (.map none)=>some []
 | _=>none
def B9v (a:St) (ctx:Iy) (x:Operand):Option (Option Prop×DV):=
 match a.ev ctx x with
 |some s=>some (none, .one s)
 |none=>match x with
  | .tmp t=>match a.S t with
   | .tup a=>some (none, .tup a)
   | _=>none
  | _=>none
def C4t (a:St) (b:Bool):Operand->Iy
 | .tmp t=>gctx a 20 t b
 | _=> []
def one1 (c:C):DV:= .one ⟨false,[c]⟩
def A4t (d:St) (ctx:Iy) (c a b:Operand):Option (Option Prop×DV):=do
 let e<-(d.ev ctx c).bind QC
 let f<-(d.ev (C4t d true c++ctx) a).bind c1
 let g<-(d.ev (C4t d false c++ctx) b).bind c1
 (B6p e f g).map λc=>(none,one1 c)
def B7r (a:St) (ctx:Iy) (op:UnOp) (x:Operand):Option (Option Prop×DV):=do
 let c<-(a.ev ctx x).bind c1
 (unC op c).map λc=>(none,one1 c)
def jX:C->Bool
 | .val .bool _=>true
 | _=>false
def A2z (cx:Cx) (a:St) (ctx:Iy) (op:BinOp) (T:TypeId) (x y:Operand):Option (Option Prop×DV):=do
 let b<-a.ev ctx x
 let c<-a.ev ctx y
 match c1 b,c1 c with
 |some a,some d=>bif jX a&& !(isB cx.P T)then none else(C3b op a d).map λr=>(r.1,one1 r.2)
 | _,_=>do
  let ti<-cx.ti T
  let a<-Sd true ti.ty b
  let b<-Sd true ti.ty c
  bif ti.eq&&ti.agg then(match op with
   | .eql=>some (none,one1 (.val .bool (FJ ti.ty a b)))
   | .neq=>some (none,one1 (.val .bool (!(FJ ti.ty a b))))
   | _=>none)else none
def NZ (a:St) (x:Operand) (i:Nat):Option (Option Prop×DV):=
 match x with
 | .tmp t=>match a.S t with
  | .tup a=>(a[i]?).map λs=>(none, .one s)
  | _=>none
 | _=>none
def Za (cx:Cx) (a:St) (ctx:Iy) (T:TypeId) (x:Operand) (f:Nat):Option (Option Prop×DV):=do
 let ti<-cx.ti T
 let q<-ti.fields[f]?
 let c<-(a.ev ctx x).bind c1
 (faC q.1 c).map λc=>(none,one1 c)
def jN (cx:Cx) (a:St) (ctx:Iy) (T:TypeId) (x:Operand) (f:Nat):Option (Option Prop×DV):=do
 let ti<-cx.ti T
 let q<-ti.fields[f]?
 let s<-a.ev ctx x
 bif s.agg then(cut q.1 q.2.1 s.cs).map λa=>(none, .one ⟨q.2.2,a⟩)else none
def XK (cx:Cx) (a:St) (ctx:Iy) (T:TypeId) (x:Operand):Option (Option Prop×DV):=do
 let ti<-cx.ti T
 let c<-(a.ev ctx x).bind c1
 (A7i a ti.ty.size c).map λb=>(none, .one ⟨ti.agg,b⟩)
def C6l (cx:Cx) (a:St) (ctx:Iy) (ti:TI) (x ix:Operand):Option (Option Prop×DV):=do
 let d<-cx.ti ti.elem
 let c<-(a.ev ctx x).bind c1
 let i<-(a.ev ctx ix).bind XD
 (faC (i.toNat*d.ty.size) c).map λb=>(some (0<=i/\i<(ti.arr:Int)),one1 b)
def B2j (u:Ty):Nat->Ty
 |0=> .unit
 |1=>u
 |n+2=> .pair u (B2j u (n+1))
def selA (u:Ty):(n:Nat)->(B2j u n).den->Int->u.den
 |0,_,_=>u.dflt
 |1,x,_=>x
 |n+2,x,i=>G6 (decide (i=0)) x.1 (selA u (n+1) x.2 (i-1))
def C6n (cx:Cx) (b:St) (ctx:Iy) (ti:TI) (x ix:Operand):Option (Option Prop×DV):=do
 let a<-cx.ti ti.elem
 let c<-(b.ev ctx x).bind c1
 let i<-(b.ev ctx ix).bind XD
 match c with
 | .pf t y 0=>if h:t=B2j a.ty ti.arr then some (some (0<=i/\i<(ti.arr:Int)),one1 (.pf a.ty (selA a.ty ti.arr (h▸y) i) 0))else none
 | _=>none
def A7c:Operand->Bool
 | .const _=>true
 | _=>false
def C6m (cx:Cx) (a:St) (ctx:Iy) (T:TypeId) (x:Operand):Option (Option Prop×DV):=do
 let ti<-cx.ti T
 let c<-(a.ev ctx x).bind c1
 match ti.ty,c with
 | .sl t, .raw (.slice none 0 0)=>some (some False,one1 (.pf t t.dflt 0))
 | _,_=>none
def C4a (cx:Cx) (a:St) (ctx:Iy) (T:TypeId) (x ix:Operand):Option (Option Prop×DV):=do
 let ti<-cx.ti T
 let c<-(a.ev ctx x).bind c1
 let i<-(a.ev ctx ix).bind XD
 let r<-C3z a i c
 match ti.ty,r.2 with
 | .sl t, .pf a _ _=>bif decide (t=a)then some (r.1,one1 r.2)else none
 | .sl t, .elp _ sz _ _=>bif Nat.beq t.size sz then some (r.1,one1 r.2)else none
 | _,_=>none
def B4p (cx:Cx) (a:St) (ctx:Iy) (T:TypeId) (x ix:Operand):Option (Option Prop×DV):=
 match cx.ti T with
 |some ti=>bif Nat.beq ti.arr 0 then(match C6m cx a ctx T x with
  |some r=>some r
  |none=>C4a cx a ctx T x ix)else(bif A7c ix then C6l cx a ctx ti x ix else C6n cx a ctx ti x ix)
 |none=>none
def C6x:C->Bool
 | .box _ _=>true
 | .elp _ _ _ _=>true
 | .pf _ _ _=>true
 | .fn _ _=>true
 | .fv _ _ _ _ _ _=>true
 | _=>false
def B5y (a:St) (ctx:Iy) (x:Operand):Option (Option Prop×DV):=do
 let c<-(a.ev ctx x).bind c1
 bif C6x c then some (none,one1 c)else none
def B9y (a:St) (ctx:Iy):Option Operand->Option (Option Int)
 |none=>some none
 |some o=>((a.ev ctx o).bind XD).map some
def ZK (a:St) (ctx:Iy) (x lo b:Operand):Option (Option Prop×DV):=do
 let c<-(a.ev ctx x).bind c1
 let l<-(a.ev ctx lo).bind XD
 let h<-(a.ev ctx b).bind XD
 match c with
 | .val .str s=>some (some (0<=l/\l<=h/\h<=(s.data.toList.length:Int)),one1 (.val .str (s.extract l.toNat h.toNat)))
 | _=>none
def B4y (cx:Cx) (T:TypeId):Bool:=match cx.ti T with
 |some ti=>(match ti.ty with| .str=>true| _=>false)
 |none=>false
def lK (cx:Cx) (a:St) (ctx:Iy) (T:TypeId) (x:Operand) (lo b:Option Operand):Option (Option Prop×DV):=
 bif B4y cx T then(match lo,b with|some l,some h=>ZK a ctx x l h| _,_=>none)else do
 let ti<-cx.ti T
 let c<-(a.ev ctx x).bind c1
 let l<-B9y a ctx lo
 let h<-B9y a ctx b
 let r<-A5d a l h c
 match ti.ty,r.2 with
 | .sl t, .val (.sl a) _=>bif decide (t=a)then some (r.1,one1 r.2)else none
 | .sl t, .win _ sz _ _=>bif Nat.beq t.size sz then some (r.1,one1 r.2)else none
 | _,_=>none
def A3h (cx:Cx) (a:St) (ctx:Iy) (T T':TypeId) (x:Operand):Option (Option Prop×DV):=do
 let ti<-cx.ti T
 let b<-cx.ti T'
 let c<-(a.ev ctx x).bind c1
 match ti.ty,b.ty,c with
 | .int _, .int a, .val (.int _) b=>some (none,one1 (.val (.int a) (a.wrap b)))
 | _,_,_=>none
def iY (cx:Cx) (a:St) (ctx:Iy) (T:TypeId) (parts:List (Nat×Operand)):Option (Option Prop×DV):=do
 let ti<-cx.ti T
 let l<-Ks a ctx parts
 bif ti.fields.isEmpty then(do
  let b<-cx.ti ti.elem
  bif Nat.beq ti.arr 0 then none else(Zd (λi=>some (i*b.ty.size,b.ty.size)) (CG ti.ty) l).map λa=>(none, .one ⟨true,a⟩))
 else(Zd (λi=>(ti.fields.map λx=>(x.1,x.2.1))[i]?) (CG ti.ty) l).map λa=>(none, .one ⟨true,a⟩)
def GW (s:ByteArray) (i:Int):Int:=((s.data.toList.getD i.toNat 0).toNat:Int)
def XC (a:St) (ctx:Iy) (x ix:Operand):Option (Option Prop×DV):=do
 let c<-(a.ev ctx x).bind c1
 let i<-(a.ev ctx ix).bind XD
 match c with
 | .val .str s=>some (some (0<=i/\i<(s.data.toList.length:Int)),one1 (.val (.int .u8) (GW s i)))
 | _=>none
def XB (cx:Cx) (a:St) (ctx:Iy) (T:TypeId) (x ix:Operand):Option (Option Prop×DV):=none
def jU (cx:Cx) (a:St) (ctx:Iy) (T:TypeId) (x ix:Operand):Option (Option Prop×DV):=
 match((cx.ti T).map λt:TI=>t.ty:Option Ty)with
 |some .str=>XC a ctx x ix
 | _=>XB cx a ctx T x ix
def C6q:C->Bool
 | .mp _=>true
 | _=>false
def C4c:Ty->Bool
 | .sl _=>true
 | _=>false
def XL (cx:Cx) (f:St) (ctx:Iy) (T:TypeId) (x ix:Operand) (h:Bool):Option (Option Prop×DV):=do
 let ti<-cx.ti T
 let g<-(f.ev ctx x).bind c1
 let j<-f.ev ctx ix
 match ti.ty with
 | .mp i b d a=>do
  let c<-B9r f i b d a g
  let k<-Sd i b j
  bif ti.rows&&C6q g&&C4c a&& !h&& !d then some (some (K5 b k c=none),one1 (.raw (.slice none 0 0)))else
  bif Rp a then some (none,bif h then .tup [⟨d,explode a ((K5 b k c).getD a.dflt)⟩,⟨false,[.val .bool (K5 b k c).isSome]⟩]else .one ⟨d,explode a ((K5 b k c).getD a.dflt)⟩)else none
 | _=>none
def B5r (c:St) (ctx:Iy) (fn:Fn) (first a:List Operand):Option (Option Prop×DV):=
 match fn,first with
 | .func f,[]=>do
  let b<-evL c ctx a
  let a<-A9e b
  some (none,one1 (.fn f a))
 | _,_=>none
def NS (cx:Cx) (a:St) (ctx:Iy) (b:Builtin) (args:List Operand) (ts:List TypeId):Option (Option Prop×DV):=
 match b,args,ts with
 | .len,[x],[T]=>do
  let ti<-cx.ti T
  let c<-(a.ev ctx x).bind c1
  let n<-B9m a c
  match ti.ty,c with
  | _, .mp _=>none
  | .str, .val .str _=>some (some (n<=9223372036854775807),one1 (.val (.int .i64) n))
  | _, .val .str _=>none
  | .sl _,_=>some (none,one1 (.val (.int .i64) n))
  | _,_=>none
 | .max,[x,y],_=>do
  match<-(a.ev ctx x).bind c1, <-(a.ev ctx y).bind c1 with
  | .val (.int k) c, .val (.int d) b=>bif decide (k=d)then some (none,one1 (.val (.int k) (max c b)))else none
  | _,_=>none
 | .min,[x,y],_=>do
  match<-(a.ev ctx x).bind c1, <-(a.ev ctx y).bind c1 with
  | .val (.int k) c, .val (.int d) b=>bif decide (k=d)then some (none,one1 (.val (.int k) (min c b)))else none
  | _,_=>none
 | .max,[x,y,z],_=>do
  match<-(a.ev ctx x).bind c1, <-(a.ev ctx y).bind c1, <-(a.ev ctx z).bind c1 with
  | .val (.int k) a, .val (.int d) b, .val (.int f) c=>bif decide (k=d)&&decide (k=f)then some (none,one1 (.val (.int k) (max (max a b) c)))else none
  | _,_,_=>none
 | _,_,_=>none
def Vk (cx:Cx) (a:St) (ctx:Iy):Op->Option (Option Prop×DV)
 | .move x=>B9v a ctx x
 | .assign x=>B9v a ctx x
 | .pick d b c=>A4t a ctx d b c
 | .unOp b _ x=>B7r a ctx b x
 | .binOp b T x y _=>A2z cx a ctx b T x y
 | .extract x i=>NZ a x i
 | .fieldAddr T x f=>Za cx a ctx T x f
 | .field T x f=>jN cx a ctx T x f
 | .load T x=>XK cx a ctx T x
 | .indexAddr T x i=>B4p cx a ctx T x i
 | .index T x i=>jU cx a ctx T x i
 | .lookup T x i b=>XL cx a ctx T x i b
 | .slice T x c b none=>lK cx a ctx T x c b
 | .convert T T' x=>A3h cx a ctx T T' x
 | .build T b=>iY cx a ctx T b.toList
 | .nilCheck x=>B5y a ctx x
 | .makeFunc fn first b=>B5r a ctx fn first.toList b.toList
 | .call ⟨.builtin c,b,d⟩=>NS cx a ctx c b.toList d.toList
 | _=>none
section
variable {za:Zn} {w0 w:World} {Z:Nat->Prop} {B:Nat->Value} {st:St} {E:H2} {cx:Cx}
def bind_some {α c:Type} {x:Option α} {f:α->Option c} {b:c} :x.bind f=some b↔∃a,x=some a/\f a=some b:=g2i
def C5.tup (h:C5 za w0 st E w Z B) {t:Tmp} {vs:List SV} (c:st.S t= .tup vs):∃us:List Value,E t= .tuple us.toArray/\Nz w Z B vs us/\∀s∈vs,Mj st.nx s:=by
 have b:=h.slots t;have a:=h.refs t;rw[c]at b a;obtain⟨us,e,c⟩:=b;exact⟨us,e,c,a⟩
def Nz.get:∀ {ss:List SV} {vs:List Value} {i:Nat} {s:SV},Nz w Z B ss vs->ss[i]? =some s->∃v,vs[i]? =some v/\RS w Z B s v
 | [],_,_,_,_,a=>by simp at a
 |s'::ss,_,i,s,⟨v,g,e,b,c⟩,a=>by
  cases i with
  |zero=>simp at a;subst a;exact⟨v,by rw[e];rfl,b⟩
  |succ i=>simp at a;obtain⟨u,d,f⟩:=Nz.get c a;exact⟨u,by rw[e];simpa using d,f⟩
def L3 {P:Program} {T:TypeId} {ti:TI} (h:Vv P T ti=true):Tc P T ti.ty.size=true/\(ti.agg=true/\bU P T ti.ty.size=true\/ti.agg=false/\Dt P T=true/\ti.ty.size=1)/\Qu P T ti.ty=true:=by
 simp only[Vv,qC]at h;obtain⟨⟨⟨⟨⟨⟨c,a⟩,d⟩,_⟩,_⟩,_⟩,_⟩:=h;refine⟨c,?_,d⟩;cases b:ti.agg with
 |true=>rw[b]at a;exact .inl ⟨rfl,a⟩
 |false=>simp only[b,rI,qC]at a;exact .inr ⟨rfl,a.1,qE a.2⟩
def DT {P:Program} {T:TypeId} {ti:TI} {t:Ty} (h:Vv P T ti=true) (c:ti.ty= .sl t):Hg P T ti.elem t.size=true/\Qu P ti.elem t=true/\∃i,P.info? ti.elem=some i/\i.bytes=ti.bytes:=by
 simp only[Vv,qC]at h;obtain⟨⟨⟨⟨_,a⟩,_⟩,_⟩,_⟩:=h;rw[c]at a;simp only[qC]at a;refine⟨a.1.1,a.1.2,?_⟩;cases b:P.info? ti.elem with
 |none=>simp[b]at a
 |some i=>simp only[b]at a;exact⟨i,rfl,qE a.2⟩
def A1o {P:Program} {T:TypeId} {ti:TI} {k:IntKind} (h:Vv P T ti=true) (b:ti.ty= .int k):B9j P T k=true:=by
 simp only[Vv,qC]at h;obtain⟨⟨⟨⟨_,a⟩,_⟩,_⟩,_⟩:=h;rw[b]at a;exact a
def AL {P:Program} {T:TypeId} {ti:TI} (h:Vv P T ti=true) (c:ti.fields.isEmpty=false):Zb P T 0 ti.fields=true/\DJ P T=some (ti.fields.map λx=>(x.1,x.2.1)):=by
 simp only[Vv,qC]at h;obtain⟨⟨⟨_,a⟩,_⟩,_⟩:=h;simp only[c,rI,qC]at a;refine⟨a.1,?_⟩;cases b:DJ P T with
 |none=>simp[b]at a
 |some d=>simp only[b,rQ]at a;rw[a.2]
def ZV {P:Program} {T:TypeId} {ti:TI} (h:Vv P T ti=true) (b:Nat.beq ti.arr 0=false):P.underlying T=some (.array ti.arr ti.elem):=by
 simp only[Vv,qC]at h;obtain⟨⟨_,a⟩,_⟩:=h;simp only[b,rI]at a;split at a
 . rename_i n e c;simp only[qC]at a;rw[c,qE a.1,qE a.2]
 . cases a
def Vw {P:Program} {T:TypeId} {ti:TI} {c f:Bool} {d g:Ty} (h:Vv P T ti=true) (l:ti.ty= .mp c d f g):P.underlying T=some (.map ti.key ti.elem)/\EP P ti.key c d=true/\Qu P ti.elem g=true/\NA P ti.elem f=true:=by
 simp only[Vv,qC]at h;obtain⟨⟨⟨⟨_,b⟩,_⟩,_⟩,_⟩:=h;rw[l]at b;simp only[qC]at b;obtain⟨⟨⟨a,i⟩,j⟩,k⟩:=b;refine⟨?_,i,j,k⟩;split at a
 . rename_i o e n;simp only[qC]at a;rw[n,qE a.1,qE a.2]
 . cases a
def C1s {P:Program} {T:TypeId} {ti:TI} (h:Vv P T ti=true) (a:ti.eq=true):EP P T ti.agg ti.ty=true:=by
 simp only[Vv,qC]at h;have:=h.2;rw[a]at this;exact this
def Un {P:Program} {T:TypeId} :∀ {l:List (Nat×Nat×Bool)} {a f:Nat} {q:Nat×Nat×Bool},Zb P T a l=true->l[f]? =some q->OC P T (a+f) q.1=true/\A3m P T (a+f) q.2.1 q.2.2=true
 | [],_,_,_,_,b=>by simp at b
 | (d,sz,c)::l,a,f,q,h,b=>by
  simp only[Zb,qC]at h;cases f with
  |zero=>simp at b;subst b;exact h.1
  |succ f=>
   simp at b;have:=Un h.2 b;rw[(ω:a+1+f=a+(f+1))]at this;exact this
def Jd {α:Type} {l:List α} {i:Nat} {a:α} (h:l[i]? =some a):l.isEmpty=false:=by
 cases l with
 |nil=>simp at h
 |cons _ _=>rfl
end
section
variable {za:Zn} {w0 w:World} {Z:Nat->Prop} {B:Nat->Value} {st:St} {E:H2} {cx:Cx} {ctx:Iy} {ty:TypeId} {φ:Option Prop} {d:DV}
def A7q (h:C5 za w0 st E w Z B) (j:Q5 E ctx) {x:Operand} (a:B9v st ctx x=some (φ,d)):Yl cx.P st E w Z B ty (.move x) d/\Yl cx.P st E w Z B ty (.assign x) d:=by
 unfold B9v at a;cases c:st.ev ctx x with
 |some s=>
  rw[c]at a;cases a;obtain⟨b,f⟩:=h.ev j c;exact⟨⟨_,λg _=>B7x,λ_=>b,f⟩,⟨_,λg _=>A1s,λ_=>b,f⟩⟩
 |none=>
  rw[c]at a;cases x with
  |tmp t=>
   simp only at a;cases b:st.S t with
   |tup l=>
    rw[b]at a;cases a;obtain⟨i,e,f,g⟩:=h.tup b;exact⟨⟨_,λk _=>B7x,λ_=>⟨i,e,f⟩,g⟩,⟨_,λk _=>A1s,λ_=>⟨i,e,f⟩,g⟩⟩
   |one _=>rw[b]at a;cases a
   |cnd _ _ _=>rw[b]at a;cases a
   |dead=>rw[b]at a;cases a
  |const _=>cases a
  |global _=>cases a
  |func _=>cases a
def C5.c1 (h:C5 za w0 st E w Z B) (f:Q5 E ctx) {x:Operand} {c:C} (b:(st.ev ctx x).bind Vc.c1=some c):RC w Z B c (Gw.ev E x)/\Cj st.nx c:=by
 obtain⟨s,g,a⟩:=bind_some.1 b;obtain⟨b,d⟩:=h.ev f g;exact nP b d a
def C5.int (h:C5 za w0 st E w Z B) (b:Q5 E ctx) {x:Operand} {n:Int} (d:(st.ev ctx x).bind XD=some n):∃k,Gw.ev E x= .int k n/\OE k n:=by
 obtain⟨s,c,a⟩:=bind_some.1 d;exact B9i (h.ev b c).1 a
def B0o (h:C5 za w0 st E w Z B) (j:Q5 E ctx) {c a b:Operand} (l:A4t st ctx c a b=some (φ,d)):Yl cx.P st E w Z B ty (.pick c a b) d:=by
 simp only[A4t,qI,bind_some,qM]at l;obtain⟨e,⟨F,y,u⟩,z,⟨G,n,r⟩,A,⟨H,o,s⟩,D,x,v⟩:=l;cases v;have k:Gw.ev E c= .bool e:=Rf (h.ev j y).1 u;have g:∀q,e=q->Q5 E (C4t st q c++ctx):=λq hq t b f=>by
  rcases rA.1 f with f|f
  . cases c with
    |tmp I=>exact h.gctx (by rw[<-hq];exact k) t b f
    |const _=>cases f
    |global _=>cases f
    |func _=>cases f
  . exact j t b f
 have i:=B6q (w:=w) (Z:=Z) (B:=B) (v1:=Gw.ev E a) (v2:=Gw.ev E b) x (λq=>(nP (h.ev (g true q) n).1 (h.ev (g true q) n).2 r).1) (λq=>(nP (h.ev (g false q) o).1 (h.ev (g false q) o).2 s).1);exact Gv (λJ _=>C5p k) i.1 (i.2 _)
def B7s (h:C5 za w0 st E w Z B) (b:Q5 E ctx) {op:UnOp} {T:TypeId} {x:Operand} (a:B7r st ctx op x=some (φ,d)):Yl cx.P st E w Z B ty (.unOp op T x) d:=by
 simp only[B7r,qI,bind_some,qM]at a;obtain⟨j,⟨s,i,c⟩,r,g,f⟩:=a;cases f;exact C8r (h.c1 b (bind_some.2 ⟨s,i,c⟩)).1 g
def C8u {P:Program} {T T' ty:TypeId} {x y:Operand} {a:Ty} {u v:a.den} (b:EP P T true a=true) (c:Bz true a w Z (Gw.ev E x) u) (d:Bz true a w Z (Gw.ev E y) v) (w':World):Gw.E4 P E ty (.binOp .eql T x y T') w' (.bool (FJ a u v)) w'/\Gw.E4 P E ty (.binOp .neq T x y T') w' (.bool (!(FJ a u v))) w':=by
 have f:=fF b c d w';have i:P.eqGuardType P.depth T=false:=by simp only[EP,qC,rP]at b;exact b.1.2
 obtain⟨g,b,_⟩:=c;obtain⟨h,c,_⟩:=d;rw[b,c]at f;refine⟨λ_ _ _ _=>?_,λ_ _ _ _=>?_⟩
 . have d:(eqGuard .eql T x y (.agg g.toArray) (.agg h.toArray)).run P w'= .ok () w':=run_eqGuard_agg w' _ _ _ _ _ _ i;simp only[execOp,b,c];simp[d,run_eql_struct,f,Result.andThen]
 . have d:(eqGuard .neq T x y (.agg g.toArray) (.agg h.toArray)).run P w'= .ok () w':=run_eqGuard_agg w' _ _ _ _ _ _ i;simp only[execOp,b,c];simp[d,run_neq_struct,f,Result.andThen]
def A9a (h:C5 za w0 st E w Z B) (I:G9 cx.P cx.tys=true) (n:Q5 E ctx) {op:BinOp} {T T':TypeId} {x y:Operand} (a:A2z cx st ctx op T x y=some (φ,d)) (N:FN φ):Yl cx.P st E w Z B ty (.binOp op T x y T') d:=by
 simp only[A2z,qI,bind_some]at a;obtain⟨U,F,V,G,a⟩:=a;obtain⟨r,O⟩:=h.ev n F;obtain⟨s,Q⟩:=h.ev n G;split at a
 . rename_i g t i j;have J:=(nP r O i).1;have M:=(nP s Q j).1;cases k:jX g&& !(isB cx.P T)with
   |true=>simp[k]at a
   |false=>
    simp only[k,rI,qM]at a;obtain⟨R,D,A⟩:=a;cases A;have v:isB cx.P T=true\/∀e,g≠ .val .bool e:=by
     cases z:isB cx.P T with
     |true=>exact .inl rfl
     |false=>
      right;intro e c;subst c;simp[jX,z]at k
    obtain⟨W,o,u,f⟩:=B8k (P:=cx.P) (ty:=ty) (T':=T') D N J M v;exact Gv (λb _=>o b) u (f _)
 . simp only[bind_some]at a;obtain⟨ti,H,g,i,t,j,a⟩:=a;obtain⟨c,a⟩:(ti.eq&&ti.agg)=true/\ _:=by
    cases o:(ti.eq&&ti.agg)with
    |false=>simp[o]at a
    |true=>simp only[o,qW]at a;exact⟨rfl,a⟩
   simp only[qC]at c;have f:=C1s (C3 I H) c.1;rw[c.2]at f;have l:=λb=>C8u (P:=cx.P) (ty:=ty) (T':=T') f (Eh r i) (Eh s j) b
   split at a
   . cases a;exact Gv (λb _=>(l b).1) rfl trivial
   . cases a;exact Gv (λb _=>(l b).2) rfl trivial
   . cases a
def jM (h:C5 za w0 st E w Z B) {x:Operand} {i:Nat} (a:NZ st x i=some (φ,d)):Yl cx.P st E w Z B ty (.extract x i) d:=by
 unfold NZ at a;split at a
 . rename_i t;split at a
   . rename_i vs k;simp only[qM]at a;obtain⟨s,b,l⟩:=a;cases l;obtain⟨n,e,c,f⟩:=h.tup k;obtain⟨v,g,j⟩:=Nz.get c b;exact⟨v,λo _=>B1u (vs:=n.toArray) e (by simpa using g),λ_=>j,f s (sY b)⟩
   . cases a
 . cases a
def WT (h:C5 za w0 st E w Z B) (s:G9 cx.P cx.tys=true) (j:Q5 E ctx) {T:TypeId} {x:Operand} {f:Nat} (c:Za cx st ctx T x f=some (φ,d)):Yl cx.P st E w Z B ty (.fieldAddr T x f) d:=by
 simp only[Za,qI,bind_some,qM]at c;obtain⟨ti,r,q,g,u,⟨t,o,k⟩,v,n,l⟩:=c;cases l;have i:=AL (C3 s r) (Jd g);have a:=Un i.1 g;rw[rY]at a;have b:=h.c1 j (bind_some.2 ⟨t,o,k⟩);exact C6d a.1 b.1 b.2 n
def A3n (h:C5 za w0 st E w Z B) (Q:G9 cx.P cx.tys=true) (i:Q5 E ctx) {T:TypeId} {x:Operand} {f:Nat} (c:jN cx st ctx T x f=some (φ,d)):Yl cx.P st E w Z B ty (.field T x f) d:=by
 simp only[jN,qI,bind_some]at c;obtain⟨ti,O,q,y,V,M,c⟩:=c;obtain⟨D,r⟩:=h.ev i M;have F:=AL (C3 Q O) (Jd y);have s:=Un F.1 y;rw[rY]at s;obtain⟨W,Y⟩:=V;cases W with
 |false=>simp at c
 |true=>
  simp only[qW,qM]at c;obtain⟨a0,G,H⟩:=c;cases H;obtain⟨k,e,R⟩:=D;obtain⟨g,t,u⟩:=Ui R G;obtain⟨b,a⟩:=s;unfold OC at b;unfold A3m at a;split at b
  . rename_i a1 n;simp only[n]at a;split at b
    . rename_i j l;simp only[l]at a;simp only[qC,g1s]at b;obtain⟨a2,sz,z⟩:=q;simp only at b a g t;obtain⟨J,_⟩:=b;subst J;cases z with
      |true=>
       simp only[qW]at a;refine⟨.agg ((k.drop j.offset).take sz).toArray,λI _ _ _ _ _=>?_,λ_=>⟨_,rfl,g⟩,λo i=>r o (u o i)⟩;obtain⟨v,A⟩:=Qg (P:=cx.P) (w:=I) a;simp only[execOp,e];simp[Instr.field,run_underlying n,l,asAgg,part,v,A,go_sem]
      |false=>
       simp only[rI,qC]at a;have N:=qE a.2;subst N
       match U:(k.drop j.offset).take 1,g,t with
       | [v],g,_=>
        have I:k[j.offset]? =some v:=by
         have:((k.drop j.offset).take 1)[0]? =some v:=by rw[U];rfl
         simpa using this
        refine⟨v,λX _ _ _ _ _=>?_,λ_=>g,λo i=>r o (u o i)⟩;have A:=Il (P:=cx.P) (w:=X) a.1;simp only[execOp,e];simp[Instr.field,run_underlying n,l,asAgg,part,A,I,go_sem]
    . cases b
  . cases b
def B0c (h:C5 za w0 st E w Z B) (o:G9 cx.P cx.tys=true) (g:Q5 E ctx) {T:TypeId} {x:Operand} (c:XK cx st ctx T x=some (φ,d)):Yl cx.P st E w Z B ty (.load T x) d:=by
 simp only[XK,qI,bind_some,qM]at c;obtain⟨ti,n,r,⟨s,l,i⟩,u,k,j⟩:=c;cases j;obtain⟨t,a,_⟩:=L3 (C3 o n);refine B9q h (h.c1 g (bind_some.2 ⟨s,l,i⟩)).1 k ?_;rcases a with⟨b,a⟩ | ⟨b,a,f⟩
 . exact .inl ⟨b,a⟩
 . exact .inr ⟨b,a,f⟩
def B9e (h:C5 za w0 st E w Z B) (n:G9 cx.P cx.tys=true) (j:Q5 E ctx) {T:TypeId} {x ix:Operand} (a:C4a cx st ctx T x ix=some (φ,d)) (o:FN φ):Yl cx.P st E w Z B ty (.indexAddr T x ix) d:=by
 simp only[C4a,qI,bind_some]at a;obtain⟨ti,l,J,⟨s,A,v⟩,N,⟨H,D,z⟩,G,k,a⟩:=a;have c:=h.c1 j (bind_some.2 ⟨s,A,v⟩);obtain⟨Q,i,_⟩:=h.int j (bind_some.2 ⟨H,D,z⟩);obtain⟨X,M⟩:=G;simp only at a;split at a
 . rename_i t I V F g;cases b:decide (t=I)with
   |false=>simp[b]at a
   |true=>
    simp only[b,qW]at a;cases a;have:=qA b;subst this;have u:=DT (C3 n l) g;refine B4r h c.1 i k o (e:=ti.elem) (λs y=>?_) c.2;rcases y with⟨U,W,f,r⟩ | ⟨_,_,f⟩
    . cases f;subst r;exact u.1
    . cases f
 . rename_i t R sz O F g;cases b:Nat.beq t.size sz with
   |false=>simp[b]at a
   |true=>
    simp only[b,qW]at a;cases a;have:=qE b;have r:=DT (C3 n l) g;refine B4r h c.1 i k o (e:=ti.elem) (λs u=>?_) c.2;rcases u with⟨U,W,f,y⟩ | ⟨_,_,f⟩
    . cases f
    . cases f;rw[<-this];exact r.1
 . cases a
def mD {P:Program} {T e ty:TypeId} {x ix:Operand} {k:IntKind} {i:Int} {b o n sz:Nat} (h:Gw.ev E x= .pointer (some ⟨b,o,none⟩)) (f:Gw.ev E ix= .int k i) (g:P.underlying T=some (.array n e)) (j:Tc P e sz=true) (a:0<=i) (c:i<(n:Int)) (w:World):
 Gw.E4 P E ty (.indexAddr T x ix) w (.pointer (some ⟨b,o+i.toNat*sz,none⟩)) w:=λ_ _ _ _=>by
 have d:=Gw.Fi (P:=P) (w:=w) j;simp[execOp,h,f,Instr.indexAt,asIntOf,run_underlying g,Instr.sureAddr,a,c,d,go_sem,L5]
def C8.selA {u:Ty} :∀ {n:Nat} {a:List Value} {x:(B2j u n).den} {i:Int},0<=i->i<(n:Int)->C8 (B2j u n) w Z a x->C8 u w Z ((a.drop (i.toNat*u.size)).take u.size) (Vc.selA u n x i)
 |0,_,_,i,b,c,_=>ω
 |1,a,x,i,b,c,h=>by
  have:i.toNat=0:=ω
  rw[this,xT,uB,qS (by rw[C8.length h];exact qP _)];exact h
 |n+2,a,x,i,j,k,⟨c1,h,e,b,g⟩=>by
  subst e;have d:=C8.length b;simp only[Vc.selA];by_cases c:i=0
  . subst c;simp only[g3w,G6,qW];rw[show(0:Int).toNat=0 from rfl,xT,uB, <-d,g3m];exact b
  . simp only[c,g1g,G6,rI];have:=C8.selA (i:=i-1) ω ω g;have f:i.toNat*u.size=c1.length+(i-1).toNat*u.size:=by
     rw[d,(ω:i.toNat=(i-1).toNat+1),tX,vT]
    rw[f, <-wB,g3k];exact this
def B4q (h:C5 za w0 st E w Z B) (o:G9 cx.P cx.tys=true) (l:Q5 E ctx) {T:TypeId} {x ix:Operand} (a:B4p cx st ctx T x ix=some (φ,d)) (t:FN φ):Yl cx.P st E w Z B ty (.indexAddr T x ix) d:=by
 unfold B4p at a;split at a
 . rename_i ti U;cases s:Nat.beq ti.arr 0 with
   |true=>
    simp only[s,qW]at a;split at a
    . rename_i r b;cases a;simp only[C6m,qI,bind_some]at b;obtain⟨_,_,c,_,b⟩:=b;split at b
      . cases b;exact t.elim
      . cases b
    . exact B9e h o l a t
   |false=>
    simp only[s,rI]at a;cases R:A7c ix with
    |false=>
     simp only[R,rI,C6n,qI,bind_some]at a;obtain⟨O,G,W,⟨M,D,y⟩,V,⟨N,F,z⟩,a⟩:=a;have r:=h.c1 l (bind_some.2 ⟨M,D,y⟩);obtain⟨a1,j,_⟩:=h.int l (bind_some.2 ⟨N,F,z⟩);have k:=ZV (C3 o U) s;have n:=(L3 (C3 o G)).1;split at a
     . rename_i a3 a4;split at a
       . rename_i Y;subst Y;cases a;obtain⟨g,i⟩:=t;obtain⟨b,J,Q,e,I,v,c⟩:=r.1;exact Gv (λf _=>mD e j k n g i f) ⟨b,J+0+V.toNat*O.ty.size,_,rfl,I,L8 v _ O.ty.size,c.selA g i⟩ trivial
       . cases a
     . cases a
    |true=>
    simp only[R,qW]at a;simp only[C6l,qI,bind_some,qM]at a;obtain⟨O,G,W,⟨M,D,y⟩,V,⟨N,F,z⟩,a2,u,a⟩:=a;cases a;have r:=h.c1 l (bind_some.2 ⟨M,D,y⟩);obtain⟨a1,j,_⟩:=h.int l (bind_some.2 ⟨N,F,z⟩);have k:=ZV (C3 o U) s;have n:=(L3 (C3 o G)).1;obtain⟨g,i⟩:=t;have c:=r.1;have A:=r.2;unfold faC at u;split at u<;>cases u
    . obtain⟨b,e,H⟩:=c;exact Gv (λf _=>mD H j k n g i f) ⟨b,e,rfl⟩ A
    . obtain⟨b,m,X,e,a0,H⟩:=c;exact Gv (λf _=>mD H j k n g i f) ⟨b,m,X,e,a0,by rw[uM]⟩ A
    . obtain⟨b,J,Q,e,I,v,c⟩:=c;exact Gv (λf _=>mD e j k n g i f) ⟨b,J,Q,by rw[uM],I,v,c⟩ A
 . cases a
def B5z (h:C5 za w0 st E w Z B) (i:Q5 E ctx) {x:Operand} (a:B5y st ctx x=some (φ,d)):Yl cx.P st E w Z B ty (.nilCheck x) d:=by
 simp only[B5y,qI,bind_some]at a;obtain⟨f,⟨s,k,j⟩,a⟩:=a;have g:=h.c1 i (bind_some.2 ⟨s,k,j⟩);cases c:C6x f with
 |false=>simp only[c,rI]at a;cases a
 |true=>
  simp only[c,qW]at a;cases a;have b:=g.1;refine Gv (v:=Gw.ev E x) (λz _ _ _ _ _=>?_) b g.2;cases f with
  |box o r=>obtain⟨n,e,l⟩:=b;simp[execOp,l]
  |elp u sz t y=>obtain⟨n,m,o,e,r,l⟩:=b;simp[execOp,l]
  |pf t y r=>obtain⟨l,o,n,e,_⟩:=b;simp[execOp,e]
  |fn o n=>have l:Gw.ev E x= _:=b;simp[execOp,l]
  |fv _ _ _ _ _ _=>obtain⟨o,n,l,_⟩:=b;simp[execOp,l]
  | _=>cases c
def UP (h:C5 za w0 st E w Z B) (c:Q5 E ctx) {o:Option Operand} {i:Option Int} (a:B9y st ctx o=some i):B2e E o i:=by
 unfold B9y at a;cases o with
 |none=>cases a;rfl
 |some o=>
  simp only[qM]at a;obtain⟨j,d,rfl⟩:=a;obtain⟨k,b,_⟩:=h.int c d;exact⟨k,j,rfl,b⟩
def ZW {P:Program} {T:TypeId} {ti:TI} (h:Vv P T ti=true) (b:ti.ty= .str):P.underlying T=some .string:=by
 unfold Vv at h;simp only[qC]at h;have a:=h.1.1.1.2;rw[b]at a;simp only at a;split at a
 . assumption
 . cases a
def B1v {P:Program} {E:Gw.H2} {w:World} {ty T:TypeId} {x:Operand} {s:ByteArray} (c:Gw.ev E x= .string s) (b:P.underlying T=some .string):Gw.E4 P E ty (.call ⟨.builtin .len, #[x], #[T]⟩) w (.int .i64 (s.data.toList.length:Int)) w:=λ_ _ _ _=>by
 have a:s.data.toList.length=s.size:=by rw[sE];rfl
 rw[a];simp[execOp,resolve,invoke,builtin,Builtin.len_,c,run_underlying b,goInt,go_sem]
def A1v {P:Program} {E:Gw.H2} {w:World} {ty T:TypeId} {x lo a:Operand} {s:ByteArray} {k k':IntKind} {l h:Int} (g:Gw.ev E x= .string s) (f:Gw.ev E lo= .int k l) (d:Gw.ev E a= .int k' h) (c:P.underlying T=some .string) (b:0<=l) (i:l<=h) (j:h<=(s.data.toList.length:Int)):Gw.E4 P E ty (.slice T x (some lo) (some a) none) w (.string (s.extract l.toNat h.toNat)) w:=λ_ _ _ _=>by
 have a:s.data.toList.length=s.size:=by rw[sE];rfl
 have a:0<=h/\h<=(s.size:Int):=ω
 have b:0<=l/\l<=max h 0:=ω
 simp[execOp,g,f,d,Instr.sliceAt,Instr.slice,Instr.sliceBounds,Instr.sliceBound,asIntOf,run_underlying c,go_sem];rw[qJ a,qJ b]
def A1d (h:C5 za w0 st E w Z B) (b:Q5 E ctx) {P:Program} {T:TypeId} {x lo f:Operand} (g:P.underlying T=some .string) (a:ZK st ctx x lo f=some (φ,d)) (c:FN φ):Yl P st E w Z B ty (.slice T x (some lo) (some f) none) d:=by
 simp only[ZK,qI,bind_some]at a;obtain⟨y,⟨sv,t,i⟩,F,⟨sl,r,l⟩,z,⟨sh,o,j⟩,a⟩:=a;obtain⟨A,n,_⟩:=h.int b (bind_some.2 ⟨sl,r,l⟩);obtain⟨D,k,_⟩:=h.int b (bind_some.2 ⟨sh,o,j⟩);split at a
 . rename_i s;cases a;have v:=(h.c1 b (bind_some.2 ⟨sv,t,i⟩)).1;have u:Gw.ev E x= .string s:=(g4e (show [Gw.ev E x]= [.string s]from v)).1;exact Gv (λG _=>A1v u n k g c.1 c.2.1 c.2.2) rfl trivial
 . cases a
def A5e (h:C5 za w0 st E w Z B) (n:G9 cx.P cx.tys=true) (f:Q5 E ctx) {T:TypeId} {x:Operand} {lo u:Option Operand} (a:lK cx st ctx T x lo u=some (φ,d)) (o:FN φ):Yl cx.P st E w Z B ty (.slice T x lo u none) d:=by
 unfold lK at a;cases c:B4y cx T with
 |true=>
  simp only[c,qW]at a;split at a
  . unfold B4y at c;split at c
    . rename_i ti k;split at c
      . rename_i g;exact A1d h f (ZW (C3 n k) g) a o
      . cases c
    . cases c
  . cases a
 |false=>
 simp only[c,rI,qI,bind_some]at a;obtain⟨ti,k,G,⟨s,i,A⟩,N,v,I,r,D,y,a⟩:=a;have j:=h.c1 f (bind_some.2 ⟨s,i,A⟩);obtain⟨V,H⟩:=D;simp only at a;split at a
 . rename_i t F R g;cases b:decide (t=F)with
   |false=>simp[b]at a
   |true=>
    simp only[b,qW]at a;cases a;have:=qA b;subst this;have z:=DT (C3 n k) g;refine A1e h (e:=ti.elem) j.1 y j.2 o (UP h f v) (UP h f r) (λs i=>?_);rcases i with⟨Q,U,l,rfl⟩ | ⟨_,_,_,l⟩
    . cases l;exact z.1
    . cases l
 . rename_i t M sz O J g;cases b:Nat.beq t.size sz with
   |false=>simp[b]at a
   |true=>
    simp only[b,qW]at a;cases a;have:=qE b;subst this;have z:=DT (C3 n k) g;refine A1e h (e:=ti.elem) j.1 y j.2 o (UP h f v) (UP h f r) (λs i=>?_);rcases i with⟨Q,U,l,rfl⟩ | ⟨_,_,_,l⟩
    . cases l
    . cases l;exact z.1
 . cases a
def A9n (h:C5 za w0 st E w Z B) (b:G9 cx.P cx.tys=true) (i:Q5 E ctx) {T T':TypeId} {x:Operand} (a:A3h cx st ctx T T' x=some (φ,d)):Yl cx.P st E w Z B ty (.convert T T' x) d:=by
 simp only[A3h,qI,bind_some]at a;obtain⟨ti,l,y,n,r,⟨s,k,j⟩,a⟩:=a;have c:=h.c1 i (bind_some.2 ⟨s,k,j⟩);split at a
 . rename_i t u v o f g;cases a;exact B8p c.1 ⟨_,fC (A1o (C3 b l) f)⟩ (A1o (C3 b n) g)
 . cases a
def A3b (h:C5 za w0 st E w Z B) (j:G9 cx.P cx.tys=true) (g:Q5 E ctx) {T:TypeId} {parts:List (Nat×Operand)} (a:iY cx st ctx T parts=some (φ,d)):Yl cx.P st E w Z B ty (.build T parts.toArray) d:=by
 simp only[iY,qI,bind_some]at a;obtain⟨ti,o,s,i,a⟩:=a;have b:=C3 j o;cases f:ti.fields.isEmpty with
 |true=>
  simp only[f,qW,bind_some]at a;obtain⟨t,n,a⟩:=a;cases c:Nat.beq ti.arr 0 with
  |true=>simp[c]at a
  |false=>
   simp only[c,rI,qM]at a;obtain⟨r,k,l⟩:=a;cases l;exact iZ h g (L3 b).2.2 (ZV b c) (L3 (C3 j n)).1 i k
 |false=>
  simp only[f,rI,qM]at a;obtain⟨l,c,k⟩:=a;cases k;exact B2u h g (L3 b).2.2 (AL b f).2 i c
def pJ (h:C5 za w0 st E w Z B) (c:G9 cx.P cx.tys=true) (b:Q5 E ctx) {T:TypeId} {x ix:Operand} (a:XB cx st ctx T x ix=some (φ,d)) (f:FN φ):Yl cx.P st E w Z B ty (.index T x ix) d:=by unfold XB at a;cases a
def A1u {P:Program} {E:Gw.H2} {w:World} {ty T:TypeId} {x ix:Operand} {s:ByteArray} {a:IntKind} {i:Int} (h:Gw.ev E x= .string s) (g:Gw.ev E ix= .int a i) (c:P.underlying T=some .string) (b:0<=i) (d:i<(s.data.toList.length:Int)):Gw.E4 P E ty (.index T x ix) w (.int .u8 (GW s i)) w:=λ_ _ _ _=>by
 have a:i.toNat<s.data.size:=by rw[<-sE];omega
 have f:s[i.toNat]? =some s.data[i.toNat]:=by
  have:s[i.toNat]? =s.data[i.toNat]?:=by
   rw[getElem?_def,getElem?_def];rfl
  rw[this,vJ a]
 have d:GW s i=(s.data[i.toNat].toNat:Int):=by
  unfold GW;rw[qF,wR,vJ a];rfl
 simp[execOp,h,g,Instr.index,asIntOf,run_underlying c,b,f,d,go_sem]
def pK (h:C5 za w0 st E w Z B) (b:Q5 E ctx) {P:Program} {T:TypeId} {x ix:Operand} (f:P.underlying T=some .string) (a:XC st ctx x ix=some (φ,d)) (c:FN φ):Yl P st E w Z B ty (.index T x ix) d:=by
 simp only[XC,qI,bind_some]at a;obtain⟨u,⟨sv,l,g⟩,r,⟨t,k,i⟩,a⟩:=a;obtain⟨v,j,_⟩:=h.int b (bind_some.2 ⟨t,k,i⟩);split at a
 . rename_i s;cases a;have o:=(h.c1 b (bind_some.2 ⟨sv,l,g⟩)).1;have n:Gw.ev E x= .string s:=(g4e (show [Gw.ev E x]= [.string s]from o)).1;exact Gv (λy _=>A1u n j f c.1 c.2) ⟨rfl,by
    have:=(s.data.toList.getD r.toNat 0).toNat_lt;unfold GW;constructor
    . exact qD _
    . show _ <=(255:Int);omega⟩ trivial
 . cases a
def A3p (h:C5 za w0 st E w Z B) (g:G9 cx.P cx.tys=true) (f:Q5 E ctx) {T:TypeId} {x ix:Operand} (a:jU cx st ctx T x ix=some (φ,d)) (i:FN φ):Yl cx.P st E w Z B ty (.index T x ix) d:=by
 unfold jU at a;split at a
 . rename_i b;cases c:cx.ti T with
   |none=>rw[c]at b;cases b
   |some ti=>
    rw[c]at b;exact pK h f (ZW (C3 g c) (yI b)) a i
 . exact pJ h g f a i
def A7m (h:C5 za w0 st E w Z B) {t u:Bool} {n o:Ty} {c:C} {v:Value} {es:List (n.den×o.den)} (k:RC w Z B c v) (a:B9r st t n u o c=some es):
 (v= .map none/\es= [])\/∃b d cl,v= .map (some b)/\b<w.heap.size/\w.heap[b]? =some (.map d cl)/\Qx w Z t n u o d.toList es:=by
 unfold B9r at a;split at a
 . rename_i s;split at a
   . rename_i y z A D r l;split at a
     . rename_i g;have i:=h.locs s;rw[l]at i;obtain⟨b,d,cl,e,_,_,f,_,j⟩:=i;cases g;cases a;exact .inr ⟨b,d,cl,(show v= _ from k).trans e,(rW.1 f).1,f,j⟩
     . cases a
   . rename_i y z A D r F q l;split at a
     . rename_i g;have i:=h.locs s;rw[l]at i;obtain⟨b,d,cl,e,_,_,f,⟨_,j⟩,_⟩:=i;cases g;cases a;exact .inr ⟨b,d,cl,(show v= _ from k).trans e,(rW.1 f).1,f,j⟩
     . cases a
   . cases a
 . rename_i G r;split at a
   . rename_i g;subst g;cases a;rcases k with⟨e,x⟩ | ⟨b,d,cl,e,f,g,_,j⟩
     . simp only[sN,vR]at e;exact .inl ⟨e,x⟩
     . simp only[sN,vR]at e;exact .inr ⟨b,d,cl,e,h.zlt b f,g,j⟩
   . cases a
 . cases a;exact .inl ⟨k.1,rfl⟩
 . cases a
def CR {a:Ty} {d:Type} {Rk:Value->a.den->Prop} {Rv:Value->d->Prop} {k:a.den} :∀ {l:List (a.den×d)} {es:List MapEntry} {i:Nat},T6 Rk Rv es l->(P3 a k l i=none/\K5 a k l=none)\/∃j e y,P3 a k l i=some (i+j)/\es[j]? =some e/\K5 a k l=some y/\Rv e.val y/\Rk e.key ((l[j]?).map (·.1) |>.getD k)/\FJ a k ((l[j]?).map (·.1) |>.getD k)=true
 | [],_,_,_=> .inl ⟨rfl,rfl⟩
 |x::l,_,i,⟨e,v,u,o,r,s⟩=>by
  subst u;simp only[P3,K5];cases t:FJ a k x.1 with
  |true=>exact .inr ⟨0,e,x.2,rfl,rfl,rfl,r,o,t⟩
  |false=>
   rcases CR (i:=i+1) s with⟨b,c⟩ | ⟨j,f,y,b,c,g,h,n⟩
   . exact .inl ⟨b,c⟩
   . exact .inr ⟨j+1,f,y,by rw[rI,b,uM,vT 1 j],by simpa using c,g,h,by simpa using n⟩
def A1w {P:Program} {T:TypeId} {z:Value} (h:Fa P T=some z) (w':World):(zeroValue T).run P w'= .ok z w':=by
 unfold Fa at h;cases a:P.info? T with
 |none=>simp[a]at h
 |some i=>simp only[a,wI]at h;simp[zeroValue,typeInfo,a,h]
def pW (h:C5 za w0 st E w Z B) (am:G9 cx.P cx.tys=true) (n:Q5 E ctx) {T:TypeId} {x ix:Operand} {j:Bool} (b:XL cx st ctx T x ix j=some (φ,d)) (U:FN φ):Yl cx.P st E w Z B ty (.lookup T x ix j) d:=by
 simp only[XL,qI,bind_some]at b;obtain⟨ti,ak,F,⟨a7,I,ae⟩,au,aj,b⟩:=b;have aa:=h.c1 n (bind_some.2 ⟨a7,I,ae⟩);obtain⟨ab,_⟩:=h.ev n aj;split at b
 . rename_i ar r o c ad;simp only[bind_some]at b;obtain⟨es,af,k,ah,b⟩:=b;have a3:(∃V,c= .sl V/\j=false/\o=false/\φ=some (K5 r k es=none)/\d=one1 (.raw (.slice none 0 0)))\/(Rp c=true/\some (φ,d)=some ((none:Option Prop),bif j then DV.tup [⟨o,explode c ((K5 r k es).getD c.dflt)⟩,⟨false,[.val .bool (K5 r k es).isSome]⟩]else .one ⟨o,explode c ((K5 r k es).getD c.dflt)⟩)):=by
    cases s:ti.rows&&C6q F&&C4c c&& !j&& !o with
    |true=>
     simp only[s,qW]at b;cases b;simp only[qC,rP]at s;cases c<;>simp[C4c]at s;exact .inl ⟨_,rfl,s.1.2,s.2,rfl,rfl⟩
    |false=>
     simp only[s,rI]at b;cases A:Rp c with
     |false=>simp[A]at b
     |true=>simp only[A,qW]at b;exact .inr ⟨rfl,b.symm⟩
   have ai:Rp c=true:=by
    rcases a3 with⟨V,rfl,_⟩ | ⟨h,_⟩
    . rfl
    . exact h
   obtain⟨R,v,ao,f⟩:=Vw (C3 am ak) ad;have t:=Eh ab ah;obtain⟨z,J,M⟩:=Fy ao;have a6:Bz o c w Z z c.dflt:=by
    have s:=NC (w:=w) (Z:=Z) ai;rw[<-M]at s;unfold NA at f;rw[J]at f;cases z with
    |agg A=>cases o<;>simp at f;exact⟨A.toList,by simp,s⟩
    |tuple _=>simp at f
    | _=>cases o<;>simp at f<;>exact s
   have ap:∃u y,(∀a,R9 w a->(Instr.lookup T (Gw.ev E x) (Gw.ev E ix) j).run cx.P a= .ok (if j then .tuple #[u, .bool y]else u) a)/\Bz o c w Z u ((K5 r k es).getD c.dflt)/\y=(K5 r k es).isSome/\(y=false->u=z):=by
    rcases A7m h aa.1 af with⟨e,a5⟩ | ⟨D,X,W,e,a4,a2,O⟩
    . refine⟨z,false,λa _=>?_,by rw[a5];exact a6,by rw[a5];rfl,λ_=>rfl⟩;have s:=λem=>Rn v t a em
      have A:=Zi (Rv:=λ_ (_:c.den)=>True) v t a (l:= []) (es:= []) rfl;unfold Instr.lookup;simp only[Sem.run_bind,run_underlying R,Result.andThen_ok,e,Sem.run_pure,s,A,P3,g2j,A1w J]
    . rcases CR (k:=k) (i:=0) O with⟨G,H⟩ | ⟨aq,a8,av,G,H,Y,a9,_⟩
      . refine⟨z,false,λa g=>?_,by rw[H];exact a6,by rw[H];rfl,λ_=>rfl⟩;have s:=λem=>Rn v t a em
        have A:=Zi v t a O;have Q:(getObj D).run cx.P a= .ok (.map X W) a:=by simp[getObj,Sem.run,g.block D a4,a2]
        unfold Instr.lookup;simp only[Sem.run_bind,run_underlying R,Result.andThen_ok,e,Sem.run_pure,Q,s,A,G,g2j,A1w J]
      . refine⟨a8.val,true,λa g=>?_,by rw[Y];exact a9,by rw[Y];rfl,λag=>(by cases ag)⟩;have s:=λem=>Rn v t a em
        have A:=Zi v t a O;have Q:(getObj D).run cx.P a= .ok (.map X W) a:=by simp[getObj,Sem.run,g.block D a4,a2]
        rw[rY]at G;unfold Instr.lookup;simp only[Sem.run_bind,run_underlying R,Result.andThen_ok,e,Sem.run_pure,Q,s,A,G,wI,H,wQ]
   obtain⟨u,y,N,a0,a1,ac⟩:=ap;rcases a3 with⟨V,rfl,rfl,rfl,rfl,rfl⟩ | ⟨_,b⟩
   . have U:K5 r k es=none:=U;have an:u= .slice none 0 0:=by
      rw[ac (by rw[a1,U];rfl)];unfold NA at f;rw[J]at f;cases z with
      |agg s=>simp at f
      |tuple _=>simp at f
      |slice s A F=>simp[Dy,Value.cells]at M;obtain⟨rfl,rfl,rfl⟩:=M;rfl
      | _=>simp[Dy,Value.cells]at M
     refine⟨u,λa g=>λ_ _ _ _=>?_,λE'=>?_,λF n=>?_⟩
     . have:=N a (g rfl);simp at this;simp[execOp,this]
     . rw[an];exact⟨_,[],rfl,⟨rfl,rfl⟩,rfl⟩
     . simp at n;subst n;trivial
   cases j with
   |true=>
    simp only[qW]at b;cases b;refine⟨.tuple #[u, .bool y],λa g=>λ_ _ _ _=>?_,λE'=>⟨[u, .bool y],rfl,u,_,rfl,Bz.explode a0,_,_,rfl,⟨_,[],rfl,by rw[a1];rfl,rfl⟩,rfl⟩,λa7 I=>?_⟩
    . simp[execOp,N a (g rfl)]
    . simp at I;rcases I with rfl|rfl
      . exact F5
      . intro F n;simp at n;subst n;trivial
   |false=>
    simp only[rI]at b;cases b;refine⟨u,λa g=>λ_ _ _ _=>?_,λE'=>Bz.explode a0,F5⟩;simp[execOp,N a (g rfl)]
 . cases b
def B5s (h:C5 za w0 st E w Z B) (c:Q5 E ctx) {fn:Fn} {first b:List Operand} (a:B5r st ctx fn first b=some (φ,d)):Yl cx.P st E w Z B ty (.makeFunc fn first.toArray b.toArray) d:=by
 unfold B5r at a;split at a
 . simp only[qI,bind_some]at a;obtain⟨j,g,i,f,a⟩:=a;cases a;exact C4n h c g f
 . cases a
def Uu {k:IntKind} {a b:Int} (c:OE k a) (d:OE k b):OE k (max a b)/\OE k (min a b):=by unfold OE at*;omega
def RC.int {k:IntKind} {a:Int} {v:Value} (h:RC w Z B (.val (.int k) a) v):v= .int k a/\OE k a:=by
 obtain⟨b,c⟩:=h;simp only[sN,vR]at b;exact⟨b,c⟩
def jA (h:C5 za w0 st E w Z B) (J:G9 cx.P cx.tys=true) (i:Q5 E ctx) {b:Builtin} {args:List Operand} {ts:List TypeId} (a:NS cx st ctx b args ts=some (φ,d)) (V:FN φ):Yl cx.P st E w Z B ty (.call ⟨.builtin b,args.toArray,ts.toArray⟩) d:=by
 unfold NS at a;split at a
 . rename_i M T;simp only[qI,bind_some]at a;obtain⟨ti,I,u,⟨s,f,j⟩,X,H,a⟩:=a;have g:=h.c1 i (bind_some.2 ⟨s,f,j⟩);split at a
   . cases a
   . rename_i s v;cases a;obtain rfl:X=(s.data.toList.length:Int):=by simpa[B9m]using H.symm
     have U:Gw.ev E M= .string s:=(g4e (show [Gw.ev E M]= [.string s]from g.1)).1;exact Gv (λy _=>B1v U (ZW (C3 J I) v)) ⟨rfl,⟨g4r (δ:(i64.min:Int)<=0) (qD _),V⟩⟩ trivial
   . cases a
   . rename_i a1 v Q f;cases a;refine C4h h g.1 H (DT (C3 J I) v).1 (λk x=>?_) (λs x=>?_)
     . subst x;exact Q _ rfl
     . subst x;exact f _ rfl
   . cases a
 . simp only[qI,bind_some]at a;obtain⟨u,⟨s,f,j⟩,A,⟨t,o,n⟩,a⟩:=a;have g:=h.c1 i (bind_some.2 ⟨s,f,j⟩);have l:=h.c1 i (bind_some.2 ⟨t,o,n⟩);split at a
   . rename_i k z r b;cases c:decide (k=r)with
     |false=>simp[c]at a
     |true=>
      simp only[c,qW]at a;cases a;have:=qA c;subst this;have D:=RC.int g.1;have F:=RC.int l.1;exact Gv (λy _=>C5m D.1 F.1) ⟨rfl,(Uu D.2 F.2).1⟩ trivial
   . cases a
 . simp only[qI,bind_some]at a;obtain⟨u,⟨s,f,j⟩,A,⟨t,o,n⟩,a⟩:=a;have g:=h.c1 i (bind_some.2 ⟨s,f,j⟩);have l:=h.c1 i (bind_some.2 ⟨t,o,n⟩);split at a
   . rename_i k z r b;cases c:decide (k=r)with
     |false=>simp[c]at a
     |true=>
      simp only[c,qW]at a;cases a;have:=qA c;subst this;have D:=RC.int g.1;have F:=RC.int l.1;exact Gv (λy _=>C5o D.1 F.1) ⟨rfl,(Uu D.2 F.2).2⟩ trivial
   . cases a
 . simp only[qI,bind_some]at a;obtain⟨u,⟨s,f,j⟩,A,⟨t,o,n⟩,a0,⟨Y,R,O⟩,a⟩:=a;have g:=h.c1 i (bind_some.2 ⟨s,f,j⟩);have l:=h.c1 i (bind_some.2 ⟨t,o,n⟩);have N:=h.c1 i (bind_some.2 ⟨Y,R,O⟩);split at a
   . rename_i k z r b W u;cases c:decide (k=r)&&decide (k=W)with
     |false=>simp only[c,rI]at a;cases a
     |true=>
      simp only[c,qW]at a;cases a;simp only[qC,rQ]at c;obtain⟨rfl,rfl⟩:=c;have D:=RC.int g.1;have F:=RC.int l.1;have G:=RC.int N.1;exact Gv (λy _=>C5n D.1 F.1 G.1) ⟨rfl,(Uu (Uu D.2 F.2).1 G.2).1⟩ trivial
   . cases a
 . cases a
def DK (h:C5 za w0 st E w Z B) (c:G9 cx.P cx.tys=true) (b:Q5 E ctx) {op:Op} (a:Vk cx st ctx op=some (φ,d)) (f:FN φ):Yl cx.P st E w Z B ty op d:=by
 unfold Vk at a;split at a
 . exact(A7q h b a).1
 . exact(A7q h b a).2
 . exact B0o h b a
 . exact B7s h b a
 . exact A9a h c b a f
 . exact jM h a
 . exact WT h c b a
 . exact A3n h c b a
 . exact B0c h c b a
 . exact B4q h c b a f
 . exact A3p h c b a f
 . exact pW h c b a f
 . exact A5e h c b a f
 . exact A9n h c b a
 . rename_i T g;have:=A3b (ty:=ty) h c b a;simpa using this
 . exact B5z h b a
 . have:=B5s (cx:=cx) (ty:=ty) h b a;simpa using this
 . have:=jA (ty:=ty) h c b a f;simpa using this
 . cases a
end
def B7e (sz:Nat) (lo a:Int):C->C
 | .val (.sl t) l=>bif Nat.beq sz t.size then .val (.sl t) ((l.take a.toNat).drop lo.toNat)else .dead
 | _=> .dead
def EO (k:Nat) (a:C):C->C
 | .win j sz d b=>bif Nat.beq j k then B7e sz d b a else .win j sz d b
 | .row j=>bif Nat.beq j k then a else .row j
 | .mp j=>bif Nat.beq j k then a else .mp j
 |c=>c
def oW (k:Nat) (a:C) (s:SV):SV:=⟨s.agg,s.cs.map (EO k a)⟩
def KF (k:Nat) (a:C):DV->DV
 | .one s=> .one (oW k a s)
 | .tup b=> .tup (b.map (oW k a))
 | .cnd t b s=> .cnd t b (oW k a s)
 | .dead=> .dead
def oV (k:Nat) (a:C):LC->LC
 | .box T b=> .box T (b.map (EO k a))
 |x=>x
def pD (k:Nat):C->Bool
 | .win j _ _ _=>Nat.beq j k
 | .row j=>Nat.beq j k
 | .mp j=>Nat.beq j k
 | _=>false
def Zf (k:Nat):DV->Bool
 | .one s=>s.cs.any (pD k)
 | .tup a=>a.any λs=>s.cs.any (pD k)
 | .cnd _ _ s=>s.cs.any (pD k)
 | .dead=>false
def fA (k:Nat):LC->Bool
 | .box _ a=>a.any (pD k)
 | _=>false
def mapV {α:Type} (p:α->Bool) (f:α->α) (g:Nat):List (Nat×Nat×α)->List (Nat×Nat×α)
 | []=> []
 | (s,x)::l=>(s,bif p x.2 then(g,f x.2)else x)::mapV p f g l
def CU {α:Type} (p:α->Bool) (f:α->α) (g:Nat) (d:Nat×α) (a:p d.2=false) (q:Nat):∀l:List (Nat×Nat×α),find d q (mapV p f g l)=bif p (find d q l).2 then(g,f (find d q l).2)else find d q l
 | []=>by simp[mapV,find,a]
 | (s,x)::l=>by
  simp only[mapV,find,CU p f g d a q l];cases Nat.beq s q<;>rfl
def Zg {k:Nat} {a:C} :∀ {cs:List C},cs.any (pD k)=false->cs.map (EO k a)=cs
 | [],_=>rfl
 |c::cs,h=>by
  simp only[yK,rE]at h;rw[rZ,Zg h.2];congr 1;cases c with
  |row j=>simp only[pD]at h;simp only[EO,h.1,rI]
  |mp j=>simp only[pD]at h;simp only[EO,h.1,rI]
  |win j _ _ _=>simp only[pD]at h;simp only[EO,h.1,rI]
  | _=>rfl
def eZ {k:Nat} {b:C} {d:DV} (h:Zf k d=false):KF k b d=d:=by
 cases d with
 |one s=>simp only[KF,oW,Zg h]
 |cnd t a s=>simp only[KF,oW,Zg h]
 |dead=>rfl
 |tup a=>
  simp only[KF];congr 1;simp only[Zf]at h
  induction a with
  |nil=>rfl
  |cons s a c=>
   simp only[yK,rE]at h;rw[rZ,c h.2];congr 1;simp only[oW,Zg h.1]
def A9v {k:Nat} {a:C} {l:LC} (h:fA k l=false):oV k a l=l:=by
 cases l with
 |box T b=>simp only[oV,Zg h]
 | _=>rfl
def St.freeze (a:St) (k:Nat) (b:C):St:=⟨mapV (Zf k) (KF k b) (a.ct+1) a.sl,mapV (fA k) (oV k b) (a.ct+1) (put k (a.ct+1, .none) a.lc),a.nx,a.ct+1,a.nm,a.fr.map (mapV (Zf k) (KF k b) (a.ct+1))⟩
def St.eS_freeze (a:St) (k:Nat) (b:C) (s:Nat):(a.freeze k b).eS s=bif Zf k (a.S s)then(a.ct+1,KF k b (a.S s))else a.eS s:=CU _ _ _ _ rfl _ _
def St.S_freeze (a:St) (k:Nat) (b:C) (s:Nat):(a.freeze k b).S s=KF k b (a.S s):=by
 show((a.freeze k b).eS s).2= _;rw[St.eS_freeze];cases h:Zf k (a.S s)with
 |true=>rfl
 |false=>exact(eZ h).symm
def St.eL_freeze (a:St) (k:Nat) (b:C) (q:Nat):(a.freeze k b).eL q=bif fA k (if q=k then(a.ct+1,LC.none)else a.eL q).2 then(a.ct+1,oV k b (if q=k then(a.ct+1,LC.none)else a.eL q).2)else(if q=k then(a.ct+1,LC.none)else a.eL q):=by
 show find (0, .none) q (mapV (fA k) (oV k b) (a.ct+1) (put k (a.ct+1, .none) a.lc))= _;rw[CU _ _ _ _ rfl,Ze];rfl
def St.L_freeze (a:St) (k:Nat) (b:C) (q:Nat):(a.freeze k b).L q=oV k b (if q=k then .none else a.L q):=by
 show((a.freeze k b).eL q).2= _;rw[St.eL_freeze];have e:(if q=k then(a.ct+1,LC.none)else a.eL q).2=if q=k then LC.none else a.L q:=by split<;>rfl
 rw[e];cases h:fA k (if q=k then LC.none else a.L q)with
 |true=>rfl
 |false=>rw[rI,e];exact(A9v h).symm
def eW {w:World} {v:Value} {b k:Nat} {a:C} {l:LC} :B8 w v (oV k a l) b↔B8 w v l b:=by cases l<;>exact xX
section
variable {za:Zn} {w0 w w':World} {Z:Nat->Prop} {B:Nat->Value} {st:St} {E:H2} {n:Nat}
section frz
variable {k:Nat} {c':C} (hc':∀v,v=B k->RC w Z B c' v) (hr':Cj n c')
include hc' in
theorem B9b {c:C} {v:Value} (h:RC w Z B c v):RC w Z B (EO k c' c) v:=by
 cases c with
 |row j=>
  simp only[EO];cases a:Nat.beq j k with
  |true=>have:=qE a;subst this;exact hc' v h
  |false=>exact h
 |mp j=>
  simp only[EO];cases a:Nat.beq j k with
  |true=>have:=qE a;subst this;exact hc' v h
  |false=>exact h
 |win j sz E A=>
  simp only[EO];cases i:Nat.beq j k with
  |true=>
   have:=qE i;subst this;have a:=hc' (B j) rfl;simp only[qW];unfold B7e;split
   . rename_i t D;cases l:Nat.beq sz t.size with
     |false=>trivial
     |true=>
      have:=qE l;subst this;obtain⟨r,n,s,g,y,z,b,d,f,u,x,o⟩:=h;rw[g]at a;rw[o];exact A8c a b d f
   . trivial
  |false=>exact h
 | _=>exact h
include hr' in
theorem B4d {c:C} (h:Cj n c):Cj n (EO k c' c):=by
 cases c with
 |row j=>
  simp only[EO];cases Nat.beq j k with
  |true=>exact hr'
  |false=>exact h
 |mp j=>
  simp only[EO];cases Nat.beq j k with
  |true=>exact hr'
  |false=>exact h
 |win j sz b a=>
  simp only[EO];cases Nat.beq j k with
  |true=>
   simp only[qW];unfold B7e;split
   . cases Nat.beq sz _ <;>trivial
   . trivial
  |false=>exact h
 | _=>exact h
include hc' in
theorem KE:∀ {cs:List C} {vs:List Value},Cm w Z B cs vs->Cm w Z B (cs.map (EO k c')) vs
 | [],_,h=>h
 | _:: _,_,⟨v,c,e,a,b⟩=>⟨v,c,e,B9b hc' a,KE b⟩
include hr' in
theorem CV {cs:List C} (h:∀c∈cs,Cj n c):∀c∈cs.map (EO k c'),Cj n c:=λc d=>by
 obtain⟨a,b,rfl⟩:=tU.1 d;exact B4d hr' (h a b)
include hc' in
theorem jR:∀ {s:SV} {v:Value},RS w Z B s v->RS w Z B (oW k c' s) v
 | ⟨true,_⟩,_,⟨a,e,h⟩=>⟨a,e,KE hc' h⟩
 | ⟨false,_⟩,_,h=>KE hc' h
include hc' in
theorem oX:∀ {ss:List SV} {vs:List Value},Nz w Z B ss vs->Nz w Z B (ss.map (oW k c')) vs
 | [],_,h=>h
 | _:: _,_,⟨v,c,e,a,b⟩=>⟨v,c,e,jR hc' a,oX b⟩
include hc' in
theorem A6w:∀ {d:DV} {v:Value},RD w Z B E d v->RD w Z B E (KF k c' d) v
 | .one _,_,h=>jR hc' h
 | .tup _,_,⟨a,e,h⟩=>⟨a,e,oX hc' h⟩
 | .cnd _ _ _,_,h=>h.imp (fun⟨a,b⟩=>⟨a,jR hc' b⟩) id
 | .dead,_,_=>trivial
include hr' in
theorem oU:∀ {d:DV},LF n d->LF n (KF k c' d)
 | .one _,h=>CV hr' h
 | .tup f,h=>λs b=>by
  obtain⟨c,a,rfl⟩:=tU.1 b;exact CV hr' (h c a)
 | .cnd _ _ _,h=>CV hr' h
 | .dead,_=>trivial
theorem oY (s:Nat) (f:List (Nat×Nat×DV)) (g:Nat):(find (0, .dead) s (mapV (Zf k) (KF k c') g f)).2=KF k c' (find (0, .dead) s f).2:=by
 rw[CU _ _ _ _ rfl];cases h:Zf k (find (0,DV.dead) s f).2 with
 |true=>rfl
 |false=>exact(eZ h).symm
include hc' in
theorem A6x {g:Nat} :∀ {es:List H2} {a:List (List (Nat×Nat×DV))},RF w Z B es a->RF w Z B es (a.map (mapV (Zf k) (KF k c') g))
 | [],[],_=>trivial
 | _:: _,_:: _,⟨a,b⟩=>⟨λs=>by rw[oY];exact A6w hc' (a s),A6x b⟩
 | [],_:: _,h=>h.elim
 | _:: _,[],h=>h.elim
include hr' in
theorem B4e {g:Nat} {a:List (List (Nat×Nat×DV))} (h:mP n a):mP n (a.map (mapV (Zf k) (KF k c') g)):=λf d s=>by
 obtain⟨b,c,rfl⟩:=tU.1 d;rw[oY];exact oU hr' (h b c s)
include hr' in
theorem B4f:∀ {d:LC},Zz n d->Zz n (oV k c' d)
 | .box _ _,h=>CV hr' h
 | .none,_=>trivial
 | .row _ _ _,_=>trivial
 | .map _ _ _ _ _,_=>trivial
 | .rows _ _ _ _ _ _,h=>h
 | .al _,h=>h
 | .sbox _ _ _,h=>h
 | .iter _ _ _ _ _ _,h=>h
 | .mapE _ _ _ _ _ _ _,h=>h
 | .nest _ _ _ _ _ _,h=>h
 | .itM _ _ _ _ _ _ _ _,h=>h
end frz
def Ig {d e sz m:Nat} {v:Value} {xs:List Value} {b f:Nat} (h:w.ownsRow d e sz v m xs) (j:v= .slice (some ⟨b,0,none⟩) m f):I6 w ⟨b,0,none⟩ xs:=λo u a=>by
 subst j;rcases h.2 with⟨c,_⟩ | ⟨n,k,l,c,_,g,_,_,_,i⟩
 . cases c
 . cases c;rw[L5,rY];simp only[World.cell?,g];rw[<-i,wD]at a;split at a
   . simpa using a
   . cases a
def Cg {t:Ty} {d e:Nat} {v:Value} {l:List t.den} {xs:List Value} (c:w.ownsRow d e t.size v l.length xs) (i:G8 (C8 t w Z) xs l) (o:∀b,v.ownBlock=some b->Z b):C8 (.sl t) w Z [v] l:=by
 rcases c.2 with⟨a,n⟩ | ⟨g,f,r,a,_,s,h,k,_⟩
 . have:l= []:=qT n;subst this;subst a;exact⟨none,0,rfl,qP _,rM _,λ_=>rfl, .inl rfl⟩
 . exact⟨some ⟨g,0,none⟩,f,by rw[a],h,k,λj=>(by cases j), .inr ⟨g,0,xs,rfl,o g (by rw[a];rfl),Ig c a,i⟩⟩
def Rm {t:Ty} {k e e':Nat} {ls:List (List t.den)} {al:List (Nat×Nat)} {d:Option Nat} {xs:List Value} (c:w.ownsRow 0 e 1 (B k) ls.length xs) {i b:Nat} {x:Value} (o:Ea d i=false) (a:xs[i]? =some x) (l:root x=some b):B8 w (B k) (.rows t e e' ls al d) b:=by
 refine .inr ?_;rcases c.2 with⟨f,s⟩ | ⟨j,g,h,f,_,n,z,_,A,u⟩
 . have:=c.1;rw[s]at this;have v:xs= []:=qT ω;rw[v]at a;cases a
 . have r:i<ls.length:=by have:=(sR.1 a).1;have y:=c.1;omega
   refine⟨j,_,g,h,e,i,x,f,n,r,o,?_,l⟩;rw[<-u,sA ω]at a;simpa using a
def WM {α:Type} {R:List Value->α->Prop} :∀ {l:List α} {cs:List Value},cs.length=l.length->(∀(i:Nat) (a:α) (x:Value),l[i]? =some a->cs[i]? =some x->R [x] a)->G8 R cs l
 | [],cs,h,_=>qT h
 |a::l,[],h,_=>by simp at h
 |a::l,x::cs,h,b=>⟨[x],cs,rfl,b 0 a x rfl rfl,WM (by simpa using h) λi a x c d=>b (i+1) a x (by simpa using c) (by simpa using d)⟩
def Vl {t:Ty} {e e' i b n:Nat} {v x:Value} {ls:List (List t.den)} {al:List (Nat×Nat)} {xs:List Value} (c:w.ownsRow 0 e 1 v n xs) (a:xs[i]? =some x) (j:root x=some b):B8 w v (.rows t e e' ls al none) b:=by
 refine .inr ?_;rcases c.2 with⟨d,o⟩ | ⟨h,f,g,d,_,k,y,_,z,r⟩
 . have:=c.1;rw[o]at this;have s:xs= []:=qT ω;rw[s]at a;cases a
 . have l:i<n:=by have:=(sR.1 a).1;have u:=c.1;omega
   refine⟨h,_,f,g,e,i,x,d,k,l,rfl,?_,j⟩;rw[<-r,sA ω]at a;simpa using a
def gH {Z':Nat->Prop} {t:Ty} {e e':Nat} {v:Value} {ls:List (List t.den)} {al:List (Nat×Nat)} (h:Cd w Z t e e' v ls) (l:∀b,Z b->Z' b) (f:∀b,B8 w v (.rows t e e' ls al none) b->Z' b):C8 (.sl (.sl t)) w Z' [v] ls:=by
 obtain⟨u,a,j,r,s⟩:=h;refine Cg (t:= .sl t) a (WM (by have:=a.1;omega) λn o x k g=>?_) (λb c=>f b (.inl ((E9 a).trans c)));obtain⟨y,d,i⟩:=j n o x k g;exact Cg d (i.mono λ_ _=>C8.mono l (λ_ _=>rfl)) (λb c=>f b (Vl a g ((E9 d).trans c)))
def A0v {U Z':Nat->Prop} {t:Ty} {k e e':Nat} {ls:List (List t.den)} {al:List (Nat×Nat)} (h:RL U w Z B k (.rows t e e' ls al none)) (c:∀b,Z b->Z' b) (a:∀b,B8 w (B k) (.rows t e e' ls al none) b->Z' b):C8 (.sl (.sl t)) w Z' [B k] ls:=gH h.rowsR c a
def Cd.wf {t:Ty} {e e':Nat} {v:Value} {ls:List (List t.den)} (h:Cd w Z t e e' v ls):(Ty.sl (Ty.sl t)).wf ls:=C8.wf (gH (al:= []) h (Z':=λ_=>True) (λ_ _=>trivial) (λ_ _=>trivial))
def C5.freeze (h:C5 za w0 st E w Z B) {k:Nat} {f:C} (H:st.nm<=k) (y:RC w (λb=>Z b\/B8 w (B k) (st.L k) b) B f (B k)) (l:∀n,Cj n f):C5 za w0 (st.freeze k f) E w (λb=>Z b\/B8 w (B k) (st.L k) b) B:=by
 have c:C5 za w0 (st.setL k .none) E w (λb=>Z b\/B8 w (B k) (st.L k) b) B:=by
  refine(h.drop k).keep h.ext (qP _) (λ_ _=>rfl) (λ_=> .inl) (λb d=>?_);rcases d with d|d
  . exact .inl d
  . obtain⟨g,u,_⟩:=(h.locs k).root d;refine .inr ⟨u,?_,λq a=>?_⟩
    . rcases g with g|g
      . exact g.2
      . have:=h.nms.1;omega
    . rw[St.L_setL]at a;by_cases j:q=k
      . rw[qJ j]at a;exact a.elim
      . rw[qG j]at a;exact h.disj q k b j a d
 have i:∀v,v=B k->RC w (λb=>Z b\/B8 w (B k) (st.L k) b) B f v:=λv hv=>by subst hv;exact y
 refine⟨c.ext,c.zlt,λs=>?_,λq=>?_,λq D b A r t=>?_,λs=>?_,λq=>?_,λq a=>?_,c.bone,c.zin,c.nms,c.bfix,⟨c.mrk.1,λq b z o=>c.mrk.2 q b z (by rw[St.L_freeze,eW, <-St.L_setL]at o;exact o)⟩,A6x i c.frs,B4e (l _) c.frf⟩
 . rw[St.S_freeze];exact A6w i (c.slots s)
 . rw[St.L_freeze, <-St.L_setL];have:=c.locs q;cases a:(st.setL k .none).L q with
   |box T G=>
    rw[a]at this;obtain⟨b,F,d,g,j,u,x⟩:=this;exact⟨b,F,d,g,j,u,KE i x⟩
   |none=>trivial
   |row _ _ _=>rw[a]at this;exact this
   |map _ _ _ _ _=>rw[a]at this;exact this
   |rows _ _ _ _ _ _=>rw[a]at this;exact this
   |al _=>trivial
   |sbox _ _ _=>rw[a]at this;exact this
   |iter _ _ _ _ _ _=>rw[a]at this;exact this
   |mapE _ _ _ _ _ _ _=>rw[a]at this;exact this
   |nest _ _ _ _ _ _=>rw[a]at this;exact this
   |itM _ _ _ _ _ _ _ _=>rw[a]at this;exact this
 . rw[St.L_freeze,eW, <-St.L_setL]at r t;exact c.disj q D b A r t
 . rw[St.S_freeze];exact oU (l _) (c.refs s)
 . rw[St.L_freeze, <-St.L_setL];exact B4f (l _) (c.refl q)
 . rw[St.L_freeze, <-St.L_setL,c.fresh q a];rfl
def kE {f g:Bool} {c d:Ty} {b:Nat} {a:Array MapEntry} {cl:Nat} {es:List (c.den×d.den)} (h:w.heap[b]? =some (.map a cl)) (j:MOk a cl) (i:Qx w Z f c g d a.toList es) (k:Z b):C8 (.mp f c g d) w Z [.map (some b)] es:= .inr ⟨b,a,cl,rfl,k,h,j,i⟩
def settle:St->List C->St
 |st,[]=>st
 |st, .row k::a=>match st.L k with
  | .row t _ l=>settle (bif Nat.ble st.nm k then st.freeze k (.val (.sl t) l)else st) a
  | .rows t _ _ b _ none=>settle (bif Nat.ble st.nm k then st.freeze k (.val (.sl (.sl t)) b)else st) a
  | _=>settle st a
 |st, .win k _ _ _::a=>match st.L k with
  | .row t _ l=>settle (bif Nat.ble st.nm k then st.freeze k (.val (.sl t) l)else st) a
  | _=>settle st a
 |st, .mp k::a=>match st.L k with
  | .map c d f g b=>settle (bif Nat.ble st.nm k then st.freeze k (.val (.mp c d f g) b)else st) a
  | _=>settle st a
 |st,_::a=>settle st a
def C5.settle (h:C5 za w0 st E w Z B):∀cs:List C,∃Z',C5 za w0 (settle st cs) E w Z' B:=by
 intro cs
 induction cs generalizing st Z with
 |nil=>exact⟨Z,h⟩
 |cons f cs a=>
  cases f with
  |row k=>
   simp only[Vc.settle];cases b:st.L k with
   |row t e r=>
    cases j:Nat.ble st.nm k with
    |false=>exact a h
    |true=>
     have c:=h.locs k;rw[b]at c;obtain⟨s,d,i,o⟩:=c;have l:=E9 d;exact a (h.freeze (qR j) (Cg d (i.mono λ_ _=>C8.mono (λ_=> .inl) (λ_ _=>rfl)) (λn g=> .inr (by rw[b];exact l.trans g))) (λ_=>trivial))
   |rows t e l n al i=>
    cases i with
    |some _=>exact a h
    |none=>
     cases g:Nat.ble st.nm k with
     |false=>exact a h
     |true=>
      have c:=h.locs k;rw[b]at c;exact a (h.freeze (qR g) (A0v c (λ_=> .inl) λj d=> .inr (by rw[b];exact d)) (λ_=>trivial))
   | _=>exact a h
  |win k _ _ _=>
   simp only[Vc.settle];cases c:st.L k with
   |row t e r=>
    cases j:Nat.ble st.nm k with
    |false=>exact a h
    |true=>
     have b:=h.locs k;rw[c]at b;obtain⟨s,d,i,o⟩:=b;have l:=E9 d;exact a (h.freeze (qR j) (Cg d (i.mono λ_ _=>C8.mono (λ_=> .inl) (λ_ _=>rfl)) (λn g=> .inr (by rw[c];exact l.trans g))) (λ_=>trivial))
   | _=>exact a h
  |mp k=>
   simp only[Vc.settle];cases c:st.L k with
   |map s t u v r=>
    cases j:Nat.ble st.nm k with
    |false=>exact a h
    |true=>
     have b:=h.locs k;rw[c]at b;obtain⟨l,o,n,e,_,_,d,i,g⟩:=b;exact a (h.freeze (qR j) (by rw[e];exact kE d i (g.mono (λ_=> .inl) (λ_ _=>rfl)) (.inr (by rw[c];rfl))) (λ_=>trivial))
   | _=>exact a h
  | _=>exact a h
def stillB (cx:Cx) (st:St) (k:Nat):St:=match st.L k with
 | .box T a=>bif Nat.ble st.nm k then(match cx.ti T with
  |some ti=>match(settle st a).L k with
   | .box _ b=>(match Me ti.ty b with
    |some (x,[])=>((settle st a).setL k .none).setL k (.sbox k ti.ty x)
    | _=>st)
   | _=>st
  |none=>st)else st
 | _=>st
def C5.stillB (h:C5 za w0 st E w Z B) (cx:Cx) (k:Nat):∃Z',C5 za w0 (stillB cx st k) E w Z' B:=by
 unfold Vc.stillB;split
 . rename_i T b I;cases x:Nat.ble st.nm k with
   |false=>exact⟨Z,h⟩
   |true=>
    simp only[qW];split
    . rename_i ti J;obtain⟨Z1,a⟩:=h.settle b;split
      . rename_i T' F i;split
        . rename_i D y;have o:k<(Vc.settle st b).nx:=by
           by_cases d:k<(Vc.settle st b).nx
           . exact d
           . rw[a.fresh k ω]at i;cases i
          have n:=a.locs k;rw[i]at n;obtain⟨g,A,e,G,H,r,s⟩:=n;have v:∀c,B8 w (B k) ((Vc.settle st b).L k) c↔c=g:=λc=>by
           rw[i,e];simp only[B8,root,rF];exact eq_comm
          have t:C5 za w0 ((Vc.settle st b).setL k .none) E w (λc=>Z1 c\/B8 w (B k) ((Vc.settle st b).L k) c) B:=by
           refine(a.drop k).keep a.ext (qP _) (λ_ _=>rfl) (λ_=> .inl) (λc d=>?_);rcases d with d|d
           . exact .inl d
           . obtain⟨j,z,_⟩:=(a.locs k).root d;refine .inr ⟨z,?_,λq f=>?_⟩
             . rcases j with j|j
               . exact j.2
               . have M:=a.nms.1;have N:=h.nms.1;have:=qR x;omega
             . rw[St.L_setL]at f;by_cases l:q=k
               . rw[qJ l]at f;exact f.elim
               . rw[qG l]at f;exact a.disj q k c l f d
          have u:=t.addL (k:=k) (lc:= .sbox k ti.ty D) o ⟨rfl,⟨g,0,A.toList,by rw[e], .inr ((v g).2 rfl),r.cellsAt,(Gt s y).mono (λ_=> .inl) (λ_ _=>rfl)⟩,g,e⟩ (λ_ _ _ hh=>hh.elim) o (λ_ _ hh=>hh.elim);exact⟨_,u⟩
        . exact⟨Z,h⟩
      . exact⟨Z,h⟩
    . exact⟨Z,h⟩
 . exact⟨Z,h⟩
def settleO (st:St) (x:Operand):St:=match st.ev [] x with
 |some s=>settle st s.cs
 |none=>st
def C5.settleO (h:C5 za w0 st E w Z B) (x:Operand):∃Z',C5 za w0 (settleO st x) E w Z' B:=by
 unfold Vc.settleO;split
 . exact h.settle _
 . exact⟨Z,h⟩
end
section
variable {P:Program} {all:List Oper} {E:H2} {w w':World} {next:H2->World->Prop} {d:Nat} {op:Op} {ty:TypeId} {pos:String} {aft:Array Edge} {g:Option (Nat×Bool)} {v:Value}
def R7 (b:Gw.E4 P E ty op w v w') (a:E1 all ⟨some d,op,ty,pos,aft,g⟩ E=true) (h:next (upd E d v) w'):J6 P all ⟨some d,op,ty,pos,aft,g⟩ next E w:=by
 unfold J6;rw[qJ a,b];exact h
def A8n (b:Gw.E4 P E ty op w v w') (a:E1 all ⟨none,op,ty,pos,aft,g⟩ E=true) (h:next E w'):J6 P all ⟨none,op,ty,pos,aft,g⟩ next E w:=by
 unfold J6;rw[qJ a,b];exact h
def Vt (b:Gw.IZ P E ty op w w') (a:E1 all ⟨none,op,ty,pos,aft,g⟩ E=true) (h:next E w'):J6 P all ⟨none,op,ty,pos,aft,g⟩ next E w:=by
 unfold J6;rw[qJ a,b];exact h
def AG {f:FuncId} {args:List Value} {Φ:Value->World->Prop} (a:Gw.A2a P E ty op w f args) (b:Gw.Ret P f args w Φ) (c:E1 all ⟨some d,op,ty,pos,aft,g⟩ E=true)
 (h:∀v w',Φ v w'->next (upd E d v) w'):J6 P all ⟨some d,op,ty,pos,aft,g⟩ next E w:=by
 unfold J6;rw[qJ c,a];exact Calls.mono b λ_ _ ⟨v,a,hv⟩=>⟨v,a,h _ _ hv⟩
def My (a:E1 all ⟨some d,op,ty,pos,aft,g⟩ E=false) (h:next (upd E d undef) w):J6 P all ⟨some d,op,ty,pos,aft,g⟩ next E w:=by
 unfold J6;rw[qG (by rw[a];simp)];exact h
end
def wrB:Op->Bool
 | .store _ _ _=>true
 | .mapUpdate _ _ _ _=>true
 | .insert _ _ _ _=>true
 | .next _ _=>true
 | .mapEntry _ _ _=>true
 | .entryStore _ _ _ _=>true
 | .call ⟨.builtin .append,_,_⟩=>true
 | .call ⟨.builtin .copy,_,_⟩=>true
 | .call ⟨.builtin .delete,_,_⟩=>true
 | .call ⟨.builtin .clear,_,_⟩=>true
 | _=>false
def Nx (c:Zn) (b:World) (k:St->Prop) (E:H2) (w:World):Prop:=∃a Z B,C5 c b a E w Z B/\k a
def dY (b:Zn) (a w:World) (wr:Bool) (k:St->Prop) (E:H2) (w':World):Prop:=(wr=false->R9 w w')/\Nx b a k E w'
def Sb (t:Ty):Nat->List (Nat×List C)->Option (List t.den)
 | _,[]=>some []
 |i,(j,a)::r=>bif Nat.beq i j then(match Me t a with
  |some (x,[])=>(Sb t (i+1) r).map (x:: ·)
  | _=>none)else none
def settleP:St->List (Nat×Operand)->St
 |a,[]=>a
 |a,(_,x)::r=>settleP (settleO a x) r
def jV (a:St) (x:Operand):Option Int:=(a.ev [] x).bind XD
def Ur:Value->Bool
 | .slice none 0 0=>true
 | _=>false
def Gi {v:Value} (h:Ur v=true):v= .slice none 0 0:=by
 unfold Ur at h;split at h
 . rfl
 . cases h
def Wg (a:St) (t:Ty):C->Option (List t.den)
 | .val (.sl b) l=>if h:b=t then some (h▸l)else none
 | .row k=>match a.L k with
  | .row b _ l=>if h:b=t then some (h▸l)else none
  | _=>none
 | .win k sz c b=>match a.L k with
  | .row a _ l=>if h:a=t then(bif Nat.beq sz a.size then some (h▸((l.take b.toNat).drop c.toNat))else none)else none
  | _=>none
 | .raw v=>bif Ur v then some []else none
 | _=>none
def PE (a:St) (t:Ty) (e:TypeId):C->Option (List t.den)
 | .row k=>match a.L k with
  | .row c b l=>if h:c=t then(bif Nat.beq b e&&Nat.ble a.nm k then some (h▸l)else none)else none
  | _=>none
 | .raw v=>bif Ur v then some []else none
 | _=>none
def boxS (a:St) (d:Tmp) (T:TypeId) (cs:List C):St:=(a.newL (.box T cs)).setS d (one1 (.box a.nx 0))
def rowS (a:St) (d:Tmp) (t:Ty) (e:TypeId) (l:List t.den):St:=(a.newL (.row t e l)).setS d (one1 (.row a.nx))
def C4l (a:St) (d:Tmp) (b:Bool) (c:Ty) (f:Bool) (g:Ty):St:=(a.newL (.map b c f g [])).setS d (one1 (.mp a.nx))
def gI (a:St) (d:Tmp) (t:Ty) (e e':TypeId) (ls:List (List t.den)):St:=(a.newL (.rows t e e' ls [] none)).setS d (one1 (.row a.nx))
def XM (cx:Cx) (a:St) (d:Tmp) (ti:TI) (n:Nat):Option St:=match ti.ty with
 | .sl (.sl t)=>(cx.ti ti.elem).map λb=>gI a d t ti.elem b.elem (List.replicate n [])
 | _=>none
def B7d (c:Bool) (a:Ty) (d:Bool) (b:Ty):C->Option (List (a.den×b.den))
 | .val t f=>if h:t=Ty.mp c a d b then some (h▸f:(Ty.mp c a d b).den)else none
 | .raw (.map none)=>some []
 | _=>none
def B2i (a:St) (d:Tmp) (k:Nat) (t:Ty) (e e':TypeId) (ls:List (List t.den)) (al:List (Nat×Nat)) (i:Nat):St:=((a.newL (.al k)).setL k (.rows t e e' ls ((i,a.nx)::al) none)).setS d (one1 (.row a.nx))
def dropR (a:St):C->St
 | .row k=>a.setL k .none
 | _=>a
def HJ (c:C):C->Bool
 | .win k _ _ _=>match c with
  | .row j=> !(Nat.beq j k)
  | _=>true
 | .row k=>match c with
  | .row j=> !(Nat.beq j k)
  | _=>true
 | _=>true
def slT:Ty->Option Ty
 | .sl t=>some t
 | _=>none
def C2x (cx:Cx) (a:St) (d:Tmp) (T:TypeId) (x y:Operand):Option (Option Prop×St):=do
 let ti<-cx.ti T
 let t<-slT ti.ty
 let b<-(a.ev [] x).bind c1
 let f<-(a.ev [] y).bind c1
 let l<-PE a t ti.elem b
 let c<-Wg a t f
 bif HJ b f&&Nat.ble 1 t.size then some (some ((l.length+c.length)*ti.bytes<=140737488355328/\l.length+c.length<=9223372036854775807),rowS (dropR a b) d t ti.elem (l++c))else none
def Ll {α:Type} (l a:List α):List α:=a.take l.length++l.drop a.length
def nX (cx:Cx) (a:St) (d:Tmp) (T:TypeId) (x y:Operand):Option St:=do
 let ti<-cx.ti T
 let t<-slT ti.ty
 let c<-(a.ev [] x).bind c1
 let b<-(a.ev [] y).bind c1
 let f<-Wg a t b
 match c with
 | .row k=>match a.L k with
  | .row c e l=>if h:c=t then(bif HJ (.row k) b then some ((a.setL k (.row c e (Ll l (h▸f)))).setS d (one1 (.val (.int .i64) (min (f.length:Int) (l.length:Int)))))else none)else none
  | _=>none
 | _=>none
def fM (cx:Cx) (a:St) (d:Tmp) (T:TypeId) (x:Operand):Option St:=do
 let ti<-cx.ti T
 let c<-(a.ev [] x).bind c1
 match c with
 | .elp k sz i f=>match a.L k with
  | .rows t e b c al none=>bif Nat.beq sz 1&&Nat.beq f 0&& !ti.agg then some (B2i a d k t e b c al i)else none
  | _=>none
 | _=>none
def B8r (a:St):C->St
 | .row q=>match a.L q with
  | .al k=>match a.L k with
   | .rows t e b c al none=>match FM q al with
    |some i=>bif Nat.ble a.nm k&&Nat.ble a.nm q then(a.setL k (.rows t e b c [] (some i))).setL q (.row t b (c.getD i []))else a
    |none=>a
   | _=>a
  | _=>a
 | _=>a
def detO (a:St) (x:Operand):St:=match(a.ev [] x).bind c1 with
 |some c=>B8r a c
 |none=>a
def B3s (cx:Cx) (a:St) (d:Tmp):Op->Option (Option Prop×St)
 | .box T x=>do
  let s<-a.ev [] x
  bif s.cs.all Fc then some (none,boxS a d T s.cs)else none
 | .alloc T=>do
  let ti<-cx.ti T
  some (none,boxS a d T (CG ti.ty))
 | .buildSlice T len b=>do
  let ti<-cx.ti T
  let t<-slT ti.ty
  let c:=settleP a b.toList
  let f<-Ks c [] b.toList
  let b<-Sb t 0 f
  bif Nat.beq b.length len&&Nat.ble (len*t.size) 16777216&&Nat.ble 1 t.size then some (none,rowS c d t ti.elem b)else none
 | .makeSlice T c b=>do
  let ti<-cx.ti T
  let t<-slT ti.ty
  let l<-jV a c
  let c<-jV a b
  bif ti.rows then(XM cx a d ti l.toNat).map λb=>(some (0<=l/\l<=c/\(ti.bytes:Int)*c<=281474976710656/\c<=9223372036854775807),b)
  else bif Rp t then some (some (0<=l/\l<=c/\(ti.bytes:Int)*c<=281474976710656/\c<=9223372036854775807),rowS a d t ti.elem (List.replicate l.toNat t.dflt))else none
 | .call ⟨.builtin .append,b,c⟩=>match b.toList,c.toList with
  | [x,y],[T,T']=>bif Nat.beq T T' then C2x cx (detO a x) d T x y else none
  | _,_=>none
 | .makeMap T r=>do
  let ti<-cx.ti T
  match ti.ty,r with
  | .mp b c f g,none=>some (none,C4l a d b c f g)
  | .mp b c f g,some o=>(jV a o).map λ_=>(none,C4l a d b c f g)
  | _,_=>none
 | .call ⟨.builtin .len,b,c⟩=>match b.toList,c.toList with
  | [x],[T]=>do
   let ti<-cx.ti T
   match ti.ty with
   | .mp f g h i=>do
    let c<-(a.ev [] x).bind c1
    let b<-B9r a f g h i c
    some (some (b.length<=9223372036854775807),a.setS d (one1 (.val (.int .i64) (b.length:Int))))
   | _=>none
  | _,_=>none
 | .load T x=>(fM cx a d T x).map λb=>(none,b)
 | .range T x=>do
  let ti<-cx.ti T
  match ti.ty with
  | .mp b c f g=>do
   let h<-((settleO a x).ev [] x).bind c1
   let i<-B7d b c f g h
   some (none,((settleO a x).newL (.iter b c f g i none)).setS d (one1 (.box (settleO a x).nx 0)))
  | _=>none
 | .entry x=>do
  let c<-(a.ev [] x).bind c1
  match c with
  | .box k f=>match a.L k with
   | .iter b c g h _ (some y)=>bif Nat.beq f 0 then some (none,a.setS d (.tup [⟨b,explode c y.1⟩,⟨g,explode h y.2⟩]))else none
   | _=>none
  | _=>none
 | .call ⟨.builtin .copy,b,c⟩=>match b.toList,c.toList with
  | [x,y],[T,_]=>(nX cx a d T x y).map λb=>(none,b)
  | _,_=>none
 | _=>none
section
variable {za:Zn} {w0 w w':World} {Z Z':Nat->Prop} {B:Nat->Value} {st st':St} {E:H2} {cx:Cx} {φ:Option Prop} {d:Tmp}
def T6.len {a b:Type} {Rk:Value->a->Prop} {Rv:Value->b->Prop} :∀ {l:List (a×b)} {es:List MapEntry},T6 Rk Rv es l->es.length=l.length
 | [],_,h=>by rw[show _= _ from h];rfl
 | _:: _,_,⟨e,c,b,_,_,a⟩=>by rw[b,rK,rK,T6.len a]
def Fb (h:C5 za w0 st E w Z B) {k:Nat} (a:live (st.L k)):k<st.nx:=by
 by_cases b:k<st.nx
 . exact b
 . rw[h.fresh k ω]at a;exact a.elim
def Md {a b e sz n:Nat} {v:Value} {xs:List Value} (h:w.ownsRow a e sz v n xs) (i:b<=a):w.ownsRow b e sz v n xs:=by
 refine⟨h.1,?_⟩;rcases h.2 with h| ⟨g,a,b,c,d,f⟩
 . exact .inl h
 . exact .inr ⟨g,a,b,c,qU i d,f⟩
def kT {d a e sz n:Nat} {v:Value} {xs:List Value} (h:w.ownsRow d e sz v n xs) (k:∀b,v.ownBlock=some b->a<=b):w.ownsRow a e sz v n xs:=by
 refine⟨h.1,?_⟩;rcases h.2 with h| ⟨g,f,i,c,l,j⟩
 . exact .inl h
 . exact .inr ⟨g,f,i,c,k g (by rw[c];rfl),j⟩
def C5.newBox (h:C5 za w0 st E w Z B) (d:Tmp) {T:TypeId} {cs:List C} {vs:Array Value} (s:Cm w Z B cs vs.toList) (j:∀c∈cs,Cj st.nx c):
 ∃B',C5 za w0 (boxS st d T cs) (upd E d (.pointer (some ⟨w.heap.size,0,none⟩))) (w.alloc (.cells vs T)) Z B':=by
 have g:R9 w (w.alloc (.cells vs T)):=R9.alloc w _;have l:=h.more (Z':=Z) g (λ_=>id) (λ_=> .inl);have i:∀b,Z b->b<w.heap.size:=h.zlt;have u:O2 Z w (w.alloc (.cells vs T)):=λb a=>g.block b (i b a)
 have o:=l.new (v:= .pointer (some ⟨w.heap.size,0,none⟩)) (lc:= .box T cs) ⟨w.heap.size,vs,C4 _ _ _, .inl ⟨h.nms.2,h.ext.size⟩,λhz=>absurd (i _ hz) (sW _),Fj w vs T,
  Cm.mono (n:=st.nx) (λ_=>id) u (λk t=>C7 _ _ _ _ (uF t)) j s⟩
  (λk b a r=>by
   simp only[B8,root,rF]at a;have:=((h.locs k).root (h.ft g r)).2.1;omega)
  (λc f=>(j c f).le (uI _)) rfl (λb _ a=>by simp only[B8,root,rF]at a;have:=h.mrk.1;omega)
 refine⟨_,o.setS d (x:=one1 (.box st.nx 0)) ⟨_,[],rfl,⟨w.heap.size,C4 _ _ _,rfl⟩,rfl⟩ (λc f=>?_)⟩;simp at f;subst f;exact rN _
def C5.newRowE (h:C5 za w0 st E w' Z B) (d:Tmp) {t:Ty} {e:TypeId} {l:List t.den} {v:Value} {xs:List Value} (c:w'.ownsRow w0.heap.size e t.size v l.length xs) (o:G8 (C8 t w' Z) xs l) (g:∀b,v.ownBlock=some b->¬Z b/\∀k,¬B8 w' (B k) (st.L k) b) (s:∀b,za.k0<=st.nx->v.ownBlock=some b->za.b0<=b):
 C5 za w0 (rowS st d t e l) (upd E d v) w' Z (upd B st.nx v):=by
 have i:=E9 c;have u:v.oneCell'=true:=by rcases c.2 with⟨hv,_⟩ | ⟨_,_,_,hv,_⟩<;>rw[hv]<;>rfl
 have j:=h.new (v:=v) (lc:= .row t e l) ⟨xs,by rw[C4];exact Md c (rM _),o,λb a=>by rw[C4]at a;exact⟨.inl ⟨h.nms.2,(World.ownsRow.lt c b a).1⟩,(g b a).1⟩⟩
  (λk b a n=>(g b (i.symm.trans a)).2 k n) trivial u (λb r a=>s b r (i.symm.trans a))
 refine j.setS d (x:=one1 (.row st.nx)) ⟨_,[],rfl,(C4 _ _ _).symm,rfl⟩ (λw f=>?_);simp at f;subst f;exact rN _
def C5.newRow (h:C5 za w0 st E w' Z B) (d:Tmp) {t:Ty} {e:TypeId} {l:List t.den} {v:Value} {xs:List Value} (g:w'.ownsRow w0.heap.size e t.size v l.length xs) (a:G8 (C8 t w' Z) xs l) (f:∀b,v.ownBlock=some b->¬Z b/\∀k,¬B8 w' (B k) (st.L k) b) (c:∀b,za.k0<=st.nx->v.ownBlock=some b->za.b0<=b):
 ∃B',C5 za w0 (rowS st d t e l) (upd E d v) w' Z B':=⟨_,h.newRowE d g a f c⟩
def Sa {j k e e' sz n:Nat} {v:Value} {xs i:List Value} (h:w.ownsRow j e sz v n xs) (c:w.ownsRow k e' sz v n i):xs=i:=by
 rcases h.2 with⟨b,o⟩ | ⟨z,t,x,b,_,l,_,_,_,r⟩
 . have d:=h.1;have f:=c.1;rw[o,xT]at d f;rw[qT d,qT f]
 . rcases c.2 with⟨a,_⟩ | ⟨A,u,y,a,_,g,_,_,_,s⟩
   . rw[b]at a;cases a
   . rw[b]at a;cases a;rw[l]at g;cases g;rw[<-r, <-s]
def C5.newRows (h:C5 za w0 st E w' Z B) (d:Tmp) (t:Ty) {e:TypeId} (e':TypeId) {n:Nat} {v:Value} {xs:List Value} (f:w'.ownsRow w0.heap.size e 1 v n xs) (N:∀x∈xs,x= .slice none 0 0) (A:∀b,v.ownBlock=some b->¬Z b/\∀k,¬B8 w' (B k) (st.L k) b) (H:∀b,za.k0<=st.nx->v.ownBlock=some b->za.b0<=b):
 ∃B',C5 za w0 (gI st d t e e' (List.replicate n [])) (upd E d v) w' Z B':=by
 have I:=E9 f;have M:v.oneCell'=true:=by rcases f.2 with⟨g,_⟩ | ⟨_,_,_,g,_⟩<;>rw[g]<;>rfl
 have r:∀(i:Nat) (x:Value),xs[i]? =some x->x= .slice none 0 0:=λi x c=>N x (sY c)
 have s:∀b,B8 w' v (.rows t e e' (List.replicate n []) [] none) b->v.ownBlock=some b:=λb a=>by
  rcases a with a| ⟨V,m,P,R,U,i,x,g,G,X,_,c,a⟩
  . exact I.symm.trans a
  . exfalso;rcases f.2 with⟨o,_⟩ | ⟨W,Q,T,o,_,z,Y,_,a0,J⟩
    . rw[g]at o;cases o
    . rw[g]at o;cases o;rw[G]at z;cases z;have:xs[i]? =some x:=by rw[<-J,sA ω];simpa using c
      rw[r i x this]at a;simp[root]at a
 have D:=h.new (v:=v) (lc:= .rows t e e' (List.replicate n []) [] none) ⟨xs,by rw[C4,rG];exact Md f (rM _),⟨λp u=>(by cases u),λi l x _ hl c=>⟨[],?_,?_⟩,λi j x y b _ _ _ c _ a=>?_⟩,λi x b _ c a=>?_,λb a=>?_⟩
  (λk b a F=>(A b (s b a)).2 k F) (λp u=>by cases u) M (λb hk a=>H b hk (s b a))
 . refine⟨_,D.setS d (x:=one1 (.row st.nx)) ⟨_,[],rfl,(C4 _ _ _).symm,rfl⟩ (λO w=>?_)⟩;simp at w;subst w;exact rN _
 . have:=(zU.1 (sY hl)).2;subst this;exact⟨by simp, .inl ⟨r i x c,rfl⟩⟩
 . have:=(zU.1 (sY hl)).2;subst this;rfl
 . rw[r i x c]at a;simp[root]at a
 . rw[r i x c]at a;simp[root]at a
 . rw[C4]at a;have a:=s b a;have:=World.ownsRow.lt f b a;exact⟨.inl ⟨h.nms.2,this.1⟩,(A b a).1,this.2⟩
def C5.aliasL (h:C5 za w0 st E w Z B) {k:Nat} {t:Ty} {e e':TypeId} {ls:List (List t.den)} {al:List (Nat×Nat)} {i:Nat} {v:Value} {xs:List Value} (l:st.L k= .rows t e e' ls al none) (z:w.ownsRow 0 e 1 (B k) ls.length xs) (D:AtV xs i v) (A:v.oneCell'=true):
 C5 za w0 ((st.newL (.al k)).setL k (.rows t e e' ls ((i,st.nx)::al) none)) E w Z (upd B st.nx v):=by
 have n:k<st.nx:=Fb h (by rw[l];trivial);have c:=h.new (v:=v) (lc:= .al k) trivial (λ_ _ b=>b.elim) trivial A (λ_ _ b=>b.elim);have d:(st.newL (.al k)).L k= .rows t e e' ls al none:=by rw[St.L_newL,qG (uF n),l]
 have g:=c.locs k;have j:=c.refl k;rw[d]at g j;have y:(upd B st.nx v) k=B k:=C7 _ _ _ _ (uF n);obtain⟨G,f,⟨o,r,s⟩,u,x⟩:=g;have F:xs=G:=Sa z (by rw[<-y];exact f);subst F;refine c.relc (k:=k) (lc:= .rows t e e' ls ((i,st.nx)::al) none) (by rw[d];trivial) ⟨xs,f,⟨λp a=>?_,r,s⟩,u,x⟩ (λp a=>?_) (λH b=> .inr (by rw[d];exact b))
 . rcases qX.1 a with rfl|a
   . simp only[C4];exact D
   . exact o p a
 . rcases qX.1 a with rfl|a
   . exact rN _
   . exact j p a
def C5.alias (h:C5 za w0 st E w Z B) (d:Tmp) {k:Nat} {t:Ty} {e e':TypeId} {ls:List (List t.den)} {al:List (Nat×Nat)} {i:Nat} {v:Value} {xs:List Value} (b:st.L k= .rows t e e' ls al none) (c:w.ownsRow 0 e 1 (B k) ls.length xs) (g:xs[i]? =some v) (f:v.oneCell'=true):
 ∃B',C5 za w0 (B2i st d k t e e' ls al i) (upd E d v) w Z B':=by
 refine⟨_,(h.aliasL b c (.inl g) f).setS d (x:=one1 (.row st.nx)) ⟨_,[],rfl,(C4 _ _ _).symm,rfl⟩ (λj a=>?_)⟩;simp at a;subst a;exact rN _
def C5.newMap (h:C5 za w0 st E w Z B) (d:Tmp) (g:Bool) (i:Ty) (j:Bool) (k:Ty):
 ∃B',C5 za w0 (C4l st d g i j k) (upd E d (.map (some w.heap.size))) (w.alloc (.map #[] 0)) Z B':=by
 have f:R9 w (w.alloc (.map #[] 0)):=R9.alloc w _;have l:=h.more (Z':=Z) f (λ_=>id) (λ_=> .inl);have o:∀b,Z b->b<w.heap.size:=h.zlt;have n:=l.new (v:= .map (some w.heap.size)) (lc:= .map g i j k []) ⟨w.heap.size, #[],0,C4 _ _ _, .inl ⟨h.nms.2,h.ext.size⟩,λhz=>absurd (o _ hz) (sW _),heap_alloc_new w _,⟨by simp,by simp⟩,rfl⟩
  (λs b a r=>by
   simp only[B8,root,rF]at a;have:=((h.locs s).root (h.ft f r)).2.1;omega)
  trivial rfl (λb _ a=>by simp only[B8,root,rF]at a;have:=h.mrk.1;omega)
 refine⟨_,n.setS d (x:=one1 (.mp st.nx)) ⟨_,[],rfl,(C4 _ _ _).symm,rfl⟩ (λt c=>?_)⟩;simp at c;subst c;exact rN _
def Vi {t:Ty} :∀ {i:Nat} {g:List (Nat×List C)} {a:List (Nat×Value)} {xs:List t.den},A6a w Z B g a->Sb t i g=some xs->a=((a.map (·.2)).zipIdx i).map (λx=>(x.2,x.1))/\(∀v∈a.map (·.2),v.cells.size=t.size)/\xs.length=a.length/\G8 (C8 t w Z) ((a.map (·.2)).flatMap (·.cells.toList)) xs
 |i,[],a,xs,h,b=>by cases b;rw[show a= []from h];exact⟨rfl,by simp,rfl,rfl⟩
 |i,(y,A)::D,a,xs,⟨v,E,e,n,o⟩,b=>by
  simp only[Sb]at b;cases d:Nat.beq i y with
  |false=>simp[d]at b
  |true=>
   have r:=qE d;subst r;simp only[d,qW]at b;split at b
   . rename_i x s;simp only[qM]at b;obtain⟨F,u,rfl⟩:=b;obtain⟨h,j,k,l⟩:=Vi o u;have f:=Gt n s;subst e;refine⟨?_,?_,by simp[k],⟨v.cells.toList,_,by simp,f,l⟩⟩
     . simp only[rZ,g2e];rw[<-h]
     . intro z c;simp only[rZ,qX]at c;rcases c with rfl|c
       . have:=C8.length f;simpa using this
       . exact j z (by simpa using c)
   . cases b
def C5.settleP (h:C5 za w0 st E w Z B):∀a:List (Nat×Operand),∃Z',C5 za w0 (settleP st a) E w Z' B:=by
 intro a
 induction a generalizing st Z with
 |nil=>exact⟨Z,h⟩
 |cons x a b=>
  obtain⟨Z1,a⟩:=h.settleO x.2;exact b a
def Qt {P:Program} {T e ty:TypeId} {sz len:Nat} {parts:List (Nat×Operand)} {z:Value} (vs:List Value) (d:Hg P T e sz=true) (t:Fa P e=some z) (g:len*sz<=16777216) (n:1<=sz) (y:z.cells.size=sz)
 (c:(parts.map λx=>(x.1,Gw.ev E x.2))=(vs.zipIdx 0).map λx=>(x.2,x.1)) (s:∀v∈vs,v.cells.size=sz) (b:vs.length=len):
 ∃cs:Array Value,cs.toList=vs.flatMap (·.cells.toList)/\Gw.E4 P E ty (.buildSlice T len parts.toArray) w (.slice (some ⟨w.heap.size,0,none⟩) len len) (w.alloc (.cells cs e)):=by
 by_cases a:len=0
 . subst a;have:vs= []:=qT b;subst this;refine⟨#[],rfl,λ_ _ _ _=>?_⟩;obtain⟨o,l⟩:=Js d;have f:=Gw.Fi (P:=P) (w:=w) l;have i:parts= []:=by simpa using c
   subst i;simp only[execOp];unfold Instr.buildSlice;have a:Array.range 0= #[]:=by apply Array.ext<;>simp
   simp[run_underlying o,f,Instr.fill,newRow,a]
 . obtain⟨r,j,k,u⟩:=oP sz vs 0 ((Array.range (len*sz)).map (z.cells[· %z.cells.size]!)) s (by simp[b]);refine⟨r,by rw[k];simp[b],?_⟩;have h:len*sz≠0:=by
    have:1<=len:=ω
    have:=vD this n;omega
   exact mC r d t g (by rw[c];exact j) h
def GV {P:Program} {o:Nat} {t ty e:TypeId} {i:TypeInfo} {z:Value} {size:Nat} (k:P.underlying t=some (.slice e)) (f:P.info? e=some i) (D:i.zero=some z) (I:i.size=size) (a1:z.cells.size=size) (a0:0<size)
 {v:Value} {n:Nat} {xs:List Value} (d:w.ownsRow o e size v n xs) {ao:Option Addr} {m c:Nat} {news:List Value} (h:news.length=m*size) (V:∀a,ao=some a->I6 w a news) (X:ao=none->m=0/\c=0) (E:∀u∈news,u.oneCell'=true)
 (a3:n+m<=9223372036854775807) (B:(n+m)*i.bytes<=140737488355328) (M:o<=w.heap.size):
 ∃l w',(Builtin.append_ #[t,t] ty #[v, .slice ao m c]).run P w= .ok l w'/\w'.ownsRow o e size l (n+m) (xs++news)/\w.grownBy w' v.ownBlock/\(l.ownBlock=v.ownBlock\/l.ownBlock=some w.heap.size)/\w.drawn<=w'.drawn:=by
 cases ao with
 |none=>
  obtain⟨rfl,rfl⟩:=X rfl;have b:news= []:=qT (by simpa using h);subst b;refine⟨v,w,run_append_owned_none (P:=P) w o t ty e i size k f v n xs d,by simpa using d,⟨rfl,rfl,rfl,qP _,λ_ _ _=>rfl⟩, .inl rfl,qP _⟩
 |some a=>
  by_cases T:m=0
  . subst T;have W:news= []:=qT (by simpa using h);subst W;have b:(Builtin.append_ #[t,t] ty #[v, .slice (some a) 0 c]).run P w= .ok v w:=by
     have F:(loadCells a 0).run P w= .ok #[] w:=by simpa using run_loadCells_list (P:=P) w a [] (by simp)
     rcases d.2 with⟨rfl,rfl⟩ | ⟨g,s,A,rfl,_,_,G,_⟩
     . simp[Builtin.append_,run_underlying k,sizeOf,typeInfo,f,Builtin.lenOf,Builtin.firstCells,F]
     . simp[Builtin.append_,run_underlying k,sizeOf,typeInfo,f,Builtin.lenOf,Builtin.firstCells,G,storeCells,F]
    exact⟨v,w,b,by simpa using d,⟨rfl,rfl,rfl,qP _,λ_ _ _=>rfl⟩, .inl rfl,qP _⟩
  . have U:n+m<=maxLen:=by simp only[maxLen];omega
    have y:=V a rfl;obtain⟨l,a2,b,Z,R,_⟩:=run_append_own (P:=P) w o t ty e i z size i.bytes k f D I rfl a1 a0 v n xs d a m c news h y E U B M;refine⟨l,a2,b,Z,R,?_⟩;subst I;rcases d.2 with⟨rfl,rfl⟩ | ⟨x,s,A,rfl,_,O,G,_,N,_⟩
    . have J:m*i.bytes<=281474976710656:=by simp only[rY]at B;omega
      have r:=run_append_nil (P:=P) w t ty e i z k f D a m c news h y ω ω J;rw[r]at b;cases b;exact⟨.inr rfl,by simp[World.drawn_alloc,World.drawn_drew]<;>omega⟩
    . by_cases H:n+m<=s
      . have Q:n*i.size+news.length<=A.size:=by rw[h,N, <-vC];exact rC _ H
        have r:=run_append_room (P:=P) w t ty e i k f x n s A O a m c news h y E H Q;rw[r]at b;cases b;exact⟨.inl rfl,by simp<;>omega⟩
      . have Y:∀j u,xs[j]? =some u->w.cell? ((⟨x,0,none⟩:Addr).add j)=some u:=d.cells (g:=x) rfl;have r:=run_append_grow (P:=P) w t ty e i z k f D ⟨x,0,none⟩ n s xs d.1 Y a m c news h y ω ω (growslice_fits ω B);rw[r]at b;cases b;exact⟨.inr rfl,by simp[World.drawn_alloc,World.drawn_drew]<;>omega⟩
def WN (h:C5 za w0 st E w Z B) {t:Ty} {c:C} {l:List t.den} {v:Value} (n:RC w Z B c v) (b:Wg st t c=some l):
 ∃ao f D,v= .slice ao l.length f/\l.length<=f/\(ao=none->f=0)/\(∀a,ao=some a->I6 w a D)/\G8 (C8 t w Z) D l:=by
 unfold Wg at b;split at b
 . rename_i d u;split at b
   . rename_i z;subst z;cases b;obtain⟨a,f,G,T,_,g,j⟩:=n;simp only[sN,vR]at G;rcases j with j| ⟨aa,ai,D,i,O,a1,y⟩
     . subst j;exact⟨a,f,[],G,T,g,λ_ _ a4 a6 J=>by simp at J,rfl⟩
     . subst i;exact⟨_,f,D,G,T,g,λa i=>by cases i;exact a1,y⟩
   . cases b
 . rename_i F;split at b
   . rename_i d W u M;split at b
     . rename_i z;subst z;cases b;have x:=h.locs F;rw[M]at x;obtain⟨A,r,y,_⟩:=x;have n:v=B F:=n;rcases r.2 with⟨s,g⟩ | ⟨H,f,ab,s,_,_,a3,_⟩
       . have:u= []:=qT g;subst this;exact⟨none,0,[],by rw[n,s];rfl,qP _,λ_=>rfl,λa i=>(by cases i),rfl⟩
       . exact⟨some ⟨H,0,none⟩,f,A,by rw[n,s],a3,λj=>(by cases j),λa i=>by cases i;exact Ig r s,y⟩
     . cases b
   . cases b
 . rename_i F sz k o;split at b
   . rename_i d W u M;split at b
     . rename_i z;subst z;cases N:Nat.beq sz d.size with
       |false=>simp only[N,rI]at b;cases b
       |true=>
        simp only[N,qW]at b;cases b;have:=qE N;subst this;have x:=h.locs F;rw[M]at x;obtain⟨A,r,y,_⟩:=x;obtain⟨a,a5,f,P,X,Y,ac,ad,ae,af,ag,s⟩:=n;have g:a5=u.length:=by
         rcases r.2 with⟨j,U⟩ | ⟨_,_,_,j,_⟩<;>rw[P]at j<;>cases j
         . exact U.symm
         . rfl
        subst g;have R:((u.take o.toNat).drop k.toNat).length=o.toNat-k.toNat:=by simp;omega
        refine⟨_,_,(A.take (o.toNat*d.size)).drop (k.toNat*d.size),by rw[s,R],by rw[R];omega,λO=>?_,λa9 I=>?_,G8.drop (λ_ _ h=>C8.length h) k.toNat (G8.take (λ_ _ h=>C8.length h) o.toNat y)⟩
        . split at O
          . omega
          . have:=Y (by simpa using O);omega
        . by_cases a2:f=k.toNat
          . intro a4 a6 J;have Q:=QH J;rw[sV,qZ]at Q;have ah:A.length=u.length*d.size:=r.1;have a0:k.toNat=o.toNat:=ω
            rw[a0]at Q;omega
          . rw[qG a2]at I;cases a with
            |none=>cases I
            |some a8=>
             obtain⟨H,rfl⟩:=X a8 rfl;cases I;show I6 w ((⟨H,0,none⟩:Addr).add (k.toNat*d.size)) _;rw[L5,rY];have U:=L8 (Ig r P) 0 (o.toNat*d.size);rw[uB,tA]at U;have V:=L8 U (k.toNat*d.size) ((A.take (o.toNat*d.size)).drop (k.toNat*d.size)).length;rw[uZ,rY]at V;exact V
     . cases b
   . cases b
 . rename_i a7;cases g:Ur a7 with
   |false=>simp[g]at b
   |true=>
    simp[g]at b;subst b;exact⟨none,0,[],by rw[n.1,Gi g];rfl,qP _,λ_=>rfl,λa i=>(by cases i),rfl⟩
 . cases b
def Gh {P:Program} {T:TypeId} {ti:TI} {t:Ty} (h:Vv P T ti=true) (j:ti.ty= .sl t):∃i z,P.underlying T=some (.slice ti.elem)/\P.info? ti.elem=some i/\i.zero=some z/\i.size=t.size/\z.cells.toList=Dy t/\z.cells.size=t.size/\i.bytes=ti.bytes/\Hg P T ti.elem t.size=true:=by
 obtain⟨b,g,i,c,k⟩:=DT h j;obtain⟨n,a⟩:=Js b;obtain⟨z,d,f⟩:=Fy g;unfold Fa at d;unfold Tc at a;simp only[c,wI]at d;simp only[c,g1s]at a;have l:(Dy t).length=t.size:=by
  clear f a b g j
  induction t with
  |pair o r g j=>simp[Dy,Ty.size,g,j]
  | _=>rfl
 exact⟨i,z,n,c,d,a,f,by rw[<-sE,f,l],k,b⟩
def Jr {ty t:Ty} (h:slT ty=some t):ty= .sl t:=by
 unfold slT at h;split at h
 . cases h;rfl
 . cases h
variable {all:List Oper} {ty:TypeId} {pos:String} {aft:Array Edge} {g:Option (Nat×Bool)} {k:St->Prop}
def F4 (E:H2):Q5 E []:=λ_ _ h=>by cases h
def G8.of_index {α:Type} {R:List Value->α->Prop} {s:Nat} :∀ {l:List α} {cs:List Value},cs.length=l.length*s->(∀(i:Nat) (x:α),l[i]? =some x->R ((cs.drop (i*s)).take s) x)->G8 R cs l
 | [],cs,a,_=>qT (by simpa using a)
 |x::l,cs,a,h=>by
  have b:cs.length=s+l.length*s:=by rw[a,rK,tX,vT]
  refine⟨cs.take s,cs.drop s,(uT s cs).symm,?_,G8.of_index (s:=s) (by rw[sV];omega) (λi y a=>?_)⟩
  . have:=h 0 x rfl;simpa using this
  . have:=h (i+1) y (by simpa using a);rw[tX,vT, <-wB]at this;exact this
def OI {t:Ty} {z:Array Value} (g:z.toList=Dy t) (u:Rp t=true) (f:z.size=t.size) (c l:Nat) (d:l<=c):G8 (C8 t w Z) ((madeCells z (c*t.size)).toList.take (l*t.size)) (List.replicate l t.dflt):=by
 have r:((madeCells z (c*t.size)).toList.take (l*t.size)).length=l*t.size:=by
  rw[qZ,sE,size_madeCells];exact tG (rC _ d)
 refine G8.of_index (s:=t.size) (by rw[r,rG]) (λi x b=>?_);have o:i<l:=by have:=QH b;simpa using this
 have v:x=t.dflt:=by
  have:=sY b;exact(zU.1 this).2
 subst v;have n:(((madeCells z (c*t.size)).toList.take (l*t.size)).drop (i*t.size)).take t.size=Dy t:=by
  have B:(Dy t).length=t.size:=by rw[<-g,sE,f]
  have y:i*t.size+t.size<=l*t.size:=by rw[<-tX];exact rC _ o
  have A:l*t.size<=c*t.size:=rC _ d;apply xQ;intro j;by_cases a:j<t.size
  . rw[wD,qJ a,xI,wD,qJ ω];have h:(i*t.size+j)%z.size=j:=by rw[f,sG,g2x,uE a]
    have k:(madeCells z (c*t.size)).toList[i*t.size+j]? =some (z[(i*t.size+j)%z.size]!):=by
     simp only[madeCells,wR,Array.getElem?_map];rw[Array.getElem?_range,qJ ω];rfl
    rw[k,h, <-g,wR];rw[vJ ω,g1h z j ω]
  . rw[wD,qG a,rT ω]
 rw[n];exact NC u
def pV (h:C5 za w0 st E w Z B) (Q:G9 cx.P cx.tys=true) {T:TypeId} {x:Operand} (b:fM cx st d T x=some st'):∃v B',(∀w',R9 w w'->Gw.E4 cx.P E ty (.load T x) w' v w')/\C5 za w0 st' (upd E d v) w Z B':=by
 unfold fM at b;simp only[qI,bind_some]at b;obtain⟨ti,O,a1,⟨a0,I,J⟩,b⟩:=b;split at b
 . rename_i q sz i Y;split at b
   . rename_i a8 e a3 W al s;cases f:Nat.beq sz 1&&Nat.beq Y 0&& !ti.agg with
     |false=>simp only[f,rI]at b;cases b
     |true=>
      simp only[f,qW]at b;cases b;simp only[qC,rP]at f;have N:=qE f.1.1;have H:=qE f.1.2;subst N H;have M:Dt cx.P T=true:=by
       rcases(L3 (C3 Q O)).2.1 with⟨j,_⟩ | ⟨_,j,_⟩
       . rw[f.2]at j;cases j
       . exact j
      obtain⟨g,X,a2,l,D,k⟩:=(h.c1 (F4 E) (bind_some.2 ⟨a0,I,J⟩)).1;have o:=h.locs q;rw[s]at o;obtain⟨t,c,⟨a4,u,a5⟩,a6,a7⟩:=o;have G:X=W.length:=by
       rw[l]at c;rcases c.2 with⟨j,_⟩ | ⟨_,_,_,j,_⟩<;>cases j
       rfl
      subst G;have V:i<t.length:=by have:=c.1;omega
      have n:=qQ V;have r:=Ig c l i _ n;rw[L5,rY]at r;have F:=qQ D;obtain⟨a9,y,_⟩:=u i _ _ rfl F n;have R:(t[i]).oneCell'=true:=by rcases y.2 with⟨k,_⟩ | ⟨_,_,_,k,_⟩<;>rw[k]<;>rfl
      obtain⟨B',z⟩:=h.alias d s c n R;refine⟨_,B',λw' U=>mE k M ?_,z⟩;have A:g<w.heap.size:=by rw[l]at c;exact(World.ownsRow.lt c g rfl).2
      have e:=World.cell?_of_block (a:=⟨g,i,none⟩) (U.block g A);rw[(ω:i*1+0=i),e];exact r
   . cases b
 . cases b
def B0y {P:Program} {w:World} {f sT ty elem:TypeId} {size g a dCap c:Nat} {d:Value} {cur:Array Value} {t:TypeId} {cs:List Value} (s:P.underlying f=some (.slice elem)) (h:(P.info? elem).map (·.size)=some size)
 (n:w.heap[g]? =some (.cells cur t (0,0))) (r:(Builtin.lenOf d).run P w= .ok c w) (k:(Builtin.firstCells size (Nat.min c a) d).run P w= .ok cs.toArray w) (l:cs.length<=cur.size) (j:∀v∈cs,v.oneCell'=true):
 (Builtin.copy_ #[f,sT] ty #[.slice (some ⟨g,0,none⟩) a dCap,d]).run P w= .ok (goInt (Nat.min c a)) (w.setRow g (cs++cur.toList.drop cs.length).toArray):=by
 have i:=run_storeCells_at P g 0 t cs 0 cur w n (by simpa using l) j;cases b:P.info? elem with
 |none=>simp[b]at h
 |some u=>
  have o:u.size=size:=by simpa[b]using h
  simp only[rY,g0g,wP]at i;simp[Builtin.copy_,run_underlying s,r,sizeOf,typeInfo,b,o,k,i]
def B0x {P:Program} {w:World} {c sT ty elem:TypeId} {size dCap k:Nat} {b:Value} (i:P.underlying c=some (.slice elem)) (d:(P.info? elem).map (·.size)=some size)
 (h:(Builtin.lenOf b).run P w= .ok k w) (f:(Builtin.firstCells size 0 b).run P w= .ok #[] w):
 (Builtin.copy_ #[c,sT] ty #[.slice none 0 dCap,b]).run P w= .ok (goInt 0) w:=by
 cases a:P.info? elem with
 |none=>simp[a]at d
 |some j=>
  have g:j.size=size:=by simpa[a]using d
  simp[Builtin.copy_,run_underlying i,h,sizeOf,typeInfo,a,g,f]
def B3h (h:C5 za w0 st E w Z B) (b5:G9 cx.P cx.tys=true) {T sT:TypeId} {x y:Operand} (f:nX cx st d T x y=some st'):∃v w' B',Gw.E4 cx.P E ty (.call ⟨.builtin .copy, #[x,y], #[T,sT]⟩) w v w'/\C5 za w0 st' (upd E d v) w' Z B':=by
 simp only[nX,qI,bind_some]at f;obtain⟨ti,b3,bn,U,D,⟨b9,ah,ai⟩,z,⟨ba,ak,am⟩,a,b8,f⟩:=f;have U:=Jr U;obtain⟨bm,af,aa,av,ad,b2,bk,bl,bg,bj⟩:=Gh (C3 b5 b3) U;obtain⟨b6,_⟩:=h.c1 (F4 E) (bind_some.2 ⟨b9,ah,ai⟩);obtain⟨b7,_⟩:=h.c1 (F4 E) (bind_some.2 ⟨ba,ak,am⟩);obtain⟨ag,bb,c,ab,bh,ax,an,O⟩:=WN h b7 b8;cases D with
 |row k=>
  simp only at f;split at f
  . rename_i b e l t;split at f
    . rename_i aq;subst aq;cases a1:HJ (.row k) z with
      |false=>simp only[a1,rI]at f;cases f
      |true=>
       simp only[a1,qW]at f;cases f;have X:=h.locs k;rw[t]at X;obtain⟨ae,Q,a2,I⟩:=X;have W:Gw.ev E x=B k:=b6;have a6:(Builtin.lenOf (Gw.ev E y)).run cx.P w= .ok a.length w:=by rw[ab];rfl
       have a5:(cx.P.info? ti.elem).map (·.size)=some b.size:=by rw[av,wQ,b2]
       have bi:Nat.min a.length l.length=min a.length l.length:=rfl;have N:c.length=a.length*b.size:=O.length (λi x=>C8.length);have a3:(Builtin.firstCells b.size (Nat.min a.length l.length) (Gw.ev E y)).run cx.P w= .ok (c.take (min a.length l.length*b.size)).toArray w:=by
        rw[ab];cases ag with
        |none=>
         have:a= []:=qT (by have:=ax rfl;omega);subst this;simp[Builtin.firstCells]
        |some D=>
         have F:(c.take (min a.length l.length*b.size)).length=min a.length l.length*b.size:=by
          rw[qZ,N];exact tG (rC _ (g2v ..))
         have:=run_loadCells_list (P:=cx.P) w D (c.take (min a.length l.length*b.size)) (λj v hj=>an D rfl j v (by
          have J:=QH hj;rw[sA ω]at hj;exact hj))
         rw[F]at this;exact this
       have b0:∀u∈c.take (min a.length l.length*b.size),u.oneCell'=true:=λu hu'=>O.oneCell u (sB hu')
       have ac:∀m:Nat,m<=l.length->RC w Z B (.val (.int .i64) (m:Int)) (.int .i64 (m:Int)):=λm hm=>by
        have:l.length<=maxLen:=by
         rcases Q.2 with⟨_,V⟩ | ⟨_,_,_,_,_,_,J,aj,_⟩
         . omega
         . omega
        refine⟨rfl,?_⟩;unfold OE;simp only[maxLen]at this;constructor
        . change(-9223372036854775808:Int)<= _;omega
        . change _ <=(9223372036854775807:Int);omega
       have a7:(min (a.length:Int) (l.length:Int))=((min a.length l.length:Nat):Int):=ω
       rcases Q.2 with⟨s,V⟩ | ⟨g,G,n,s,au,a4,ay,ao,ap,b4⟩
       . have aw:l= []:=qT V;subst aw;have R:=B0x (sT:=sT) (ty:=ty) (dCap:=0) aa a5 a6 (by simpa using a3);refine⟨goInt 0,w,B,λ_ _ _ _=>by simp[execOp,resolve,invoke,builtin,W,s,R],?_⟩;have H:C5 za w0 (st.setL k (.row b e (Ll [] a))) E w Z B:=by
          have J:Ll ([]:List b.den) a= []:=by simp[Ll]
          rw[J];exact h.relc (by rw[t];trivial) ⟨ae,Q,a2,I⟩ trivial (λz aj=> .inl aj)
         refine H.setS d ?_ (λi A=>by simp at A;subst A;trivial);rw[a7,show min a.length ([]:List b.den).length=0 from Nat.min_zero _];exact⟨_,_,rfl,ac _ (by simp),rfl⟩
       . have ar:(c.take (min a.length l.length*b.size)).length<=n.size:=by
          rw[qZ,N,ap];have J:min a.length l.length*b.size<=G*b.size:=rC _ ω;omega
         have F:(c.take (min a.length l.length*b.size)).length=min a.length l.length*b.size:=by
          rw[qZ,N];exact tG (rC _ (g2v ..))
         have R:=B0y (sT:=sT) (ty:=ty) (dCap:=G) aa a5 a4 a6 a3 ar b0;refine⟨goInt (Nat.min a.length l.length),w.setRow g (c.take (min a.length l.length*b.size)++n.toList.drop (c.take (min a.length l.length*b.size)).length).toArray,B,λ_ _ _ _=>by simp[execOp,resolve,invoke,builtin,W,s,R],?_⟩;generalize a0:(c.take (min a.length l.length*b.size)++n.toList.drop (c.take (min a.length l.length*b.size)).length).toArray=r;have Y:UY g w (w.setRow g r):=⟨rfl,rfl,⟨rfl,qP _⟩,by simp,λk t=>setRow_other w g k _ t⟩;have b1:root (B k)=some g:=by rw[s];rfl
         obtain⟨bf,az⟩:=I g (by rw[s];rfl);have a9:O2 Z w (w.setRow g r):=λaf ad=>Y.2.2.2.2 af (λo=>az (o▸ad))
         have a8:G8 (C8 b (w.setRow g r) Z) (c.take (min a.length l.length*b.size)++ae.drop (min a.length l.length*b.size)) (Ll l a):=by
          have J:Ll l a=a.take (min a.length l.length)++l.drop (min a.length l.length):=by
           unfold Ll;rcases Nat.le_total a.length l.length with o|o
           . rw[tG o,qS o,qS (qP _)]
           . rw[Nat.min_eq_right o,sJ o,sJ (qP _)]
          rw[J];refine G8.append ?_ ?_
          . exact(O.take (λi x=>C8.length) _).mono λi x=>C8.mono (λ_=>id) a9
          . exact(a2.drop (λi x=>C8.length) _).mono λi x=>C8.mono (λ_=>id) a9
         have M:(Ll l a).length=l.length:=by
          unfold Ll;rw[rR,qZ,sV];omega
         have H:C5 za w0 (st.setL k (.row b e (Ll l a))) E (w.setRow g r) Z B:=by
          refine h.chg (by rw[t];trivial) (by rw[t];exact b1) Y ⟨_,⟨?_, .inr ⟨g,G,r,?_,au,setRow_heap w g n _ e _ a4,?_,ao,?_,?_⟩⟩,a8,λz J=>?_⟩ trivial (λz J=> .inl J)
          . rw[a8.length (λi x=>C8.length)]
          . rw[M];exact s
          . rw[M];exact ay
          . have aj:n.toList.length=n.size:=sE;have bc:r.size=(c.take (min a.length l.length*b.size)).length+(n.toList.length-(c.take (min a.length l.length*b.size)).length):=by
             rw[<-a0, <-sV, <-rR];rfl
            omega
          . rw[M, <-a0,F, <-b4,g1n,g0q];have be:min a.length l.length*b.size<=l.length*b.size:=rC _ ω;rw[F,qS ω]
          . exact I z J
         refine H.setS d ?_ (λi A=>by simp at A;subst A;trivial);rw[a7];exact⟨_,_,rfl,(ac _ ω),rfl⟩
    . cases f
  . cases f
 | _=>simp at f
def C6o:LC->Bool
 | .al _=>true
 | _=>false
def A0u {v:Value} {e h:TypeId} {n d g f j:Nat} {xs:List Value} {cur:Array Value} {x:Value} (i:w.ownsRow 0 e 1 v n xs) (c:v= .slice (some ⟨g,0,none⟩) d f) (k:w.heap[g]? =some (.cells cur h (0,0))) (u:j<d) (o:cur[j]? =some x):xs[j]? =some x:=by
 rcases i.2 with⟨a,_⟩ | ⟨t,r,s,a,_,b,y,_,z,l⟩
 . rw[c]at a;cases a
 . rw[c]at a;cases a;rw[k]at b;cases b;rw[<-l,sA ω];simpa using o
def C5.detach (h:C5 za w0 st E w Z B) {k q i:Nat} {t:Ty} {e e':TypeId} {ls:List (List t.den)} {al:List (Nat×Nat)} (n:st.L k= .rows t e e' ls al none) (a6:st.L q= .al k) (T:FM q al=some i) (af:st.nm<=k) (ai:st.nm<=q) (a1:za.b0=0):
 C5 za w0 ((st.setL k (.rows t e e' ls [] (some i))).setL q (.row t e' (ls.getD i []))) E w Z B:=by
 have Q:=h.locs k;have R:=h.refl k;rw[n]at Q R;obtain⟨I,r,⟨O,P,u⟩,v,z⟩:=Q;have W:=La T;have H:∀b,root (B q)=some b->I[i]? =some (B q):=λb d=>(O (i,q) W).resolve_right λhh=>by rw[hh.2]at d;simp[root]at d
 obtain⟨_,ae,_,_,a0,ac⟩:=lH ⟨I,r,⟨O,P,u⟩,v,z⟩ T;have a7:q<st.nx:=R (i,q) W;have ah:k≠q:=λhh=>by rw[hh,a6]at n;cases n
 have X:∀b,B8 w (B k) (.rows t e e' ls [] (some i)) b->B8 w (B k) (.rows t e e' ls al none) b:=λb d=>by
  rcases d with d| ⟨g,Y,J,M,N,j,x,G,A,V,_,o,d⟩
  . exact .inl d
  . exact .inr ⟨g,Y,J,M,N,j,x,G,A,V,rfl,o,d⟩
 have a9:C5 za w0 (st.setL k (.rows t e e' ls [] (some i))) E w Z B:=
  h.relc (by rw[n];trivial) ⟨I,r,⟨λp F=>(by cases F),λj l x _ hl o=>P j l x rfl hl o,λa c x y b hac _ _ hxa hyc=>u a c x y b hac rfl rfl hxa hyc⟩,λj x b _ o=>v j x b rfl o,λb d=>z b (X b d)⟩ (λp F=>(by cases F)) (λb d=> .inr (by rw[n];exact X b d))
 have a8:=E9 a0;have U:∀b,root (B q)=some b->B8 w (B k) (.rows t e e' ls al none) b:=λb d=>Rm r rfl (H b d) d
 refine a9.addL (k:=q) a7 ⟨ae,a0,ac,λb d=>?_⟩ (λj b V d f=>?_) trivial (λb _ _=>by rw[a1];exact rM _)
 . obtain⟨s,ad,_⟩:=z b (U b (a8.trans d));refine⟨.inl ?_,ad⟩;have ag:=h.nms.1;rcases s with s|s
   . exact⟨ω,s.2⟩
   . omega
 . have d:root (B q)=some b:=d;rw[St.L_setL]at f;by_cases D:j=k
   . subst D;rw[qJ rfl]at f;rcases f with f| ⟨g,Y,J,M,N,m,x,G,A,a5,a3,aa,a2⟩
     . exact v i (B q) b rfl (H b d) d f
     . have ab:=A0u r G A a5 aa;have a4:i≠m:=λhh=>by
        subst hh;simp[Ea]at a3
       exact u i m (B q) x b a4 rfl rfl (H b d) ab d a2
   . rw[qG D]at f;exact h.disj k j b (Ne.symm D) (by rw[n];exact U b d) f
def C5.detO (h:C5 za w0 st E w Z B) (x:Operand) (a:za.b0=0\/∀k,(st.ev [] x).bind Vc.c1=some (C.row k)->C6o (st.L k)=false):C5 za w0 (Vc.detO st x) E w Z B:=by
 unfold Vc.detO;split
 . rename_i i d;unfold B8r;split
   . rename_i q;split
     . rename_i k c;split
       . rename_i t e j n al g;split
         . rename_i l f;cases b:Nat.ble st.nm k&&Nat.ble st.nm q with
           |false=>exact h
           |true=>
            simp only[qC]at b;rcases a with a|a
            . exact h.detach g c f (qR b.1) (qR b.2) a
            . have:=a q d;rw[c]at this;cases this
         . exact h
       . exact h
     . exact h
   . exact h
 . exact h
def B8s (st:St) (x:Operand) (ctx:Iy) (y:Operand):(detO st x).ev ctx y=st.ev ctx y:=by
 have d:∀(b:Bool) (c a:St),c.ev ctx y=a.ev ctx y->(bif b then c else a).ev ctx y=a.ev ctx y:=by
  intro b c a h;cases b
  . rfl
  . exact h
 unfold detO;split
 . unfold B8r;split
   . split
     . split
       . split
         . exact d _ _ _ rfl
         . rfl
       . rfl
     . rfl
   . rfl
 . rfl
def kP (k0:Nat) (st:St):Op->Bool
 | .call ⟨.builtin .append,a,_⟩=>match a.toList with
  |x:: _=>(match(st.ev [] x).bind c1 with
   |some (.row k)=>Nat.ble k0 k&& !(C6o (st.L k))
   | _=>true)
  | _=>true
 | _=>true
def B8v {av:Op} (h:C5 za w0 st E w Z B) (bo:za.b0=0\/∀op,op=av->kP za.k0 st op=true) (a0:G9 cx.P cx.tys=true) (a:B3s cx st d av=some (φ,st')) (b3:FN φ) (H:k st') (O:E1 all ⟨some d,av,ty,pos,aft,g⟩ E=true):J6 cx.P all ⟨some d,av,ty,pos,aft,g⟩ (dY za w0 w (wrB av) k) E w:=by
 unfold B3s at a;split at a
 . simp only[qI,bind_some]at a;obtain⟨s,cr,a⟩:=a;cases o:s.cs.all Fc with
   |false=>simp only[o,rI]at a;cases a
   |true=>
    simp only[o,qW]at a;cases a;obtain⟨y,ae⟩:=h.ev (F4 E) cr;obtain⟨B',am⟩:=h.newBox d (T:= _) (RS.cells h y o) ae;exact R7 (C8t rfl) O ⟨λ_=>R9.alloc w _,_,_,_,am,H⟩
 . simp only[qI,bind_some]at a;obtain⟨ti,N,a⟩:=a;cases a;obtain⟨J,z,ad⟩:=Fy (L3 (C3 a0 N)).2.2;have am:=Cn (w:=w) (Z:=Z) (B:=B) (n:=st.nx) (Dy ti.ty);obtain⟨B',W⟩:=h.newBox d (T:= _) (vs:=J.cells) (by rw[ad];exact am.1) am.2;exact R7 (A8q z) O ⟨λ_=>R9.alloc w _,_,_,_,W,H⟩
 . rename_i T len bv;simp only[qI,bind_some]at a;obtain⟨ti,N,t,U,de,cn,xs,cy,a⟩:=a;have U:=Jr U;cases o:Nat.beq xs.length len&&Nat.ble (len*t.size) 16777216&&Nat.ble 1 t.size with
   |false=>simp only[o,rI]at a;cases a
   |true=>
    simp only[o,qW]at a;cases a;simp only[qC]at o;obtain⟨bb,J,I,b1,z,b9,ad,b7,f,b4⟩:=Gh (C3 a0 N) U;obtain⟨Z1,y⟩:=h.settleP bv.toList;obtain⟨ae,am⟩:=Lp y (F4 E) cn;obtain⟨ab,ag,an,G⟩:=Vi ae cy;have ay:=qE o.1.1;have b6:Fa cx.P ti.elem=some J:=by simp[Fa,b1,z]
    obtain⟨j,a1,a5⟩:=Qt (w:=w) (ty:=ty) (len:=len) _ b4 b6 (qR o.1.2) (qR o.2) b7 ab ag (by rw[sU, <-an,ay]);have r:R9 w (w.alloc (.cells j ti.elem)):=R9.alloc w _;have W:=y.more (Z':=Z1) r (λ_=>id) (λ_=> .inl);have ac:O2 Z1 w (w.alloc (.cells j ti.elem)):=λi f=>r.block i (y.zlt i f)
    have A:j.toList.length=len*t.size:=by rw[a1,G8.length (λ_ _ h=>C8.length h) G,ay]
    have b2:(w.alloc (.cells j ti.elem)).ownsRow w0.heap.size ti.elem t.size (.slice (some ⟨w.heap.size,0,none⟩) len len) xs.length j.toList:=by
     rw[ay];refine⟨A, .inr ⟨w.heap.size,len,j,rfl,h.ext.size,Fj w _ _,qP _,?_,by simpa using A,by rw[<-A,uZ]⟩⟩;have M:=qR o.1.2;have ax:=qR o.2;have:len*1<=len*t.size:=rV _ ax;simp only[maxLen];omega
    obtain⟨B',M⟩:=W.newRow d (t:=t) (e:=ti.elem) (l:=xs) b2 (by rw[a1];exact G.mono λ_ _=>C8.mono (λ_=>id) ac) (λi f=>by
     simp only[Value.ownBlock,rF]at f;refine⟨λz=>?_,λq b=>?_⟩
     . have:=y.zlt i z;omega
     . have:=((y.locs q).root (y.ft r b)).2.1;omega) (λi _ f=>by simp only[Value.ownBlock,rF]at f;have:=h.mrk.1;omega)
    have:=R7 (pos:=pos) (aft:=aft) a5 (by simpa using O) (show dY za w0 w (wrB (.buildSlice T len bv)) k _ _ from⟨λ_=>r,_,_,_,M,H⟩);simpa using this
 . rename_i T bu bh;simp only[qI,bind_some]at a;obtain⟨ti,N,t,U,l,u,c,D,a⟩:=a;have U:=Jr U;cases bs:ti.rows with
   |true=>
    simp only[bs,qW,qM]at a;obtain⟨d5,A,a⟩:=a;cases a;unfold XM at A;split at A
    case h_2=>cases A
    rename_i G b1;rw[U]at b1;cases b1;simp only[qM]at A;obtain⟨bq,_,A⟩:=A;subst A;obtain⟨b6,b7,b9,bb⟩:=b3;obtain⟨an,J,I,bc,z,ag,ad,b2,f,bw⟩:=Gh (C3 a0 N) U;obtain⟨bm,aj,_⟩:=h.int (F4 E) u;obtain⟨bp,b4,_⟩:=h.int (F4 E) D;have a4:=run_make (P:=cx.P) w T ti.elem an J I bc z bm bp l c b6 b7 (by rw[f];exact b9) bb;have a5:Gw.E4 cx.P E ty (.makeSlice T bu bh) w (.slice (some ⟨w.heap.size,0,none⟩) l.toNat c.toNat) (w.alloc (.cells (madeCells J.cells (c.toNat*an.size)) ti.elem)):=λ_ _ _ _=>by simp[execOp,aj,b4,a4]
    generalize a1:madeCells J.cells (c.toNat*an.size)=j at a5;have bj:(Ty.sl G).size=1:=rfl;rw[bj]at ag b2;have ax:j.size=c.toNat*1:=by rw[<-a1, <-ag];simp[madeCells]
    have r:R9 w (w.alloc (.cells j ti.elem)):=R9.alloc w _;have W:=h.more (Z':=Z) r (λ_=>id) (λ_=> .inl);have ab:l.toNat<=c.toNat:=ω
    have bt:G8 (C8 (.sl G) (w.alloc (.cells j ti.elem)) Z) (j.toList.take (l.toNat*1)) (List.replicate l.toNat (Ty.sl G).dflt):=by
     rw[<-a1,ag];exact OI ad rfl b2 _ _ ab
    have bi:(w.alloc (.cells j ti.elem)).ownsRow w0.heap.size ti.elem 1 (.slice (some ⟨w.heap.size,0,none⟩) l.toNat c.toNat) l.toNat (j.toList.take (l.toNat*1)):=by
     refine⟨?_, .inr ⟨w.heap.size,c.toNat,j,rfl,h.ext.size,Fj w _ _,ab,?_,ax,rfl⟩⟩
     . rw[qZ,sE,ax];exact tG (rC _ ab)
     . simp only[maxLen];omega
    have be:∀x∈j.toList.take (l.toNat*1),x= .slice none 0 0:=λx r=>by
     have r:=sB r;rw[<-a1]at r;simp only[madeCells,g2b,tU]at r;obtain⟨bx,_,rfl⟩:=r;have bk:J.cells.toList= [.slice none 0 0]:=ad;have bl:J.cells= #[.slice none 0 0]:=by rw[<-uG (xs:=J.cells),bk]
     rw[bl];simp[g5g]
    obtain⟨B',M⟩:=W.newRows d G bq.elem bi be (λi f=>by
     simp only[Value.ownBlock,rF]at f;refine⟨λz=>?_,λq b=>?_⟩
     . have:=h.zlt i z;omega
     . have:=((h.locs q).root (h.ft r b)).2.1;omega) (λi _ f=>by simp only[Value.ownBlock,rF]at f;have:=h.mrk.1;omega)
    exact R7 a5 O ⟨λ_=>r,_,_,_,M,H⟩
   |false=>
   simp only[bs,rI]at a;cases o:Rp t with
   |false=>simp only[o,rI]at a;cases a
   |true=>
    simp only[o,qW]at a;cases a;obtain⟨ax,b1,b2,b4⟩:=b3;obtain⟨G,J,I,b7,z,ag,ad,bb,f,bi⟩:=Gh (C3 a0 N) U;obtain⟨bc,aj,_⟩:=h.int (F4 E) u;obtain⟨be,an,_⟩:=h.int (F4 E) D;have a4:=run_make (P:=cx.P) w T ti.elem G J I b7 z bc be l c ax b1 (by rw[f];exact b2) b4;have a5:Gw.E4 cx.P E ty (.makeSlice T bu bh) w (.slice (some ⟨w.heap.size,0,none⟩) l.toNat c.toNat) (w.alloc (.cells (madeCells J.cells (c.toNat*G.size)) ti.elem)):=λ_ _ _ _=>by simp[execOp,aj,an,a4]
    generalize a1:madeCells J.cells (c.toNat*G.size)=j at a5;have ab:j.size=c.toNat*t.size:=by rw[<-a1, <-ag];simp[madeCells]
    have r:R9 w (w.alloc (.cells j ti.elem)):=R9.alloc w _;have W:=h.more (Z':=Z) r (λ_=>id) (λ_=> .inl);have A:l.toNat<=c.toNat:=ω
    have b6:G8 (C8 t (w.alloc (.cells j ti.elem)) Z) (j.toList.take (l.toNat*t.size)) (List.replicate l.toNat t.dflt):=by
     rw[<-a1,ag];exact OI ad o bb _ _ A
    have b9:(w.alloc (.cells j ti.elem)).ownsRow w0.heap.size ti.elem t.size (.slice (some ⟨w.heap.size,0,none⟩) l.toNat c.toNat) (List.replicate l.toNat t.dflt).length (j.toList.take (l.toNat*t.size)):=by
     rw[rG];refine⟨?_, .inr ⟨w.heap.size,c.toNat,j,rfl,h.ext.size,Fj w _ _,A,?_,ab,rfl⟩⟩
     . rw[qZ,sE,ab];exact tG (rC _ A)
     . simp only[maxLen];omega
    obtain⟨B',M⟩:=W.newRow d b9 b6 (λi f=>by
     simp only[Value.ownBlock,rF]at f;refine⟨λz=>?_,λq b=>?_⟩
     . have:=h.zlt i z;omega
     . have:=((h.locs q).root (h.ft r b)).2.1;omega) (λi _ f=>by simp only[Value.ownBlock,rF]at f;have:=h.mrk.1;omega)
    exact R7 a5 O ⟨λ_=>r,_,_,_,M,H⟩
 . rename_i ak aw;split at a
   . rename_i x ai T T' af ar;cases Y:Nat.beq T T' with
     |false=>simp[Y]at a
     |true=>
      simp only[Y,qW]at a;have c7:=qE Y;subst c7;have A:=h.detO x (bo.imp id λF k H=>by
       have:=F _ rfl;simp only[kP,af,H,qC,rP]at this;exact this.2)
      have bl:=B8s st x;have cl:za.b0=0\/∀j,(st.ev [] x).bind Vc.c1=some (C.row j)->za.k0<=j:=bo.imp id λF j G=>by
       have:=F _ rfl;simp only[kP,af,G,qC,rP]at this;exact qR this.1
      generalize Vc.detO st x=ah at a A bl;simp only[C2x,qI,bind_some]at a;obtain⟨ti,N,t,U,a1,⟨bw,be,bk⟩,i,⟨d4,cp,c9⟩,l,u,bx,d0,a⟩:=a;have U:=Jr U;cases o:HJ a1 i&&Nat.ble 1 t.size with
      |false=>simp only[o,rI]at a;cases a
      |true=>
       simp only[o,qW]at a;cases a;simp only[qC]at o;obtain⟨c5,c6⟩:=b3;obtain⟨db,J,I,ce,z,cs,ad,d1,f,da⟩:=Gh (C3 a0 N) U;have ax:=A.c1 (F4 E) (bind_some.2 ⟨bw,be,bk⟩);have c8:=A.c1 (F4 E) (bind_some.2 ⟨d4,cp,c9⟩);obtain⟨ao,bz,c3,cv,d9,cj,ca,b7⟩:=WN A c8.1 d0;have cd:=G8.length (R:=C8 t w Z) (s:=t.size) (λ_ _ h=>C8.length h) b7;have an:za.b0=0\/∀j,a1= .row j->za.k0<=j:=cl.imp id λF j G=>F j (by
        rw[bl]at be;exact bind_some.2 ⟨bw,be,by rw[bk,G]⟩)
       have co:∃xs,w.ownsRow w0.heap.size ti.elem t.size (Gw.ev E x) l.length xs/\G8 (C8 t w Z) xs l/\(∀q,(Gw.ev E x).ownBlock=some q->¬Z q/\w0.heap.size<=q/\∀j,¬B8 w (B j) ((dropR ah a1).L j) q)/\C5 za w0 (dropR ah a1) E w Z B/\(∀q,(Gw.ev E x).ownBlock=some q->za.b0<=q):=by
        unfold PE at u;split at u
        . rename_i j;split at u
          . rename_i df c0 dd G;split at u
            . rename_i b8;subst b8;cases X:Nat.beq c0 ti.elem&&Nat.ble ah.nm j with
              |false=>simp only[X,rI]at u;cases u
              |true=>
               simp only[X,qW]at u;cases u;simp only[qC]at X;have d8:=qR X.2;have cc:=qE X.1;subst cc;have bi:=A.locs j;rw[G]at bi;obtain⟨xs,ab,b6,bp⟩:=bi;have cu:∀q,(B j).ownBlock=some q->w0.heap.size<=q:=λq b=>by
                rcases(bp q b).1 with g|g
                . exact g.2
                . have:=A.nms.1;omega
               replace ab:=kT ab cu;have ck:=λq b=>(bp q b).2
               have b1:Gw.ev E x=B j:=ax.1;have bq:=E9 ab;rw[<-b1]at ab;refine⟨xs,ab,b6,λq b=>?_,A.drop j,λq b=>?_⟩
               case refine_2=>
                rw[b1]at b;rcases an with an|an
                . rw[an];exact rM _
                . exact A.mrk.2 j q (an j rfl) (by rw[G];exact bq.trans b)
               rw[b1]at b;refine⟨ck q b,(World.ownsRow.lt ab q (by rw[b1];exact b)).1,λbt ag=>?_⟩;simp only[dropR,St.L_setL]at ag;by_cases bb:bt=j
               . rw[qJ bb]at ag;exact ag.elim
               . rw[qG bb]at ag;exact A.disj bt j q bb ag (by rw[G];exact bq.trans b)
            . cases u
          . cases u
        . rename_i d7;cases Q:Ur d7 with
          |false=>simp[Q]at u
          |true=>
           simp[Q]at u;subst u;have ag:Gw.ev E x= .slice none 0 0:=by rw[ax.1.1];exact Gi Q
           refine⟨[],by rw[ag];exact World.ownsRow_nil _ _ _ _,rfl,λq b=>?_,A,λq b=>?_⟩<;>(rw[ag]at b;cases b)
        . cases u
       obtain⟨xs,ab,b6,b2,bc,cw⟩:=co;obtain⟨d6,b4,a4,cm,b9,bj,cb⟩:=GV (P:=cx.P) (ty:=ty) I ce z cs d1 (qR o.2) ab (ao:=ao) (m:=bx.length) (c:=bz) (news:=c3) cd (λa1 ax=>ca a1 ax) (λQ=>by have:=cj Q;omega) (G8.oneCell b7) c6 (by rw[f];exact c5) A.ext.size;have ac:∀q,(Z q\/∃j,B8 w (B j) ((dropR ah a1).L j) q)->b4.heap[q]? =w.heap[q]?:=λq b=>by
        refine b9.block q ?_ (λF=>?_)
        . rcases b with b| ⟨j,G⟩
          . exact A.zlt q b
          . exact((bc.locs j).root G).2.1
        . have:=b2 q F.symm;rcases b with b| ⟨j,G⟩
          . exact this.1 b
          . exact this.2.2 j G
       have W:=bc.keep (Z':=Z) (A.ext.grown b9 cb (λq b=> .inl (b2 q b).2.1)) b9.size ac (λ_=>id) (λ_=> .inl);have ct:O2 Z w b4:=λq b=>ac q (.inl b)
       have bm:∀j q,B8 b4 (B j) ((dropR ah a1).L j) q->B8 w (B j) ((dropR ah a1).L j) q:=λj q hf=>(B8.iff λc D=>ac c (.inr ⟨j,D⟩)).1 hf
       obtain⟨B',M⟩:=W.newRow d (l:=l++bx) (by rw[rR];exact cm) ((b6.append b7).mono λ_ _=>C8.mono (λ_=>id) ct) (λq b=>by
        rcases bj with ag|ag
        . rw[ag]at b;exact⟨(b2 q b).1,λj G=>(b2 q b).2.2 j (bm j q G)⟩
        . rw[ag]at b;cases b;exact⟨λz=>absurd (A.zlt _ z) (sW _),λj G=>absurd ((bc.locs j).root (bm j _ G)).2.1 (sW _)⟩) (λq b1 b=>by
        rcases bj with ag|ag
        . rw[ag]at b;exact cw q b
        . rw[ag]at b;cases b;exact A.mrk.1)
       have b5:ak= #[x,ai]:=by rw[<-af]
       have bf:aw= #[T,T]:=by rw[<-ar]
       subst b5 bf;refine R7 (v:=d6) (w':=b4) (λ_ _ _ _=>?_) O ⟨λF=>(by cases F),_,_,_,M,H⟩;simp[execOp,resolve,invoke,builtin,cv,a4]
   . cases a
 . rename_i T d3;simp only[qI,bind_some]at a;obtain⟨ti,N,a⟩:=a;split at a
   . rename_i a6 a7 a8 a9 Y;cases a;obtain⟨B',M⟩:=h.newMap d a6 a7 a8 a9;exact R7 B1w O ⟨λ_=>R9.alloc w _,_,_,_,M,H⟩
   . rename_i a6 a7 a8 a9 au Y;simp only[qM]at a;obtain⟨n,Q,a⟩:=a;cases a;obtain⟨I,_⟩:=Vw (C3 a0 N) Y;obtain⟨dc,aj,_⟩:=h.int (F4 E) Q;obtain⟨B',M⟩:=h.newMap d a6 a7 a8 a9;refine R7 (v:= .map (some w.heap.size)) (w':=w.alloc (.map #[] 0)) (λ_ _ _ _=>?_) O ⟨λ_=>R9.alloc w _,_,_,_,M,H⟩;simp[execOp,Instr.makeMap,aj,run_underlying I,asInt,go_sem]
   . cases a
 . rename_i ak aw;split at a
   . rename_i x T af ar;simp only[qI,bind_some]at a;obtain⟨ti,N,a⟩:=a;split at a
     . rename_i a6 a7 a8 a9 Y;simp only[bind_some]at a;obtain⟨c,⟨s,ap,aq⟩,aa,a3,a⟩:=a;cases a;have ay:(aa.length:Int)<=9223372036854775807:=by have:aa.length<=9223372036854775807:=b3;omega
       have b5:ak= #[x]:=by rw[<-af]
       have bf:aw= #[T]:=by rw[<-ar]
       subst b5 bf;obtain⟨I,_⟩:=Vw (C3 a0 N) Y;have y:=h.c1 (F4 E) (bind_some.2 ⟨s,ap,aq⟩);have cf:OE .i64 (aa.length:Int):=by
        unfold OE;have aj:i64.min= -9223372036854775808:=δ
        have j:i64.max=9223372036854775807:=δ
        omega
       have cz:Gw.E4 cx.P E ty (.call ⟨.builtin .len, #[x], #[T]⟩) w (.int .i64 (aa.length:Int)) w:=by
        intro _ _ _ _;rcases A7m h y.1 a3 with⟨e,Q⟩ | ⟨i,a2,V,e,ch,f,X⟩
        . simp[execOp,resolve,invoke,builtin,Builtin.len_,e,run_underlying I,goInt,Q]
        . have bn:(getObj i).run cx.P w= .ok (.map a2 V) w:=by simp[getObj,Sem.run,f]
          have u:=T6.len X;simp[execOp,resolve,invoke,builtin,Builtin.len_,e,run_underlying I,bn,goInt]at u|-;exact sZ Int.ofNat u
       exact R7 cz O ⟨λ_=>R9.refl w,_,_,_,h.setS d (x:=one1 (.val (.int .i64) (aa.length:Int))) ⟨_,[],rfl,⟨rfl,cf⟩,rfl⟩ (λc D=>by simp at D;subst D;trivial),H⟩
     . cases a
   . cases a
 . rename_i T x;simp only[qM]at a;obtain⟨d5,u,a⟩:=a;cases a;obtain⟨v,B',y,ae⟩:=pV (ty:=ty) h a0 u;exact R7 (y w (R9.refl w)) O ⟨λ_=>R9.refl w,_,_,_,ae,H⟩
 . rename_i T x;simp only[qI,bind_some]at a;obtain⟨ti,N,a⟩:=a;split at a
   . rename_i a6 a7 a8 a9 Y;simp only[bind_some]at a;obtain⟨c,⟨s,ap,aq⟩,aa,a3,a⟩:=a;cases a;obtain⟨I,_⟩:=Vw (C3 a0 N) Y;obtain⟨Z1,y⟩:=h.settleO x;have D:=(y.c1 (F4 E) (bind_some.2 ⟨s,ap,aq⟩)).1;have bg:∀au,(Instr.range T (Gw.ev E x)).run cx.P w= .ok (.pointer (some ⟨w.heap.size,0,none⟩)) (w.alloc au)->ItR (w.alloc au) Z1 a6 a7 a8 a9 w.heap.size aa none->J6 cx.P all ⟨some d, .range T x,ty,pos,aft,g⟩ (dY za w0 w (wrB (.range T x)) k) E w:=λau a4 ba=>by
      have r:R9 w (w.alloc au):=R9.alloc w _;have W:=y.more (Z':=Z1) r (λ_=>id) (λ_=> .inl);have ae:=W.new (v:= .pointer (some ⟨w.heap.size,0,none⟩)) (lc:= .iter a6 a7 a8 a9 aa none) ⟨w.heap.size,C4 _ _ _, .inl ⟨y.nms.2,h.ext.size⟩,λz=>absurd (y.zlt _ z) (sW _),ba⟩
       (λk i f j=>by
        simp only[B8,root,rF]at f;have:=((y.locs k).root (y.ft r j)).2.1;omega)
       trivial rfl (λi _ f=>by simp only[B8,root,rF]at f;have:=h.mrk.1;omega)
      have M:=ae.setS d (x:=one1 (.box (settleO st x).nx 0)) (v:= .pointer (some ⟨w.heap.size,0,none⟩)) ⟨_,[],rfl,⟨w.heap.size,C4 _ _ _,rfl⟩,rfl⟩ (λc D=>by simp at D;subst D;exact rN _);exact R7 (λ_ _ _ _=>by simp[execOp,a4]) O ⟨λ_=>r,_,_,_,M,H⟩
     unfold B7d at a3;split at a3
     . split at a3
       . rename_i b8;subst b8;cases a3;rcases D with⟨e,Q⟩ | ⟨i,a2,V,e,f,F,ci,X⟩
         . simp only[sN,vR]at e;exact bg (.mapIter none 0 #[] 0) (by rw[e];exact run_range_nilMap (P:=cx.P) w T _ _ I) (.inl ⟨heap_alloc_new w _,Q,rfl⟩)
         . simp only[sN,vR]at e;have ch:=y.zlt i f;have bn:(getObj i).run cx.P w= .ok (.map a2 V) w:=by simp[getObj,Sem.run,F]
           have ac:O2 Z1 w (w.alloc (.mapIter (some i) V #[] V)):=λq b=>(R9.alloc w _).block q (y.zlt q b)
           refine bg (.mapIter (some i) V #[] V) (by rw[e];exact run_range_map (P:=cx.P) w T _ _ i a2 V I F) (.inr ⟨i, #[],a2,V,heap_alloc_new w _,f,(ac i f).trans F,ci,?_,λx r=>by cases r⟩);have cg:leftOf a2 #[]=a2:=by simp[leftOf]
           rw[cg];exact Qx.mono (λ_=>id) ac X
       . cases a3
     . cases a3;have e:Gw.ev E x= .map none:=D.1;exact bg (.mapIter none 0 #[] 0) (by rw[e];exact run_range_nilMap (P:=cx.P) w T _ _ I) (.inl ⟨heap_alloc_new w _,rfl,rfl⟩)
     . cases a3
   . cases a
 . rename_i x;simp only[qI,bind_some]at a;obtain⟨c,⟨s,ap,aq⟩,a⟩:=a;split at a
   . rename_i q d2;split at a
     . rename_i a6 a7 a8 a9 left ai b;cases o:Nat.beq d2 0 with
       |false=>simp only[o,rI]at a;cases a
       |true=>
        simp only[o,qW]at a;cases a;have ab:=qE o;subst ab;obtain⟨i,A,an⟩:=(h.c1 (F4 E) (bind_some.2 ⟨s,ap,aq⟩)).1;have j:=h.locs q;rw[b]at j;obtain⟨d3,az,_,_,ba⟩:=j;rw[A]at az;cases az;rcases ba with⟨_,_,Q⟩ | ⟨m,seen,a2,V,ax,b7,b1,b2,b9,b4⟩
        . cases Q
        . obtain⟨e,X,⟨b6,ag⟩,G,a1⟩:=b4 ai rfl;subst ag;have a4:=run_entry_at (P:=cx.P) w i m V b6 a2 V e ax b1 X b2.2;refine R7 (v:= .tuple #[e.key,e.val]) (w':=w) (λ_ _ _ _=>by simp[execOp,an,a4]) O ⟨λ_=>R9.refl w,_,_,_,h.setS d (x:= .tup [⟨a6,explode a7 ai.1⟩,⟨a8,explode a9 ai.2⟩]) ⟨[e.key,e.val],rfl,_,_,rfl,Bz.explode G,_,_,rfl,Bz.explode a1,rfl⟩ (λs a c D=>?_),H⟩;simp only[qX,wT,g1t]at a;rcases a with rfl|rfl<;>exact F5 c D
     . cases a
   . cases a
 . rename_i ak aw;split at a
   . rename_i x ai T sT af ar;obtain⟨ah,cq,a⟩:=qM.1 a;cases a;have c2:ak= #[x,ai]:=g0m.1 af;have c4:aw= #[T,sT]:=g0m.1 ar;subst c2 c4;obtain⟨v,w',B',a5,az⟩:=B3h (ty:=ty) (sT:=sT) h a0 cq;exact R7 a5 O ⟨λF=>(by cases F),_,_,_,az,H⟩
   . cases a
 . cases a
end
def AF (off n:Nat) (cs a:List C):List C:=cs.take off++a++cs.drop (off+n)
def A6e (a:St) (k r:Nat) (lc:LC):St:=(((a.setL r .none).setL k .none).setL k lc).setL r (.al k)
def hoP (i:Nat):Option Nat->Option Prop
 |none=>none
 |some j=>some (i=j)
def attach (a:St) (k r i:Nat) (t:Ty) (e e':TypeId) (ls:List (List t.den)) (c:Option Nat):Option (Option Prop×St):=match a.L r with
 | .row d b l=>if h:d=t then(bif Nat.beq b e'&&Nat.ble a.nm r&&Nat.ble a.nm k&&Nat.blt k r then some (hoP i c,A6e a k r (.rows t e e' (ls.set i (h▸l)) [(i,r)] none))else none)else none
 | _=>none
def lS (ti:TI) (a:St) (s:SV) (k sz i off:Nat):Option St:=match a.L k with
 | .row t e l=>bif s.cs.all Fc&&Nat.beq s.cs.length ti.ty.size&&Nat.beq sz t.size&&Nat.ble (off+ti.ty.size) t.size then
  (match Me t (AF off ti.ty.size (explode t (l.getD i t.dflt)) s.cs)with
   |some (x,[])=>some (a.setL k (.row t e (l.set i x)))
   | _=>none)else none
 | .al j=>match a.L j with
  | .rows t e d c al none=>match FM k al with
   |some b=>bif s.cs.all Fc&&Nat.beq s.cs.length ti.ty.size&&Nat.beq sz t.size&&Nat.ble (off+ti.ty.size) t.size then
    (match Me t (AF off ti.ty.size (explode t ((c.getD b []).getD i t.dflt)) s.cs)with
     |some (x,[])=>some (a.setL j (.rows t e d (c.set b ((c.getD b []).set i x)) al none))
     | _=>none)else none
   |none=>none
  | _=>none
 | _=>none
def ZN (cx:Cx) (a:St) (T:TypeId) (p v:Operand):Option (Option Prop×St):=do
 let ti<-cx.ti T
 let c<-(a.ev [] p).bind c1
 match c with
 | .box k c=>do
  let s<-a.ev [] v
  match a.L k with
  | .box T' b=>bif s.cs.all Fc&&Nat.beq s.cs.length ti.ty.size&&Nat.ble (c+ti.ty.size) b.length then some (none,a.setL k (.box T' (AF c ti.ty.size b s.cs)))else none
  | _=>none
 | .elp k sz i b=>match a.L k with
  | .rows t e c f _ d=>match a.ev [] v with
   |some ⟨false,[.row r]⟩=>bif Nat.beq sz 1&&Nat.beq b 0&&Nat.beq ti.ty.size 1 then attach a k r i t e c f d else none
   | _=>none
  | _=>do
   let s<-(settleO a v).ev [] v
   (lS ti (settleO a v) s k sz i b).map λc=>(none,c)
 | _=>none
def mapM (d:St) (c:Bool) (a:Ty) (g:Bool) (b:Ty) (k:Nat):Option (List (a.den×b.den)):=match d.L k with
 | .map d f h i j=>if l:Ty.mp d f h i=Ty.mp c a g b then some (l▸(show(Ty.mp d f h i).den from j):(Ty.mp c a g b).den)else none
 | _=>none
def XN (cx:Cx) (a:St) (d:Tmp) (T:TypeId) (m x:Operand):Option St:=none
def WO (a:St) (m s y:Operand):Option St:=none
def OJ (cx:Cx) (a:St) (T:TypeId) (m x y:Operand):Option St:=do
 let ti<-cx.ti T
 let c<-((settleO a y).ev [] m).bind c1
 let i<-(settleO a y).ev [] x
 let j<-(settleO a y).ev [] y
 match ti.ty,c with
 | .mp c b d f, .mp k=>do
  let g<-mapM (settleO a y) c b d f k
  let h<-Sd c b i
  let v<-Sd d f j
  some ((settleO a y).setL k (.map c b d f (Ga b h v g)))
 | _,_=>none
section
variable {za:Zn} {w0 w w':World} {Z Z':Nat->Prop} {B:Nat->Value} {st st':St} {E:H2} {cx:Cx} {φ:Option Prop} {d:Tmp} {all:List Oper} {ty:TypeId} {pos:String} {aft:Array Edge} {g:Option (Nat×Bool)} {k:St->Prop}
def Cm.one (h:C5 za w0 st E w Z B):∀ {cs:List C} {vs:List Value},cs.all Fc=true->Cm w Z B cs vs->∀u∈vs,u.oneCell'=true
 | [],_,_,a=>by rw[show _= _ from a];exact Kw
 |c::cs,_,a,⟨v,f,e,b,d⟩=>by
  simp only[tO,qC]at a;rw[e];exact Mc (RC.one h a.1 b) (Cm.one h a.2 d)
def gU {off n:Nat} {cs a:List C} {vs us:List Value} (h:Cm w Z B cs vs) (b:Cm w Z B a us) (c:a.length=n):Cm w Z B (AF off n cs a) (vs.take off++us++vs.drop (off+us.length)):=by
 have:us.length=n:=by rw[<-c,b.len]
 rw[this];exact((h.take off).append b).append (h.drop (off+n))
def A1f {α:Type} {cur us:List α} {n a sz off m:Nat} (c:us.length=m) (b:a+sz<=n) (d:n<=cur.length) (f:off+m<=sz):
 (cur.take (a+off)++us++cur.drop (a+off+m)).take n=(cur.take n).take a++((((cur.take n).drop a).take sz).take off++us++(((cur.take n).drop a).take sz).drop (off+m))++(cur.take n).drop (a+sz):=by
 have b:(cur.take n).take a=cur.take a:=by rw[g1p,tG ω]
 have d:((cur.take n).drop a).take sz=(cur.drop a).take sz:=by rw[g1n,g1p,tG ω]
 have f:((cur.drop a).take sz).take off=(cur.drop a).take off:=by rw[g1p,tG ω]
 have g:((cur.drop a).take sz).drop (off+m)=(cur.drop (a+off+m)).take (sz-(off+m)):=by rw[g1n,wB,uM]
 have h:(cur.take n).drop (a+sz)=(cur.drop (a+sz)).take (n-(a+sz)):=by rw[g1n]
 have i:cur.take a++(cur.drop a).take off=cur.take (a+off):=by rw[List.take_add]
 have j:(cur.drop (a+off+m)).take (sz-(off+m))++(cur.drop (a+sz)).take (n-(a+sz))=(cur.drop (a+off+m)).take (n-(a+off+m)):=by
  have:n-(a+off+m)=(sz-(off+m))+(n-(a+sz)):=ω
  rw[this,List.take_add,wB];congr 3;omega
 rw[b,d,f,g,h];have b:(cur.take (a+off)).length=a+off:=by rw[qZ];omega
 rw[g0q,qS (by rw[rR,b,c];omega),rR,b,c, <-j, <-i];simp only[vA]
def frE (k0 k:Nat) (a b:LC):Bool:=match a with
 | .rows _ _ _ _ _ _=>Nat.ble k0 k
 | _=>match b with
  | .al j=>Nat.ble k0 j
  | _=>Nat.ble k0 k
def frO (k0:Nat) (st:St):Op->Bool
 | .store _ p v=>match(st.ev [] p).bind c1 with
  |some (.box k _)=>Nat.ble k0 k
  |some (.elp k _ _ _)=>frE k0 k (st.L k) ((settleO st v).L k)
  | _=>false
 | _=>false
def CJ {B0 b:Nat} (a:UY b w w') (c:B0<=b):Below B0 w w'/\True:=⟨⟨a.1,a.2.1,a.2.2.1.1,by rw[a.2.2.2.1];exact qP _,λk c=>a.2.2.2.2 k ω⟩,trivial⟩
def H4 {α:Type} {c:Bool} {a:Option α} {x:α} (h:(bif c then a else none)=some x):c=true/\a=some x:=by
 cases c with
 |true=>exact⟨rfl,h⟩
 |false=>cases h
def C3w {k0 sz i off q:Nat} {T:TypeId} {p v:Operand} (a:frO k0 st (.store T p v)=true) (f:(st.ev [] p).bind c1=some (.elp q sz i off)) (d:(match(settleO st v).L q with| .al _=>false| _=>true)=true):k0<=q:=by
 simp only[frO,f]at a;generalize st.L q=b at*;generalize (settleO st v).L q=c at*;unfold frE at a;cases b<;>cases c<;>simp at d a<;>exact a
def C3v {k0 sz i off q j:Nat} {T:TypeId} {p v:Operand} (a:frO k0 st (.store T p v)=true) (g:(st.ev [] p).bind c1=some (.elp q sz i off)) (f:∀t e e' ls al c,st.L q= .rows t e e' ls al c->False) (d:(settleO st v).L q= .al j):k0<=j:=by
 simp only[frO,g,d]at a;cases b:st.L q with
 |rows t e e' ls al c=>exact(f _ _ _ _ _ _ b).elim
 | _=>simp[b,frE]at a;exact a
def NT {v:Value} (h:v.oneCell'=true):v.cells.toList= [v]:=by
 have:v.cells= #[v]:=by cases v<;>simp[Value.cells,Value.oneCell']at h|-
 rw[this]
def gG {P:Program} (O:C5 za w0 st E w Z B) {T e:TypeId} {p v:Operand} {t:Ty} {l:List t.den} {xs:List Value} {b m d i off n:Nat} {s:SV} {x:t.den} (a8:Tc P T n=true) (a4:w.ownsRow 0 e t.size (.slice (some ⟨b,0,none⟩) m d) l.length xs) (u:G8 (C8 t w Z) xs l) (a3:¬Z b) (f:i<m) (aa:Gw.ev E p= .pointer (some ⟨b,i*t.size+off,none⟩))
 (o:Cm w Z B s.cs (Gw.ev E v).cells.toList) (a2:s.cs.all Fc=true) (G:s.cs.length=n) (W:off+n<=t.size) (M:Me t (AF off n (explode t (l.getD i t.dflt)) s.cs)=some (x,[])):
 ∃w',Gw.IZ P E ty (.store T p v) w w'/\UY b w w'/\∃N,w'.ownsRow 0 e t.size (.slice (some ⟨b,0,none⟩) m d) (l.set i x).length N/\G8 (C8 t w' Z) N (l.set i x):=by
 have c:(Gw.ev E v).cells.toList.length=n:=by rw[<-G,o.len]
 rcases a4.2 with⟨a,_⟩ | ⟨ab,ac,g,a,U,F,H,V,r,a9⟩
 . cases a
 . cases a;have ad:=G8.length (R:=C8 t w Z) (s:=t.size) (λ_ _ h=>C8.length h) u;have Y:=G8.get (R:=C8 t w Z) (s:=t.size) (λ_ _ h=>C8.length h) u (qQ f);have X:l.getD i t.dflt=l[i]:=by rw[qF,qQ f];rfl
   rw[X]at M;have a0:i*t.size+t.size<=l.length*t.size:=by rw[<-tX];exact rC _ f
   have a1:l.length*t.size<=d*t.size:=rC _ H;generalize Q:(Gw.ev E v).cells.toList=y at*;have J:=UQ (P:=P) (ty:=ty) (w:=w) y aa rfl Q a8 c F (by rw[c,r];omega) (Cm.one O a2 o);generalize D:(g.toList.take (i*t.size+off)++y++g.toList.drop (i*t.size+off+y.length)).toArray=j at J;have A:UY b w (w.setRow b j):=⟨rfl,rfl,⟨rfl,qP _⟩,by simp,λk hk=>setRow_other w b k _ hk⟩;have a6:O2 Z w (w.setRow b j):=λz hz=>A.2.2.2.2 z (λa=>a3 (a▸hz))
   have a5:=Gt (gU (off:=off) (O3 (B:=B) Y) o G) M;have I:=G8.set (R:=C8 t w Z) (s:=t.size) (λ_ _ h=>C8.length h) u a5 f;refine⟨_,J,A,_,?_,I.mono λ_ _=>C8.mono (λ_=>id) a6⟩;rw[qO];have a7:=G8.length (R:=C8 t w Z) (s:=t.size) (λ_ _ h=>C8.length h) I;refine⟨by rw[a7,qO], .inr ⟨b,d,j,rfl,U,setRow_heap w b g _ e _ F,H,V,?_,?_⟩⟩
   . rw[<-D];simp only[g0f,rR,qZ,sV,sE,r,c];omega
   . rw[<-D];simp only[zF];rw[c, <-a9];exact A1f c a0 (by simpa[r]using a1) W
def C5.attach (h:C5 za w0 st E w Z B) {k r i g:Nat} {t:Ty} {e e':TypeId} {ls:List (List t.den)} {al:List (Nat×Nat)} {o:Option Nat} {l:List t.den} {xs:List Value} (u:st.L k= .rows t e e' ls al o) (T:st.L r= .row t e' l) (J:k≠r) (an:st.nm<=k) (b1:st.nm<=r) (ak:i<ls.length) (Q:∀j,o=some j->i=j)
 (aq:w.ownsRow 0 e 1 (B k) ls.length xs) (a1:root (B k)=some g) (s:UY g w w') (a6:w'.ownsRow 0 e 1 (B k) ls.length (xs.set i (B r))) (ap:za.k0<=k->∀b,root (B r)=some b->za.b0<=b):C5 za w0 (A6e st k r (.rows t e e' (ls.set i l) [(i,r)] none)) E w' Z B:=by
 have X:=h.locs k;have Y:=h.locs r;rw[u]at X;rw[T]at Y;obtain⟨b5,A,⟨ay,ag,ah⟩,W,az⟩:=X;have av:=Sa aq A;subst av;obtain⟨ax,a9,aw,b4⟩:=Y;have D:B8 w (B k) (st.L k) g:=by rw[u];exact .inl a1
 have a2:¬Z g:=((h.locs k).root D).2.2;have a8:O2 Z w w':=λn hc'=>s.2.2.2.2 n (λe=>a2 (e▸hc'))
 have z:∀b,root (B r)=some b->B8 w (B r) (st.L r) b:=λb a=>by rw[T];exact a
 have au:root (B r)≠some g:=λa=>h.disj k r g J D (z g a)
 have ao:k<st.nx:=Fb h (by rw[u];trivial);have a7:r<st.nx:=Fb h (by rw[T];trivial);have b2:xs.length=ls.length:=by have:=A.1;omega
 have P:∀b,B8 w' (B k) (.rows t e e' (ls.set i l) [(i,r)] none) b->root (B r)=some b\/B8 w (B k) (st.L k) b:=λb a=>by
  rcases a with a| ⟨aa,b3,V,a3,a5,j,x,M,N,ac,_,d,a⟩
  . exact .inr (by rw[u];exact .inl a)
  . have H:(xs.set i (B r))[j]? =some x:=by
     rcases a6.2 with⟨f,_⟩ | ⟨ab,a0,a4,f,_,I,aj,_,am,U⟩
     . rw[M]at f;cases f
     . rw[M]at f;cases f;rw[N]at I;cases I;rw[<-U,sA ω];simpa using d
    by_cases c:i=j
    . subst c;rw[sK ω]at H;cases H;exact .inl a
    . rw[sX c]at H;refine .inr ?_;rw[u];have R:Ea o j=false:=by
       cases o with
       |none=>rfl
       |some q=>have:=Q q rfl;subst this;exact F2 c
      exact Rm A R H a
 have ad:=(h.drop r).drop k;have ae:C5 za w0 ((st.setL r .none).setL k .none) E w' Z B:=by
  refine ad.keep (h.ext.chg s ((h.locs k).root D).1.m) (by rw[s.2.2.2.1];exact qP _) (λq f=>s.2.2.2.2 q ?_) (λ_=>id) (λ_=> .inl);rintro rfl;rcases f with f| ⟨j,f⟩
  . exact a2 f
  . rw[St.L_setL]at f;split at f
    . exact f.elim
    . rename_i H;rw[St.L_setL]at f;split at f
      . exact f.elim
      . exact h.disj j k q H f D
 have ai:∀b,(root (B r)=some b\/B8 w (B k) (st.L k) b)->up za w0 k b/\¬Z b/\b<w.heap.size:=λb a=>by
  rcases a with a|a
  . obtain⟨f,H,I⟩:=(h.locs r).root (z b a);refine⟨?_,I,H⟩;rcases f with f|f
    . exact .inl ⟨by rw[<-h.nms.1];exact an,f.2⟩
    . have:=h.nms.1;omega
  . obtain⟨f,H,I⟩:=(h.locs k).root a;exact⟨f,I,H⟩
 have ar:∀(j:Nat) (v:List t.den) (x:Value),i≠j->ls[j]? =some v->xs[j]? =some x->Ea o j=false/\∃O,w'.ownsRow 0 e' t.size x v.length O/\G8 (C8 t w' Z) O v:=λj v x c y d=>by
  have f:Ea o j=false:=by
   cases o with
   |none=>rfl
   |some q=>have:=Q q rfl;subst this;exact F2 c
  obtain⟨O,H,M⟩:=ag j v x f y d;refine⟨f,O,Bb H (λn I=>s.2.2.2.2 n ?_),M.mono λ_ _=>C8.mono (λ_=>id) a8⟩;rintro rfl;exact W j x n f d ((E9 H).trans I) a1
 have G:∀(j:Nat) (x:Value),i≠j->(xs.set i (B r))[j]? =some x->xs[j]? =some x/\Ea o j=false:=λj x c d=>by
  rw[sX c]at d;refine⟨d,?_⟩;cases o with
  |none=>rfl
  |some q=>have:=Q q rfl;subst this;exact F2 c
 have F:(xs.set i (B r))[i]? =some (B r):=sK ω;have af:C5 za w0 (((st.setL r .none).setL k .none).setL k (.rows t e e' (ls.set i l) [(i,r)] none)) E w' Z B:=by
  refine ae.addL ao ⟨_,by rw[qO];exact a6,⟨λp H=>?_,λj v x _ y d=>?_,λj N x U b a4 _ _ d M a f=>?_⟩,λj x b _ d a=>?_,λb a=>?_⟩ (λj b R a f=>?_) (λp H=>?_) (λb a5 a=>?_)
  . simp only[qY]at H;subst H;exact .inl F
  . by_cases c:i=j
    . subst c;rw[sK ak]at y;rw[F]at d;cases y;cases d;exact⟨ax,Bb a9 (λn aj=>s.2.2.2.2 n (λe=>au (e▸(E9 a9).trans aj))),aw.mono λ_ _=>C8.mono (λ_=>id) a8⟩
    . rw[sX c]at y;exact(ar j v x c y (G j x c d).1).2
  . by_cases c:i=j
    . subst c;rw[F]at d;cases d;have:=G N U a4 M;exact h.disj k r b J (by rw[u];exact Rm A this.2 this.1 f) (z b a)
    . have I:=G j x c d;by_cases a3:i=N
      . subst a3;rw[F]at M;cases M;exact h.disj k r b J (by rw[u];exact Rm A I.2 I.1 a) (z b f)
      . have V:=G N U a3 M;exact ah j N x U b a4 I.2 V.2 I.1 V.1 a f
  . by_cases c:i=j
    . subst c;rw[F]at d;cases d;exact λf=>h.disj k r b J (by rw[u];exact .inl f) (z b a)
    . have:=G j x c d;exact W j x b this.2 this.1 a
  . obtain⟨aa,ab,ac⟩:=ai b (P b a);exact⟨aa,ab,by rw[s.2.2.2.1];exact ac⟩
  . rw[St.L_setL,qG R,St.L_setL]at f;split at f
    . exact f.elim
    . rename_i am;have a0:B8 w (B j) (st.L j) b:=(B8.iff λn hcf=>s.2.2.2.2 n (λe=>h.disj j k n R hcf (e▸D))).1 f;rcases P b a with a|a
      . exact h.disj j r b am a0 (z b a)
      . exact h.disj j k b R a0 a
  . simp only[qY]at H;subst H;exact a7
  . rcases P b a with a|a
    . exact ap a5 b a
    . exact h.mrk.2 k b a5 a
 exact af.addL a7 trivial (λ_ _ _ a=>a.elim) trivial (λ_ _ a=>a.elim)
def gW (h:C5 za w0 st E w Z B) (bp:G9 cx.P cx.tys=true) {T:TypeId} {p v:Operand} (a:ZN cx st T p v=some (φ,st')) (bt:FN φ) (F:k st') (O:E1 all ⟨none, .store T p v,ty,pos,aft,g⟩ E=true):J6 cx.P all ⟨none, .store T p v,ty,pos,aft,g⟩ (λE' w'=>(frO za.k0 st (.store T p v)=true->Below za.b0 w w'/\True)/\Nx za w0 k E' w') E w:=by
 simp only[ZN,qI,bind_some]at a;obtain⟨ti,bn,H,⟨Y,V,U⟩,a⟩:=a;have a5:=(L3 (C3 bp bn)).1;have s:=h.c1 (F4 E) (bind_some.2 ⟨Y,V,U⟩);split at a
 . rename_i q D;simp only[bind_some]at a;obtain⟨X,af,a⟩:=a;split at a
   . rename_i T' a9 j;cases b:X.cs.all Fc&&Nat.beq X.cs.length ti.ty.size&&Nat.ble (D+ti.ty.size) a9.length with
     |false=>simp only[b,rI]at a;cases a
     |true=>
      simp only[b,qW]at a;cases a;simp only[qC]at b;have Q:=qE b.1.2;have a2:=qR b.2;obtain⟨i,an⟩:=h.ev (F4 E) af;have J:=RS.cells h i b.1.1;have r:=h.locs q;have N:=h.refl q;rw[j]at r N;obtain⟨c,M,e,ao,aa,a6,am⟩:=r;obtain⟨aw,I,R⟩:=s.1;rw[e]at I;cases I;have ak:(Gw.ev E v).cells.toList.length=ti.ty.size:=by rw[<-Q,J.len]
      have G:=UQ (P:=cx.P) (ty:=ty) (w:=w) (Gw.ev E v).cells.toList R rfl rfl a5 ak a6 (by rw[ak];have:=am.len;simp at this;omega) (Cm.one h b.1.1 J);have o:UY c w (w.setRow c (M.toList.take D++(Gw.ev E v).cells.toList++M.toList.drop (D+(Gw.ev E v).cells.toList.length)).toArray):=⟨rfl,rfl,⟨rfl,qP _⟩,by simp,λk F=>setRow_other w c k _ F⟩;have t:root (B q)=some c:=by rw[e];rfl
      have au:O2 Z w (w.setRow c (M.toList.take D++(Gw.ev E v).cells.toList++M.toList.drop (D+(Gw.ev E v).cells.toList.length)).toArray):=λai a7=>o.2.2.2.2 ai (λf=>aa (f▸a7))
      have aj:∀H∈AF D ti.ty.size a9 X.cs,Cj st.nx H:=λH s=>by
       simp only[AF,rA]at s;rcases s with(s|s) |s
       . exact N H (sB s)
       . exact an H s
       . exact N H (vQ s)
      refine Vt G O ⟨λf=>CJ o (h.mrk.2 q c (by simp only[frO,show(st.ev [] p).bind c1=some _ from bind_some.2 ⟨Y,V,U⟩]at f;exact qR f) (by rw[j];exact t)),_,_,_,h.chg (by rw[j];trivial) (by rw[j];exact t) o (lc:= .box T' (AF D ti.ty.size a9 X.cs)) ⟨c,_,e,ao,aa,setRow_heap w c M _ T' _ a6,?_⟩ aj (λ_ f=> .inl f),F⟩;exact Cm.mono (n:=st.nx) (λ_=>id) au (λ_ _=>rfl) aj (by simpa using gU am J Q)
   . cases a
 . rename_i q sz u D;split at a
   . rename_i a0 e I W al ar j;split at a
     . rename_i A bh;cases b:Nat.beq sz 1&&Nat.beq D 0&&Nat.beq ti.ty.size 1 with
       |false=>simp only[b,rI]at a;cases a
       |true=>
        simp only[b,qW]at a;simp only[qC]at b;have b3:=qE b.1.1;have b4:=qE b.1.2;have b6:=qE b.2;subst b3 b4;unfold Vc.attach at a;split at a
        . rename_i c9 b5 ax aw;split at a
          . rename_i bg;subst bg;cases M:Nat.beq b5 I&&Nat.ble st.nm A&&Nat.ble st.nm q&&Nat.blt q A with
            |false=>simp only[M,rI]at a;cases a
            |true=>
             simp only[M,qW]at a;cases a;simp only[qC]at M;have b7:=qE M.1.1.1;subst b7;have bm:q<A:=qR M.2;obtain⟨a1,b8⟩:=h.ev (F4 E) bh;obtain⟨bv,ca,a6,bq,c4⟩:=a1;cases a6;have bs:Gw.ev E v=B A:=bq;have r:=h.locs q;rw[j]at r;obtain⟨b1,i,_⟩:=r;obtain⟨c,m,a8,y,a3,R⟩:=s.1;have bk:m=W.length:=by
              rw[y]at i;rcases i.2 with⟨f,_⟩ | ⟨_,_,_,f,_⟩<;>cases f
              rfl
             subst bk;have au:(B A).oneCell'=true:=h.bone A;have bb:(Gw.ev E v).cells.toList= [B A]:=by rw[bs];exact NT au
             have ak:=i;rw[y]at ak;rcases ak.2 with⟨f,_⟩ | ⟨bx,bz,N,f,b9,an,bl,be,aa,bo⟩
             . cases f
             . cases f;have G:=UQ (P:=cx.P) (ty:=ty) (w:=w) [B A] R rfl bb a5 (by rw[b6];rfl) an (by rw[aa];simp;omega) (λbv a6=>by simp at a6;subst a6;exact au);generalize am:(N.toList.take (u*1+0)++ [B A]++N.toList.drop (u*1+0+ [B A].length)).toArray=aj at G;have o:UY c w (w.setRow c aj):=⟨rfl,rfl,⟨rfl,qP _⟩,by simp,λk F=>setRow_other w c k _ F⟩;have t:root (B q)=some c:=by rw[y];rfl
               have bi:B8 w (B q) (st.L q) c:=by rw[j];exact .inl t
               refine Vt G O ⟨λf=>CJ o (h.mrk.2 q c (by simp only[frO,show(st.ev [] p).bind c1=some _ from bind_some.2 ⟨Y,V,U⟩,j,frE]at f;exact qR f) bi),_,_,_,h.attach j aw (uF bm) (qR M.1.2) (qR M.1.1.2) a3 (λx z=>?_) i t o ?_ ?_,F⟩
               . subst z;exact bt
               . rw[y];refine⟨by rw[qO];exact i.1, .inr ⟨c,a8,aj,rfl,b9,setRow_heap w c N _ e _ an,bl,be,?_,?_⟩⟩
                 . rw[<-am];simp only[g0f,rR,qZ,sV,sE,aa,rK,yH];omega
                 . rw[<-am, <-bo];simp only[zF];apply xQ;intro x;have c2:N.toList.length=a8*1:=by rw[sE,aa]
                   simp only[wH,tA,rK,yH,rY];by_cases z:x<W.length
                   . rw[sA z];by_cases ao:u=x
                     . subst ao;rw[sK (by rw[qZ];omega),vA,tL (by rw[qZ];omega),qZ];rw[(ω:u-min u N.toList.length=0)];rfl
                     . rw[sX ao,sA z,vA];by_cases bj:x<u
                       . rw[uX (by rw[qZ];omega),sA bj]
                       . rw[tL (by rw[qZ];omega),qZ,(ω:min u N.toList.length=u)];obtain⟨d,b⟩:∃d,x-u=d+1:=⟨x-u-1,ω⟩;rw[b];simp only[xZ,wP,uV,xI];rw[(ω:u+1+d=x)]
                   . rw[rT (by rw[qZ];omega),rT (by rw[qO,qZ];omega)]
               . exact λc3 b2 ba=>h.mrk.2 A b2 ω (by rw[aw];exact ba)
          . cases a
        . cases a
     . cases a
   . rename_i ap;simp only[bind_some,qM]at a;obtain⟨X,af,c8,l,a⟩:=a;cases a;obtain⟨Z1,i⟩:=h.settleO v;have c0:=λa0 e I W al ar=>ap a0 e I W al ar
     obtain⟨a1,b8⟩:=i.ev (F4 E) af;obtain⟨c,m,a8,y,a3,R⟩:=s.1;have t:root (B q)=some c:=by rw[y];rfl
     unfold lS at l;split at l
     . rename_i a0 e ax j;obtain⟨b,l⟩:=H4 l;simp only[qC]at b;split at l
       . rename_i az ah;cases l;have Q:=qE b.1.1.2;have ag:=qE b.1.2;have a2:=qR b.2;subst ag;have J:=RS.cells i a1 b.1.1.1;have r:=i.locs q;rw[j]at r;obtain⟨b1,av,bf,ad⟩:=r;rw[y]at av ad;obtain⟨w',G,o,bw,ae,ab⟩:=gG (P:=cx.P) (ty:=ty) i a5 av bf (ad c rfl).2 a3 R J b.1.1.1 Q a2 ah;refine Vt G O ⟨λf=>CJ o ?_,_,_,_,i.chg (by rw[j];trivial) (by rw[j];exact t) o (lc:= .row a0 e (ax.set u az)) ⟨_,by rw[y];exact ae,ab,λai a7=>by rw[y]at a7;exact ad ai a7⟩ trivial (λ_ f=> .inl f),F⟩;exact i.mrk.2 q c (C3w f (bind_some.2 ⟨Y,V,U⟩) (by rw[j])) (by rw[j];exact t)
       . cases l
     . rename_i x j;split at l
       . rename_i a0 e I W al z;split at l
         . rename_i c5 ac;obtain⟨b,l⟩:=H4 l;simp only[qC]at b;split at l
           . rename_i az ah;cases l;have Q:=qE b.1.1.2;have ag:=qE b.1.2;have a2:=qR b.2;subst ag;have J:=RS.cells i a1 b.1.1.1;have r:=i.locs x;rw[z]at r;obtain⟨b1,cb,c6,c7,ay,bu⟩:=lH r ac;have aq:¬Z1 c:=by
              obtain⟨am,a6,⟨M,aa,aj⟩,ak,N⟩:=r;exact(N c (Rm a6 rfl ((M _ (La ac)).resolve_right λf=>by rw[f.2]at t;simp[root]at t) t)).2.1
             rw[y]at ay;obtain⟨w',G,o,bw,ae,ab⟩:=gG (P:=cx.P) (ty:=ty) i a5 ay bu aq a3 R J b.1.1.1 Q a2 ah;have a4:=B6y r (La ac) t o aq (by rw[y];exact ae) ab;refine Vt G O ⟨λf=>CJ o ?_,_,_,_,i.chg (k:=x) (by rw[z];trivial) (by rw[z];exact a4.2.1) o a4.1 (by have:=i.refl x;rw[z]at this;exact this) (λH bc=> .inr (by rw[z];exact(V9 λg O=>o.2.2.2.2 g (λe=>a4.2.2 (e▸O))).1 bc)),F⟩;exact i.mrk.2 x c (C3v f (bind_some.2 ⟨Y,V,U⟩) ap j) (by rw[z];exact a4.2.1)
           . cases l
         . cases l
       . cases l
     . cases l
 . cases a
def A0y:∀(v:Value) (n:Nat),(∃k a,v= .int k a)\/(∃b,v= .bool b)->Instr.sameBits n v v=true:=by
 rintro v n (⟨k,a,rfl⟩ | ⟨b,rfl⟩)
 . cases n<;>simp[Instr.sameBits]
 . cases n<;>simp[Instr.sameBits]
def Vj:∀ {t:Ty} {cs:List Value} {x:t.den},Gu t=true->C8 t w Z cs x->∀v∈cs,(∃k a,v= .int k a)\/(∃b,v= .bool b)
 | .int k,_,x,_,h=>by rw[h.1];intro v c;simp at c;exact .inl ⟨_,_,c⟩
 | .bool,_,x,_,h=>by rw[show _= _ from h];intro v c;simp at c;exact .inr ⟨_,c⟩
 | .unit,_,_,_,h=>by rw[show _= _ from h];intro v c;cases c
 | .pair a b,_,_,d,⟨c1,h,e,f,g⟩=>by
  simp only[Gu,qC]at d;rw[e];intro v c;rcases rA.1 c with c|c
  . exact Vj d.1 f v c
  . exact Vj d.2 g v c
 | .str,_,_,h,_=>by cases h
 | .sl _,_,_,h,_=>by cases h
 | .ptr _,_,_,h,_=>by cases h
 | .mp _ _ _ _,_,_,h,_=>by cases h
def A0z:∀(cs:List Value) (n:Nat),(∀v∈cs,(∃k a,v= .int k a)\/(∃b,v= .bool b))->(cs.zip cs).all (λx=>Instr.sameBits n x.1 x.2)=true
 | [],_,_=>rfl
 |c::cs,n,h=>by
  simp only[List.zip_cons_cons,tO,qC];exact⟨A0y c n (h c (by simp)),A0z cs n (λv d=>h v (by simp[d]))⟩
def B5e {a:Bool} {t:Ty} {v:Value} {x:t.den} (b:Gu t=true) (h:U3 (C8 t w Z) a v x):Instr.sameBits 10000 v v=true:=by
 cases a with
 |true=>
  obtain⟨cs,e,h⟩:=h;subst e;have:=A0z cs 9999 (Vj b h);simp only[Instr.sameBits,beq_self_eq_true,xU];exact this
 |false=>exact A0y v 10000 (Vj (cs:= [v]) b h v (by simp))
def B5f {a:Bool} {t:Ty} {v c:Value} {x:t.den} (d:Gu t=true) (h:U3 (C8 t w Z) a v x) (b:U3 (C8 t w Z) a c x):v=c:=by
 cases a with
 |true=>
  obtain⟨cs,e,h⟩:=h;obtain⟨cs',f,b⟩:=b;rw[e,f,Ov d h b]
 |false=>
  have:=Ov (cs:= [v]) (cs':= [c]) d h b;simpa using this
def oL {a:Ty} {d:Type} {Rk:Value->a.den->Prop} {Rv:Value->d->Prop} {k:a.den} {v:d} {kv vv:Value} {cl:Nat} (g:Rk kv k) (h:Rv vv v):∀ {l:List (a.den×d)} {es:List MapEntry} {i:Nat},T6 Rk Rv es l->
 (P3 a k l i=none->T6 Rk Rv (es++ [{key:=kv,val:=vv,born:=cl}]) (Ga a k v l))/\(∀j,P3 a k l i=some (i+j)->T6 Rk Rv (es.modify j λe=> {e with key:=kv,val:=vv}) (Ga a k v l))
 | [],es,i,b=>by
  rw[show es= []from b];exact⟨λ_=>⟨_,[],rfl,g,h,rfl⟩,λj c=>by cases c⟩
 |x::l,_,i,⟨e,u,t,n,o,r⟩=>by
  subst t;simp only[P3,Ga];cases f:FJ a k x.1 with
  |true=>
   refine⟨λb=>by simp at b,λj c=>?_⟩;simp only[qW,rF]at c;have:j=0:=ω
   subst this;exact⟨_,_,rfl,g,h,r⟩
  |false=>
   simp only[rI];have c:=oL (cl:=cl) g h (i:=i+1) r;refine⟨λb=>⟨e,_,rfl,n,o,c.1 b⟩,λj s=>?_⟩;cases j with
   |zero=>
    exfalso;have:∀(l:List (a.den×d)) (i j:Nat),P3 a k l i=some j->i<=j:=by
     intro l
     induction l with
     |nil=>intro i j b;cases b
     |cons y l c=>
      intro i j b;unfold P3 at b;cases f:FJ a k y.1 with
      |true=>simp[f]at b;omega
      |false=>simp[f]at b;have:=c _ _ b;omega
    have:=this _ _ _ s;omega
   |succ j=>exact⟨e,_,rfl,n,o,c.2 j (by rw[s];congr 1;omega)⟩
def Jy (f:MapEntry->MapEntry) (a:∀e,(f e).born=e.born):∀(l:List MapEntry) (j:Nat),(l.modify j f).map (·.born)=l.map (·.born)
 | [],j=>by cases j<;>rfl
 |x::l,0=>by simp[a]
 |x::l,j+1=>by simp[Jy f a l j]
def fO (h:C5 za w0 st E w Z B) (aq:G9 cx.P cx.tys=true) {T:TypeId} {m x y:Operand} (f:OJ cx st T m x y=some st'):
 ∃w',Gw.IZ cx.P E ty (.mapUpdate T m x y) w w'/\Gw.IZ cx.P E ty (.insert T m x y) w w'/\∃Z' B',C5 za w0 st' E w' Z' B':=by
 simp only[OJ,qI,bind_some]at f;obtain⟨ti,ap,az,⟨aw,an,ae⟩,b5,N,b6,ao,f⟩:=f;obtain⟨Z1,r⟩:=h.settleO y;split at f
 . rename_i z g A D k aa;simp only[bind_some]at f;obtain⟨l,c,key,ag,Q,au,f⟩:=f;cases f;obtain⟨a6,J,_,_⟩:=Vw (C3 aq ap) aa;have ad:=r.c1 (F4 E) (bind_some.2 ⟨aw,an,ae⟩);have s:=Eh (r.ev (F4 E) N).1 ag;have av:=Eh (r.ev (F4 E) ao).1 au;have M:=HD J;have a1:live ((settleO st y).L k):=by
    simp only[mapM]at c;cases j:(settleO st y).L k<;>rw[j]at c<;>simp at c<;>trivial
   have a9:∃b d cl,B k= .map (some b)/\up za w0 k b/\¬Z1 b/\w.heap[b]? =some (.map d cl)/\MOk d cl/\Qx w Z1 z g A D d.toList l:=by
    simp only[mapM]at c;have:=r.locs k;cases j:(settleO st y).L k with
    |map b3 b4 b7 b8 ak=>
     rw[j]at c this;simp only at c;split at c
     . rename_i I;cases I;cases c;exact this
     . cases c
    | _=>rw[j]at c;simp at c
   obtain⟨b,d,cl,F,ar,a3,G,t,H⟩:=a9;have a2:Gw.ev E m= .map (some b):=(show Gw.ev E m=B k from ad.1).trans F;have ai:b<w.heap.size:=(rW.1 G).1;have X:=λem=>Rn J s w em
   have Y:=Zi J s w H;have a0:(getObj b).run cx.P w= .ok (.map d cl) w:=by simp[getObj,Sem.run,G]
   have a5:∀o,(setObj b o).run cx.P w= .ok () {w with heap:=w.heap.setIfInBounds b o} :=λo=>by simp[setObj,Sem.run,G]
   have W:∀o,UY b w {w with heap:=w.heap.setIfInBounds b o} :=λo=>⟨rfl,rfl,⟨rfl,qP _⟩,by simp,λq j=>by simp[tN,Ne.symm j]⟩
   have aj:∀o,({w with heap:=w.heap.setIfInBounds b o} :World).heap[b]? =some o:=λo=>by simp[tN,ai]
   have fin:∀ents' cl',MOk ents' cl'->Qx w Z1 z g A D ents'.toList (Ga g key Q l)->∃Z' B',C5 za w0 ((settleO st y).setL k (.map z g A D (Ga g key Q l))) E {w with heap:=w.heap.setIfInBounds b (.map ents' cl')} Z' B':=λents' cl' hmo' he'=>by
    have ak:O2 Z1 w {w with heap:=w.heap.setIfInBounds b (.map ents' cl')} :=λR O=>(W _).2.2.2.2 R (λI=>a3 (I▸O))
    exact⟨Z1,B,r.chg a1 (B8.of a1 (by rw[F];rfl)) (W _) (lc:= .map z g A D (Ga g key Q l)) ⟨b,ents',cl',F,ar,a3,aj _,hmo',he'.mono (λ_=>id) ak⟩ trivial (λ_ I=> .inl I)⟩
   have a4:=oL (cl:=cl) (kv:=Gw.ev E x) (vv:=Gw.ev E y) s av (i:=0) H;rcases CR (k:=key) (i:=0) H with⟨n,_⟩ | ⟨v,a7,b9,n,U,b0,b1,V,a8⟩
   . have u:(Instr.mapUpdate T (Gw.ev E m) (Gw.ev E x) (Gw.ev E y)).run cx.P w= .ok () {w with heap:=w.heap.setIfInBounds b (.map (d.push {key:=Gw.ev E x,val:=Gw.ev E y,born:=cl}) (cl+1))} :=by
      unfold Instr.mapUpdate;simp only[Sem.run_bind,run_underlying a6,Result.andThen_ok,a2,a0,X,Y,n,g2j,a5]
     refine⟨_,λ_ _ _ _=>?_,λ_ _ _ _=>?_,fin _ (cl+1) ⟨λx a=>?_,?_⟩ (by rw[g1w];exact a4.1 n)⟩
     . simp[execOp,u]
     . simp[execOp,u]
     . rw[g1w,rA]at a;rcases a with a|a
       . have:=t.1 x a;omega
       . simp at a;subst a;exact rN _
     . rw[g1w,vG,tW];refine⟨t.2,by simp,λay ab b ac=>?_⟩;simp at ac;obtain⟨x,a,rfl⟩:=tU.1 ab;have:=t.1 x a;omega
   . have ah:=(UI M).1 a8;rw[<-ah]at V;have N:=B5f M V s;have af:d[v]? =some a7:=by simpa using U
     have am:=B5e M s;have u:(Instr.mapUpdate T (Gw.ev E m) (Gw.ev E x) (Gw.ev E y)).run cx.P w= .ok () {w with heap:=w.heap.setIfInBounds b (.map (d.modify v λe=> {e with key:=Gw.ev E x,val:=Gw.ev E y}) cl)} :=by
      have I:P3 g key l 0=some v:=by rw[n,rY]
      unfold Instr.mapUpdate;simp only[Sem.run_bind,run_underlying a6,Result.andThen_ok,a2,a0,X,Y,I,wI,U,wQ,af,vX,N];simp[Instr.keyThatStays,am,a5]
     refine⟨_,λ_ _ _ _=>?_,λ_ _ _ _=>?_,fin _ cl ⟨λR a=>?_,?_⟩ (by rw[g0z];exact a4.2 v n)⟩
     . simp[execOp,u]
     . simp[execOp,u]
     . rw[g0z]at a;have:R.born∈(d.toList.modify v λe=> {e with key:=Gw.ev E x,val:=Gw.ev E y}).map (·.born):=vZ a;rw[Jy (λe:MapEntry=> {e with key:=Gw.ev E x,val:=Gw.ev E y}) (λ_=>rfl)]at this;obtain⟨ax,O,b2⟩:=tU.1 this;have:=t.1 ax O;omega
     . rw[g0z,Jy (λe:MapEntry=> {e with key:=Gw.ev E x,val:=Gw.ev E y}) (λ_=>rfl)];exact t.2
 . cases f
def UM {c d:Bool} {a b:Ty} {q:Nat} {es:List (a.den×b.den)} (h:mapM st c a d b q=some es):st.L q= .map c a d b es:=by
 unfold mapM at h;split at h
 . rename_i g;split at h
   . rename_i f;cases f;cases h;exact g
   . cases h
 . cases h
def A9r (h:C5 za w0 st E w Z B) {T:TypeId} {m s y:Operand} (a:WO st m s y=some st'):∃w',Gw.IZ cx.P E ty (.entryStore T m s y) w w'/\∃Z' B',C5 za w0 st' E w' Z' B':=by unfold WO at a;cases a
def B0e (h:C5 za w0 st E w Z B) (f:G9 cx.P cx.tys=true) {T:TypeId} {m x:Operand} (a:XN cx st d T m x=some st') (c:k st') (b:E1 all ⟨some d, .mapEntry T m x,ty,pos,aft,g⟩ E=true):J6 cx.P all ⟨some d, .mapEntry T m x,ty,pos,aft,g⟩ (dY za w0 w true k) E w:=by unfold XN at a;cases a
def WB (cx:Cx) (st:St) (T:TypeId) (x:Operand):Option St:=none
def A9f {ty:TypeId} {st':St} (h:C5 za w0 st E w Z B) (b:G9 cx.P cx.tys=true) {T:TypeId} {x:Operand} (a:WB cx st T x=some st'):∃v w',Gw.E4 cx.P E ty (.call ⟨.builtin .clear, #[x], #[T]⟩) w v w'/\C5 za w0 st' E w' Z B:=by unfold WB at a;cases a
end
end Go.Vc
