/- Part. -/
import Derived.Laws.CopyRow
import Derived.Test.YtdbnghliccifcaaGreatKLA
set_option linter.all false
namespace Go.Vc
open Go Go.RowKit Go.Gw
open Go.IntKind (i64)
section
variable {za:Zn} {w0 w:World} {Z:Nat->Prop} {B:Nat->Value} {st:St} {E:G8} {P:Program}
def A4w (w:World) (Z:Nat->Prop) (B:Nat->Value):List (Nat×List C)->List (Nat×Value)->Prop
 | [],a=>a= []
 | (i,b)::r,c=>∃v a,c=(i,v)::a/\Db w Z B b v.cells.toList/\A4w w Z B r a
def jJ {place:Nat->Option (Nat×Nat)} :∀ {parts:List (Nat×List C)} {j:List (Nat×Value)} {cs cs':List C} {vs:Array Value},A4w w Z B parts j->Db w Z B cs vs.toList->Zp place cs parts=some cs'->∃d,Instr.fill place vs j=some d/\Db w Z B cs' d.toList
 | [],_,cs,cs',vs,b,h,a=>by
  rw[show _= _ from b];simp only[Zp,rF]at a;subst a;exact⟨vs,rfl,h⟩
 | (z,i)::F,_,cs,cs',vs,⟨v,j,e,k,l⟩,h,b=>by
  subst e;simp only[Zp]at b;cases g:place z with
  |none=>simp[g]at b
  |some q=>
   obtain⟨a,sz⟩:=q;simp only[g]at b;cases c:Nat.beq i.length sz&&Nat.ble (a+sz) cs.length with
   |false=>simp[c]at b
   |true=>
    simp only[c,qS]at b;simp only[qC]at c;have s:i.length=sz:=qD c.1;have E:a+sz<=cs.length:=qO c.2;have u:v.cells.size=sz:=by rw[<-s,k.len];simp
    have D:cs.length=vs.size:=by rw[h.len];simp
    have f:=Vz a v.cells.toList 0 vs (by simp;omega);simp only[tK]at f;generalize r:(v.cells.toList.zipIdx 0).foldl (λcs (x:Value×Nat)=>cs.setIfInBounds (a+x.2) x.1) vs=A at f;have t:Db w Z B (cs.take a++i++cs.drop (a+sz)) A.toList:=by
     rw[f];have y:v.cells.toList.length=sz:=by simpa using u
     rw[y];exact((h.take a).append k).append (h.drop (a+sz))
    obtain⟨d,n,o⟩:=jJ l t b;refine⟨d,?_,o⟩;unfold Instr.fill;simp only[g];rw[qL (by simp;omega)];rw[<-n, <-r, <-g3y];simp
def PP {place:Nat->Option (Nat×Nat)} {Q:C->Prop} :∀ {parts:List (Nat×List C)} {cs cs':List C},(∀x∈parts,∀c∈x.2,Q c)->(∀c∈cs,Q c)->Zp place cs parts=some cs'->∀c∈cs',Q c
 | [],cs,cs',_,h,a=>by
  simp only[Zp,rF]at a;subst a;exact h
 | (i,j)::r,cs,cs',f,h,b=>by
  simp only[Zp]at b;cases g:place i with
  |none=>simp[g]at b
  |some q=>
   simp only[g]at b;cases d:Nat.beq j.length q.2&&Nat.ble (q.1+q.2) cs.length with
   |false=>simp[d]at b
   |true=>
    simp only[d,qS]at b;refine PP (λx k=>f x (qI _ k)) ?_ b;intro c a;simp only[qU]at a;rcases a with(a|a) |a
    . exact h c (rO a)
    . exact f (i,j) (by simp) c a
    exact h c (vM a)
def Le (st:St) (ctx:Ia):List (Nat×Operand)->Option (List (Nat×List C))
 | []=>some []
 | (i,x)::r=>match st.ev ctx x with
  |some s=>bif s.cs.all Ft then(Le st ctx r).map λl=>(i,s.cs)::l else none
  |none=>none
def RS.cells (h:C3 za w0 st E w Z B) {s:SV} {v:Value} (a:RS w Z B s v) (i:s.cs.all Ft=true):Db w Z B s.cs v.cells.toList:=by
 obtain⟨f,b⟩:=s;cases f with
 |true=>obtain⟨d,e,a⟩:=a;subst e;exact a
 |false=>
  have a:Db w Z B b [v]:=a
  match b,a with
  | [c],k=>
   obtain⟨u,l,e,d,g⟩:=k;cases e;have j:=RC.one h (by simpa using i) d;have:v.cells= #[v]:=by cases v<;>simp[Value.cells,Value.oneCell']at j|-
   rw[this];exact⟨v,[],rfl,d,g⟩
  | [],d=>cases d
  |c::j::r,g=>obtain⟨u,l,e,k,⟨_,_,d,_⟩⟩:=g;cases e;cases d
def Ma (h:C3 za w0 st E w Z B) {ctx:Ia} (i:Q3 E ctx):∀ {parts:List (Nat×Operand)} {l:List (Nat×List C)},Le st ctx parts=some l->A4w w Z B l (parts.map λx=>(x.1,Gw.ev E x.2))/\∀x∈l,∀c∈x.2,Cz st.nx c
 | [],l,a=>by cases a;exact⟨rfl,by simp⟩
 | (t,x)::r,l,a=>by
  simp only[Le]at a;cases f:st.ev ctx x with
  |none=>simp[f]at a
  |some s=>
   simp only[f]at a;cases b:s.cs.all Ft with
   |false=>simp only[b,rI]at a;cases a
   |true=>
    simp only[b,qS]at a;cases d:Le st ctx r with
    |none=>simp[d]at a
    |some u=>
     simp[d]at a;subst a;obtain⟨j,k⟩:=h.ev i f;obtain⟨n,o⟩:=Ma h i d;refine⟨⟨Gw.ev E x,_,rfl,RS.cells h j b,n⟩,λy g=>?_⟩;rcases qW.1 g with rfl|g
     . exact k
     exact o y g
def CS (t:Ty):List C:=(Em t).map Qc
def Gj {T:TypeId} {t:Ty} (h:Rb P T t=true):∃z,Fq P T=some z/\z.cells.toList=Em t:=by
 unfold Rb at h;split at h
 . rename_i z a;split at h
   . rename_i b;exact⟨z,a,by rw[lS b];simp⟩
   cases h
 cases h
def B1n (h:C3 za w0 st E w Z B) {ctx:Ia} (a:Q3 E ctx) {T ty:TypeId} {t:Ty} {parts:List (Nat×Operand)} {l:List (Nat×List C)} {cs:List C} {pl:List (Nat×Nat)} (d:Rb P T t=true) (k:EF P T=some pl)
 (b:Le st ctx parts=some l) (c:Zp (λi=>pl[i]?) (CS t) l=some cs):Xq P st E w Z B ty (.build T parts.toArray) (.one ⟨true,cs⟩):=by
 obtain⟨z,o,r⟩:=Gj d;obtain⟨d,f⟩:=Ma h a b;have b:=Dc (w:=w) (Z:=Z) (B:=B) (n:=st.nx) (Em t);obtain⟨a,g,j⟩:=jJ (vs:=z.cells) d (by rw[r];exact b.1) c;exact⟨.agg a,λd _=>C0y a o k g,λ_=>⟨a.toList,by simp,j⟩,PP f b.2 c⟩
def iV (h:C3 za w0 st E w Z B) {ctx:Ia} (a:Q3 E ctx) {T ty e:TypeId} {t:Ty} {len sz:Nat} {parts:List (Nat×Operand)} {l:List (Nat×List C)} {cs:List C} (d:Rb P T t=true) (k:P.underlying T=some (.array len e)) (o:Tf P e sz=true)
 (b:Le st ctx parts=some l) (c:Zp (λi=>some (i*sz,sz)) (CS t) l=some cs):Xq P st E w Z B ty (.build T parts.toArray) (.one ⟨true,cs⟩):=by
 obtain⟨z,r,s⟩:=Gj d;obtain⟨d,f⟩:=Ma h a b;have b:=Dc (w:=w) (Z:=Z) (B:=B) (n:=st.nx) (Em t);obtain⟨a,g,j⟩:=jJ (vs:=z.cells) d (by rw[s];exact b.1) c;exact⟨.agg a,λd _=>A0y a r k o g,λ_=>⟨a.toList,by simp,j⟩,PP f b.2 c⟩
def A8b:List SV->Option (List Nat)
 | []=>some []
 | ⟨false,[.box k 0]⟩::r=>(A8b r).map (k:: ·)
 | _=>none
def evL (st:St) (ctx:Ia):List Operand->Option (List SV)
 | []=>some []
 |x::r=>match st.ev ctx x with
  |some s=>(evL st ctx r).map (s:: ·)
  |none=>none
def XO (h:C3 za w0 st E w Z B) {ctx:Ia} (f:Q3 E ctx):∀ {xs:List Operand} {ss:List SV},evL st ctx xs=some ss->Nz w Z B ss (xs.map (Gw.ev E))/\∀s∈ss,Mp st.nx s
 | [],ss,a=>by cases a;exact⟨rfl,by simp⟩
 |x::r,ss,a=>by
  simp only[evL]at a;cases c:st.ev ctx x with
  |none=>simp[c]at a
  |some s=>
   simp only[c]at a;cases b:evL st ctx r with
   |none=>simp[b]at a
   |some l=>
    simp[b]at a;subst a;obtain⟨g,i⟩:=h.ev f c;obtain⟨j,k⟩:=XO h f b;refine⟨⟨_,_,rfl,g,j⟩,λy d=>?_⟩;rcases qW.1 d with rfl|d
    . exact i
    exact k y d
def A5c {n:Nat} :∀ {ss:List SV} {b:List Nat} {vs:List Value},Nz w Z B ss vs->(∀s∈ss,Mp n s)->A8b ss=some b->vs=b.map B/\∀k∈b,k<n
 | [],b,vs,h,_,a=>by cases a;exact⟨h,by simp⟩
 |s::v,b,vs,⟨A,D,e,i,j⟩,g,a=>by
  unfold A8b at a;split at a
  . rename_i c;cases c
  . rename_i k z c;cases c;cases f:A8b v with
    |none=>simp[f]at a
    |some y=>
     simp[f]at a;subst a;obtain⟨l,o⟩:=A5c j (λs hs=>g s (qI _ hs)) f;obtain⟨_,_,h,⟨x,r,u⟩,_⟩:=i;cases h;have t:=g ⟨false,[.box k 0]⟩ (by simp) (.box k 0) (by simp);refine⟨by rw[e,l,u, <-r];rfl,λq d=>?_⟩;rcases qW.1 d with rfl|d
     . exact t
     exact o q d
  cases a
def C3q (h:C3 za w0 st E w Z B) {ctx:Ia} (g:Q3 E ctx) {ty:TypeId} {f:FuncId} {a:List Operand} {ss:List SV} {b:List Nat} (c:evL st ctx a=some ss) (d:A8b ss=some b):
 Xq P st E w Z B ty (.makeFunc (.func f) #[] a.toArray) (.one ⟨false,[.fn f b]⟩):=by
 obtain⟨a,b⟩:=XO h g c;obtain⟨c,g⟩:=A5c a b d;exact Hf (λa _=>C8o c) rfl g
def B5j (e:Bool):C->C->Option C
 | .val t x, .val a y=>if h:a=t then some (.val t (L5 e x (h▸y)))else none
 | _,_=>none
def B5k {e:Bool} {c1 a c:C} {v1 v2:Value} (h:B5j e c1 a=some c) (b:e=true->RC w Z B c1 v1) (d:e=false->RC w Z B a v2):RC w Z B c (bif e then v1 else v2)/\∀n,Cz n c:=by
 unfold B5j at h;split at h
 . split at h
   . rename_i t x g y f;subst f;cases h;refine⟨?_,λ_=>trivial⟩;cases e with
     |true=>exact b rfl
     |false=>exact d rfl
   cases h
 cases h
end
def Rx:Ty->Bool
 | .ptr _=>false
 | .pair a b=>Rx a&&Rx b
 | _=>true
def OG {w:World} {Z:Nat->Prop} :∀ {t:Ty},Rx t=true->C9 t w Z (Em t) t.dflt
 | .int k,_=>⟨rfl,oP k⟩
 | .bool,_=>rfl
 | .str,_=>rfl
 | .unit,_=>rfl
 | .pair a b,h=>by
  simp only[Rx,qC]at h;exact⟨_,_,rfl,OG h.1,OG h.2⟩
 | .sl _,_=>⟨none,0,rfl,qV _,rS _,λ_=>rfl, .inl rfl⟩
 | .ptr _,h=>by cases h
 | .mp _ _ _ _,_=> .inl ⟨rfl,rfl⟩
def B8v (f:St) (c:Bool) (a:Ty) (d:Bool) (b:Ty):C->Option (List (a.den×b.den))
 | .mp k=>match f.L k with
  | .map f g h i j=>if k:Ty.mp f g h i=Ty.mp c a d b then some (k▸(show(Ty.mp f g h i).den from j):(Ty.mp c a d b).den)else none
  | .mapE f g h i j _ _=>if k:Ty.mp f g h i=Ty.mp c a d b then some (k▸(show(Ty.mp f g h i).den from j):(Ty.mp c a d b).den)else none
  | _=>none
 | .val t f=>if h:t=Ty.mp c a d b then some (h▸f:(Ty.mp c a d b).den)else none
 | .raw (.map none)=>some []
 | _=>none
def B9a (a:St) (ctx:Ia) (x:Operand):Option (Option Prop×DV):=
 match a.ev ctx x with
 |some s=>some (none, .one s)
 |none=>match x with
  | .tmp t=>match a.S t with
   | .tup a=>some (none, .tup a)
   | _=>none
  | _=>none
def C3w (a:St) (b:Bool):Operand->Ia
 | .tmp t=>gctx a 20 t b
 | _=> []
def one1 (c:C):DV:= .one ⟨false,[c]⟩
def A3t (d:St) (ctx:Ia) (c a b:Operand):Option (Option Prop×DV):=do
 let e<-(d.ev ctx c).bind RU
 let f<-(d.ev (C3w d true c++ctx) a).bind c1
 let g<-(d.ev (C3w d false c++ctx) b).bind c1
 (B5j e f g).map λc=>(none,one1 c)
def B6n (a:St) (ctx:Ia) (op:UnOp) (x:Operand):Option (Option Prop×DV):=do
 let c<-(a.ev ctx x).bind c1
 (unC op c).map λc=>(none,one1 c)
def jT:C->Bool
 | .val .bool _=>true
 | _=>false
def A2a (cx:Cx) (a:St) (ctx:Ia) (op:BinOp) (T:TypeId) (x y:Operand):Option (Option Prop×DV):=do
 let b<-a.ev ctx x
 let c<-a.ev ctx y
 match c1 b,c1 c with
 |some a,some d=>bif jT a&& !(isB cx.P T)then none else(C2f op a d).map λr=>(r.1,one1 r.2)
 | _,_=>do
  let ti<-cx.ti T
  let a<-Sj true ti.ty b
  let b<-Sj true ti.ty c
  bif ti.eq&&ti.agg then(match op with
   | .eql=>some (none,one1 (.val .bool (GR ti.ty a b)))
   | .neq=>some (none,one1 (.val .bool (!(GR ti.ty a b))))
   | _=>none)else none
def PN (a:St) (x:Operand) (i:Nat):Option (Option Prop×DV):=
 match x with
 | .tmp t=>match a.S t with
  | .tup a=>(a[i]?).map λs=>(none, .one s)
  | _=>none
 | _=>none
def Zm (cx:Cx) (a:St) (ctx:Ia) (T:TypeId) (x:Operand) (f:Nat):Option (Option Prop×DV):=do
 let ti<-cx.ti T
 let q<-ti.fields[f]?
 let c<-(a.ev ctx x).bind c1
 (faC q.1 c).map λc=>(none,one1 c)
def jI (cx:Cx) (a:St) (ctx:Ia) (T:TypeId) (x:Operand) (f:Nat):Option (Option Prop×DV):=do
 let ti<-cx.ti T
 let q<-ti.fields[f]?
 let s<-a.ev ctx x
 bif s.agg then(cut q.1 q.2.1 s.cs).map λa=>(none, .one ⟨q.2.2,a⟩)else none
def YF (cx:Cx) (a:St) (ctx:Ia) (T:TypeId) (x:Operand):Option (Option Prop×DV):=do
 let ti<-cx.ti T
 let c<-(a.ev ctx x).bind c1
 (A6f a ti.ty.size c).map λb=>(none, .one ⟨ti.agg,b⟩)
def C5y (cx:Cx) (a:St) (ctx:Ia) (ti:TI) (x ix:Operand):Option (Option Prop×DV):=do
 let d<-cx.ti ti.elem
 let c<-(a.ev ctx x).bind c1
 let i<-(a.ev ctx ix).bind UB
 (faC (i.toNat*d.ty.size) c).map λb=>(some (0<=i/\i<(ti.arr:Int)),one1 b)
def B1f (u:Ty):Nat->Ty
 |0=> .unit
 |1=>u
 |n+2=> .pair u (B1f u (n+1))
def selA (u:Ty):(n:Nat)->(B1f u n).den->Int->u.den
 |0,_,_=>u.dflt
 |1,x,_=>x
 |n+2,x,i=>L5 (decide (i=0)) x.1 (selA u (n+1) x.2 (i-1))
def C6a (cx:Cx) (b:St) (ctx:Ia) (ti:TI) (x ix:Operand):Option (Option Prop×DV):=do
 let a<-cx.ti ti.elem
 let c<-(b.ev ctx x).bind c1
 let i<-(b.ev ctx ix).bind UB
 match c with
 | .pf t y 0=>if h:t=B1f a.ty ti.arr then some (some (0<=i/\i<(ti.arr:Int)),one1 (.pf a.ty (selA a.ty ti.arr (h▸y) i) 0))else none
 | _=>none
def A5y:Operand->Bool
 | .const _=>true
 | _=>false
def B3p (a:St) (ctx:Ia) (x:Operand):Bool:=match(a.ev ctx x).bind c1 with
 |some (.box _ _)=>true
 | _=>false
def C5z (cx:Cx) (a:St) (ctx:Ia) (T:TypeId) (x:Operand):Option (Option Prop×DV):=do
 let ti<-cx.ti T
 let c<-(a.ev ctx x).bind c1
 match ti.ty,c with
 | .sl t, .raw (.slice none 0 0)=>some (some False,one1 (.pf t t.dflt 0))
 | _,_=>none
def C3d (cx:Cx) (a:St) (ctx:Ia) (T:TypeId) (x ix:Operand):Option (Option Prop×DV):=do
 let ti<-cx.ti T
 let c<-(a.ev ctx x).bind c1
 let i<-(a.ev ctx ix).bind UB
 let r<-C3c a i c
 match ti.ty,r.2 with
 | .sl t, .pf a _ _=>bif decide (t=a)then some (r.1,one1 r.2)else none
 | .sl t, .elp _ sz _ _=>bif Nat.beq t.size sz then some (r.1,one1 r.2)else none
 | _,_=>none
def B3h (cx:Cx) (a:St) (ctx:Ia) (T:TypeId) (x ix:Operand):Option (Option Prop×DV):=
 match cx.ti T with
 |some ti=>bif Nat.beq ti.arr 0 then(match C5z cx a ctx T x with
  |some r=>some r
  |none=>C3d cx a ctx T x ix)else(bif A5y ix||B3p a ctx x then C5y cx a ctx ti x ix else C6a cx a ctx ti x ix)
 |none=>none
def C6j:C->Bool
 | .box _ _=>true
 | .elp _ _ _ _=>true
 | .pf _ _ _=>true
 | .fn _ _=>true
 | .fv _ _ _ _ _ _=>true
 | _=>false
def B4p (a:St) (ctx:Ia) (x:Operand):Option (Option Prop×DV):=do
 let c<-(a.ev ctx x).bind c1
 bif C6j c then some (none,one1 c)else none
def B9d (a:St) (ctx:Ia):Option Operand->Option (Option Int)
 |none=>some none
 |some o=>((a.ev ctx o).bind UB).map some
def aF (a:St) (ctx:Ia) (x lo b:Operand):Option (Option Prop×DV):=do
 let c<-(a.ev ctx x).bind c1
 let l<-(a.ev ctx lo).bind UB
 let h<-(a.ev ctx b).bind UB
 match c with
 | .val .str s=>some (some (0<=l/\l<=h/\h<=(s.data.toList.length:Int)),one1 (.val .str (s.extract l.toNat h.toNat)))
 | _=>none
def B3r (cx:Cx) (T:TypeId):Bool:=match cx.ti T with
 |some ti=>(match ti.ty with| .str=>true| _=>false)
 |none=>false
def lF (cx:Cx) (a:St) (ctx:Ia) (T:TypeId) (x:Operand) (lo b:Option Operand):Option (Option Prop×DV):=
 bif B3r cx T then(match lo,b with|some l,some h=>aF a ctx x l h| _,_=>none)else do
 let ti<-cx.ti T
 let c<-(a.ev ctx x).bind c1
 let l<-B9d a ctx lo
 let h<-B9d a ctx b
 let r<-A4a a l h c
 match ti.ty,r.2 with
 | .sl t, .val (.sl a) _=>bif decide (t=a)then some (r.1,one1 r.2)else none
 | .sl t, .win _ sz _ _=>bif Nat.beq t.size sz then some (r.1,one1 r.2)else none
 | _,_=>none
def A2g (cx:Cx) (a:St) (ctx:Ia) (T T':TypeId) (x:Operand):Option (Option Prop×DV):=do
 let ti<-cx.ti T
 let b<-cx.ti T'
 let c<-(a.ev ctx x).bind c1
 match ti.ty,b.ty,c with
 | .int _, .int a, .val (.int _) b=>some (none,one1 (.val (.int a) (a.wrap b)))
 | _,_,_=>none
def iU (cx:Cx) (a:St) (ctx:Ia) (T:TypeId) (parts:List (Nat×Operand)):Option (Option Prop×DV):=do
 let ti<-cx.ti T
 let l<-Le a ctx parts
 bif ti.fields.isEmpty then(do
  let b<-cx.ti ti.elem
  bif Nat.beq ti.arr 0 then none else(Zp (λi=>some (i*b.ty.size,b.ty.size)) (CS ti.ty) l).map λa=>(none, .one ⟨true,a⟩))
 else(Zp (λi=>(ti.fields.map λx=>(x.1,x.2.1))[i]?) (CS ti.ty) l).map λa=>(none, .one ⟨true,a⟩)
def IA (s:ByteArray) (i:Int):Int:=((s.data.toList.getD i.toNat 0).toNat:Int)
def XZ (a:St) (ctx:Ia) (x ix:Operand):Option (Option Prop×DV):=do
 let c<-(a.ev ctx x).bind c1
 let i<-(a.ev ctx ix).bind UB
 match c with
 | .val .str s=>some (some (0<=i/\i<(s.data.toList.length:Int)),one1 (.val (.int .u8) (IA s i)))
 | _=>none
def XY (cx:Cx) (a:St) (ctx:Ia) (T:TypeId) (x ix:Operand):Option (Option Prop×DV):=none
def XX (cx:Cx) (b:St) (ctx:Ia) (T:TypeId) (x ix:Operand):Option (Option Prop×DV):=do
 let ti<-cx.ti T
 let a<-cx.ti ti.elem
 let s<-b.ev ctx x
 let i<-(b.ev ctx ix).bind UB
 bif s.agg&&a.agg&& !(Nat.beq ti.arr 0)then(cut (i.toNat*a.ty.size) a.ty.size s.cs).map λc=>(some (0<=i/\i<(ti.arr:Int)), .one ⟨true,c⟩)else none
def jO (cx:Cx) (a:St) (ctx:Ia) (T:TypeId) (x ix:Operand):Option (Option Prop×DV):=
 match((cx.ti T).map λt:TI=>t.ty:Option Ty)with
 |some .str=>XZ a ctx x ix
 | _=>match XY cx a ctx T x ix with
  |some r=>some r
  |none=>XX cx a ctx T x ix
def C6d:C->Bool
 | .mp _=>true
 | _=>false
def C3f:Ty->Bool
 | .sl _=>true
 | _=>false
def YG (cx:Cx) (f:St) (ctx:Ia) (T:TypeId) (x ix:Operand) (h:Bool):Option (Option Prop×DV):=do
 let ti<-cx.ti T
 let g<-(f.ev ctx x).bind c1
 let j<-f.ev ctx ix
 match ti.ty with
 | .mp i b d a=>do
  let c<-B8v f i b d a g
  let k<-Sj i b j
  bif ti.rows&&C6d g&&C3f a&& !h&& !d then some (some (I9 b k c=none),one1 (.raw (.slice none 0 0)))else
  bif Rx a then some (none,bif h then .tup [⟨d,explode a ((I9 b k c).getD a.dflt)⟩,⟨false,[.val .bool (I9 b k c).isSome]⟩]else .one ⟨d,explode a ((I9 b k c).getD a.dflt)⟩)else none
 | _=>none
def B4k (c:St) (ctx:Ia) (fn:Fn) (first a:List Operand):Option (Option Prop×DV):=
 match fn,first with
 | .func f,[]=>do
  let b<-evL c ctx a
  let a<-A8b b
  some (none,one1 (.fn f a))
 | _,_=>none
def OZ (cx:Cx) (a:St) (ctx:Ia) (b:Builtin) (args:List Operand) (ts:List TypeId):Option (Option Prop×DV):=
 match b,args,ts with
 | .len,[x],[T]=>do
  let ti<-cx.ti T
  let c<-(a.ev ctx x).bind c1
  let n<-B8p a c
  match ti.ty,c with
  | _, .mp _=>none
  | .str, .val .str _=>some (some (n<=9223372036854775807),one1 (.val (.int .i64) n))
  | _, .val .str _=>none
  | .sl _,_=>some (none,one1 (.val (.int .i64) n))
  | _,_=>none
 | .max,[x,y],_=>do
  match<-(a.ev ctx x).bind c1, <-(a.ev ctx y).bind c1 with
  | .val (.int k) c, .val (.int d) b=>bif decide (k=d)then some (none,one1 (.val (.int k) (max c b)))else none
  | _,_=>none
 | .min,[x,y],_=>do
  match<-(a.ev ctx x).bind c1, <-(a.ev ctx y).bind c1 with
  | .val (.int k) c, .val (.int d) b=>bif decide (k=d)then some (none,one1 (.val (.int k) (min c b)))else none
  | _,_=>none
 | .max,[x,y,z],_=>do
  match<-(a.ev ctx x).bind c1, <-(a.ev ctx y).bind c1, <-(a.ev ctx z).bind c1 with
  | .val (.int k) a, .val (.int d) b, .val (.int f) c=>bif decide (k=d)&&decide (k=f)then some (none,one1 (.val (.int k) (max (max a b) c)))else none
  | _,_,_=>none
 | _,_,_=>none
def Vn (cx:Cx) (a:St) (ctx:Ia):Op->Option (Option Prop×DV)
 | .move x=>B9a a ctx x
 | .assign x=>B9a a ctx x
 | .pick d b c=>A3t a ctx d b c
 | .unOp b _ x=>B6n a ctx b x
 | .binOp b T x y _=>A2a cx a ctx b T x y
 | .extract x i=>PN a x i
 | .fieldAddr T x f=>Zm cx a ctx T x f
 | .field T x f=>jI cx a ctx T x f
 | .load T x=>YF cx a ctx T x
 | .indexAddr T x i=>B3h cx a ctx T x i
 | .index T x i=>jO cx a ctx T x i
 | .lookup T x i b=>YG cx a ctx T x i b
 | .slice T x c b none=>lF cx a ctx T x c b
 | .convert T T' x=>A2g cx a ctx T T' x
 | .build T b=>iU cx a ctx T b.toList
 | .nilCheck x=>B4p a ctx x
 | .makeFunc fn first b=>B4k a ctx fn first.toList b.toList
 | .call ⟨.builtin c,b,d⟩=>OZ cx a ctx c b.toList d.toList
 | _=>none
section
variable {za:Zn} {w0 w:World} {Z:Nat->Prop} {B:Nat->Value} {st:St} {E:G8} {cx:Cx}
def bind_some {α c:Type} {x:Option α} {f:α->Option c} {b:c} :x.bind f=some b↔∃a,x=some a/\f a=some b:=g1z
def C3.tup (h:C3 za w0 st E w Z B) {t:Tmp} {vs:List SV} (c:st.S t= .tup vs):∃us:List Value,E t= .tuple us.toArray/\Nz w Z B vs us/\∀s∈vs,Mp st.nx s:=by
 have b:=h.slots t;have a:=h.refs t;rw[c]at b a;obtain⟨us,e,c⟩:=b;exact⟨us,e,c,a⟩
def Nz.get:∀ {ss:List SV} {vs:List Value} {i:Nat} {s:SV},Nz w Z B ss vs->ss[i]? =some s->∃v,vs[i]? =some v/\RS w Z B s v
 | [],_,_,_,_,a=>by simp at a
 |s'::ss,_,i,s,⟨v,g,e,b,c⟩,a=>by
  cases i with
  |zero=>simp at a;subst a;exact⟨v,by rw[e];rfl,b⟩
  |succ i=>simp at a;obtain⟨u,d,f⟩:=Nz.get c a;exact⟨u,by rw[e];simpa using d,f⟩
def J4 {P:Program} {T:TypeId} {ti:TI} (h:Wc P T ti=true):Tf P T ti.ty.size=true/\(ti.agg=true/\WC P T ti.ty.size=true\/ti.agg=false/\Ei P T=true/\ti.ty.size=1)/\Rb P T ti.ty=true:=by
 simp only[Wc,qC]at h;obtain⟨⟨⟨⟨⟨⟨c,a⟩,d⟩,_⟩,_⟩,_⟩,_⟩:=h;refine⟨c,?_,d⟩;cases b:ti.agg with
 |true=>rw[b]at a;exact .inl ⟨rfl,a⟩
 |false=>simp only[b,rI,qC]at a;exact .inr ⟨rfl,a.1,qD a.2⟩
def EN {P:Program} {T:TypeId} {ti:TI} {t:Ty} (h:Wc P T ti=true) (c:ti.ty= .sl t):Ho P T ti.elem t.size=true/\Rb P ti.elem t=true/\∃i,P.info? ti.elem=some i/\i.bytes=ti.bytes:=by
 simp only[Wc,qC]at h;obtain⟨⟨⟨⟨_,a⟩,_⟩,_⟩,_⟩:=h;rw[c]at a;simp only[qC]at a;refine⟨a.1.1,a.1.2,?_⟩;cases b:P.info? ti.elem with
 |none=>simp[b]at a
 |some i=>simp only[b]at a;exact⟨i,rfl,qD a.2⟩
def A0t {P:Program} {T:TypeId} {ti:TI} {k:IntKind} (h:Wc P T ti=true) (b:ti.ty= .int k):B8j P T k=true:=by
 simp only[Wc,qC]at h;obtain⟨⟨⟨⟨_,a⟩,_⟩,_⟩,_⟩:=h;rw[b]at a;exact a
def BA {P:Program} {T:TypeId} {ti:TI} (h:Wc P T ti=true) (c:ti.fields.isEmpty=false):Zo P T 0 ti.fields=true/\EF P T=some (ti.fields.map λx=>(x.1,x.2.1)):=by
 simp only[Wc,qC]at h;obtain⟨⟨⟨_,a⟩,_⟩,_⟩:=h;simp only[c,rI,qC]at a;refine⟨a.1,?_⟩;cases b:EF P T with
 |none=>simp[b]at a
 |some pl=>simp only[b,rU]at a;rw[a.2]
def NE {P:Program} {T:TypeId} {ti:TI} (h:Wc P T ti=true) (b:Nat.beq ti.arr 0=false):P.underlying T=some (.array ti.arr ti.elem):=by
 simp only[Wc,qC]at h;obtain⟨⟨_,a⟩,_⟩:=h;simp only[b,rI]at a;split at a
 . rename_i n e c;simp only[qC]at a;rw[c,qD a.1,qD a.2]
 cases a
def Wd {P:Program} {T:TypeId} {ti:TI} {c f:Bool} {d g:Ty} (h:Wc P T ti=true) (l:ti.ty= .mp c d f g):P.underlying T=some (.map ti.key ti.elem)/\FH P ti.key c d=true/\Rb P ti.elem g=true/\OF P ti.elem f=true:=by
 simp only[Wc,qC]at h;obtain⟨⟨⟨⟨_,b⟩,_⟩,_⟩,_⟩:=h;rw[l]at b;simp only[qC]at b;obtain⟨⟨⟨a,i⟩,j⟩,k⟩:=b;refine⟨?_,i,j,k⟩;split at a
 . rename_i o e n;simp only[qC]at a;rw[n,qD a.1,qD a.2]
 cases a
def C0w {P:Program} {T:TypeId} {ti:TI} (h:Wc P T ti=true) (a:ti.eq=true):FH P T ti.agg ti.ty=true:=by
 simp only[Wc,qC]at h;have:=h.2;rw[a]at this;exact this
def Uu {P:Program} {T:TypeId} :∀ {l:List (Nat×Nat×Bool)} {a f:Nat} {q:Nat×Nat×Bool},Zo P T a l=true->l[f]? =some q->PO P T (a+f) q.1=true/\A2l P T (a+f) q.2.1 q.2.2=true
 | [],_,_,_,_,b=>by simp at b
 | (d,sz,c)::l,a,f,q,h,b=>by
  simp only[Zo,qC]at h;cases f with
  |zero=>simp at b;subst b;exact h.1
  |succ f=>
   simp at b;have:=Uu h.2 b;rw[(ω:a+1+f=a+(f+1))]at this;exact this
def Jk {α:Type} {l:List α} {i:Nat} {a:α} (h:l[i]? =some a):l.isEmpty=false:=by
 cases l with
 |nil=>simp at h
 |cons _ _=>rfl
end
section
variable {za:Zn} {w0 w:World} {Z:Nat->Prop} {B:Nat->Value} {st:St} {E:G8} {cx:Cx} {ctx:Ia} {ty:TypeId} {φ:Option Prop} {d:DV}
def A6l (h:C3 za w0 st E w Z B) (j:Q3 E ctx) {x:Operand} (a:B9a st ctx x=some (φ,d)):Xq cx.P st E w Z B ty (.move x) d/\Xq cx.P st E w Z B ty (.assign x) d:=by
 unfold B9a at a;cases c:st.ev ctx x with
 |some s=>
  rw[c]at a;cases a;obtain⟨b,f⟩:=h.ev j c;exact⟨⟨_,λg _=>B6t,λ_=>b,f⟩,⟨_,λg _=>A0x,λ_=>b,f⟩⟩
 |none=>
  rw[c]at a;cases x with
  |tmp t=>
   simp only at a;cases b:st.S t with
   |tup l=>
    rw[b]at a;cases a;obtain⟨i,e,f,g⟩:=h.tup b;exact⟨⟨_,λk _=>B6t,λ_=>⟨i,e,f⟩,g⟩,⟨_,λk _=>A0x,λ_=>⟨i,e,f⟩,g⟩⟩
   |one _=>rw[b]at a;cases a
   |cnd _ _ _=>rw[b]at a;cases a
   |dead=>rw[b]at a;cases a
  |const _=>cases a
  |global _=>cases a
  |func _=>cases a
def C3.c1 (h:C3 za w0 st E w Z B) (f:Q3 E ctx) {x:Operand} {c:C} (b:(st.ev ctx x).bind Vc.c1=some c):RC w Z B c (Gw.ev E x)/\Cz st.nx c:=by
 obtain⟨s,g,a⟩:=bind_some.1 b;obtain⟨b,d⟩:=h.ev f g;exact mZ b d a
def C3.int (h:C3 za w0 st E w Z B) (b:Q3 E ctx) {x:Operand} {n:Int} (d:(st.ev ctx x).bind UB=some n):∃k,Gw.ev E x= .int k n/\GU k n:=by
 obtain⟨s,c,a⟩:=bind_some.1 d;exact B8i (h.ev b c).1 a
def A9j (h:C3 za w0 st E w Z B) (j:Q3 E ctx) {c a b:Operand} (l:A3t st ctx c a b=some (φ,d)):Xq cx.P st E w Z B ty (.pick c a b) d:=by
 simp only[A3t,qH,bind_some,qK]at l;obtain⟨e,⟨F,y,u⟩,z,⟨G,n,r⟩,A,⟨H,o,s⟩,D,x,v⟩:=l;cases v;have k:Gw.ev E c= .bool e:=Rl (h.ev j y).1 u;have g:∀q,e=q->Q3 E (C3w st q c++ctx):=λq hq t b f=>by
  rcases qU.1 f with f|f
  . cases c with
    |tmp I=>exact h.gctx (by rw[<-hq];exact k) t b f
    |const _=>cases f
    |global _=>cases f
    |func _=>cases f
  exact j t b f
 have i:=B5k (w:=w) (Z:=Z) (B:=B) (v1:=Gw.ev E a) (v2:=Gw.ev E b) x (λq=>(mZ (h.ev (g true q) n).1 (h.ev (g true q) n).2 r).1) (λq=>(mZ (h.ev (g false q) o).1 (h.ev (g false q) o).2 s).1);exact Hf (λJ _=>C5b k) i.1 (i.2 _)
def B6o (h:C3 za w0 st E w Z B) (b:Q3 E ctx) {op:UnOp} {T:TypeId} {x:Operand} (a:B6n st ctx op x=some (φ,d)):Xq cx.P st E w Z B ty (.unOp op T x) d:=by
 simp only[B6n,qH,bind_some,qK]at a;obtain⟨j,⟨s,i,c⟩,r,g,f⟩:=a;cases f;exact C8i (h.c1 b (bind_some.2 ⟨s,i,c⟩)).1 g
def C8l {P:Program} {T T' ty:TypeId} {x y:Operand} {a:Ty} {u v:a.den} (b:FH P T true a=true) (c:Bl true a w Z (Gw.ev E x) u) (d:Bl true a w Z (Gw.ev E y) v) (w':World):Gw.E2 P E ty (.binOp .eql T x y T') w' (.bool (GR a u v)) w'/\Gw.E2 P E ty (.binOp .neq T x y T') w' (.bool (!(GR a u v))) w':=by
 have f:=fG b c d w';have i:P.eqGuardType P.depth T=false:=by simp only[FH,qC,rN]at b;exact b.1.2
 obtain⟨g,b,_⟩:=c;obtain⟨h,c,_⟩:=d;rw[b,c]at f;refine⟨λ_ _ _ _=>?_,λ_ _ _ _=>?_⟩
 . have d:(eqGuard .eql T x y (.agg g.toArray) (.agg h.toArray)).run P w'= .ok () w':=run_eqGuard_agg w' _ _ _ _ _ _ i;simp only[execOp,b,c];simp[d,run_eql_struct,f,Result.andThen]
 have d:(eqGuard .neq T x y (.agg g.toArray) (.agg h.toArray)).run P w'= .ok () w':=run_eqGuard_agg w' _ _ _ _ _ _ i;simp only[execOp,b,c];simp[d,run_neq_struct,f,Result.andThen]
def A7y (h:C3 za w0 st E w Z B) (I:G7 cx.P cx.tys=true) (n:Q3 E ctx) {op:BinOp} {T T':TypeId} {x y:Operand} (a:A2a cx st ctx op T x y=some (φ,d)) (N:FL φ):Xq cx.P st E w Z B ty (.binOp op T x y T') d:=by
 simp only[A2a,qH,bind_some]at a;obtain⟨U,F,V,G,a⟩:=a;obtain⟨r,O⟩:=h.ev n F;obtain⟨s,Q⟩:=h.ev n G;split at a
 . rename_i g t i j;have J:=(mZ r O i).1;have M:=(mZ s Q j).1;cases k:jT g&& !(isB cx.P T)with
   |true=>simp[k]at a
   |false=>
    simp only[k,rI,qK]at a;obtain⟨R,D,A⟩:=a;cases A;have v:isB cx.P T=true\/∀e,g≠ .val .bool e:=by
     cases z:isB cx.P T with
     |true=>exact .inl rfl
     |false=>
      right;intro e c;subst c;simp[jT,z]at k
    obtain⟨W,o,u,f⟩:=B7j (P:=cx.P) (ty:=ty) (T':=T') D N J M v;exact Hf (λb _=>o b) u (f _)
 simp only[bind_some]at a;obtain⟨ti,H,g,i,t,j,a⟩:=a;obtain⟨c,a⟩:(ti.eq&&ti.agg)=true/\ _:=by
  cases o:(ti.eq&&ti.agg)with
  |false=>simp[o]at a
  |true=>simp only[o,qS]at a;exact⟨rfl,a⟩
 simp only[qC]at c;have f:=C0w (B9 I H) c.1;rw[c.2]at f;have l:=λb=>C8l (P:=cx.P) (ty:=ty) (T':=T') f (Ex r i) (Ex s j) b
 split at a
 . cases a;exact Hf (λb _=>(l b).1) rfl trivial
 . cases a;exact Hf (λb _=>(l b).2) rfl trivial
 cases a
def jH (h:C3 za w0 st E w Z B) {x:Operand} {i:Nat} (a:PN st x i=some (φ,d)):Xq cx.P st E w Z B ty (.extract x i) d:=by
 unfold PN at a;split at a
 . rename_i t;split at a
   . rename_i vs k;simp only[qK]at a;obtain⟨s,b,l⟩:=a;cases l;obtain⟨n,e,c,f⟩:=h.tup k;obtain⟨v,g,j⟩:=Nz.get c b;exact⟨v,λo _=>B0o (vs:=n.toArray) e (by simpa using g),λ_=>j,f s (sW b)⟩
   cases a
 cases a
def XR (h:C3 za w0 st E w Z B) (s:G7 cx.P cx.tys=true) (j:Q3 E ctx) {T:TypeId} {x:Operand} {f:Nat} (c:Zm cx st ctx T x f=some (φ,d)):Xq cx.P st E w Z B ty (.fieldAddr T x f) d:=by
 simp only[Zm,qH,bind_some,qK]at c;obtain⟨ti,r,q,g,u,⟨t,o,k⟩,v,n,l⟩:=c;cases l;have i:=BA (B9 s r) (Jk g);have a:=Uu i.1 g;rw[sD]at a;have b:=h.c1 j (bind_some.2 ⟨t,o,k⟩);exact C5p a.1 b.1 b.2 n
def A2m (h:C3 za w0 st E w Z B) (Q:G7 cx.P cx.tys=true) (i:Q3 E ctx) {T:TypeId} {x:Operand} {f:Nat} (c:jI cx st ctx T x f=some (φ,d)):Xq cx.P st E w Z B ty (.field T x f) d:=by
 simp only[jI,qH,bind_some]at c;obtain⟨ti,O,q,y,V,M,c⟩:=c;obtain⟨D,r⟩:=h.ev i M;have F:=BA (B9 Q O) (Jk y);have s:=Uu F.1 y;rw[sD]at s;obtain⟨W,Y⟩:=V;cases W with
 |false=>simp at c
 |true=>
  simp only[qS,qK]at c;obtain⟨a0,G,H⟩:=c;cases H;obtain⟨k,e,R⟩:=D;obtain⟨g,t,u⟩:=Qd R G;obtain⟨b,a⟩:=s;unfold PO at b;unfold A2l at a;split at b
  . rename_i a1 n;simp only[n]at a;split at b
    . rename_i j l;simp only[l]at a;simp only[qC,g1m]at b;obtain⟨a2,sz,z⟩:=q;simp only at b a g t;obtain⟨J,_⟩:=b;subst J;cases z with
      |true=>
       simp only[qS]at a;refine⟨.agg ((k.drop j.offset).take sz).toArray,λI _ _ _ _ _=>?_,λ_=>⟨_,rfl,g⟩,λo i=>r o (u o i)⟩;obtain⟨v,A⟩:=Je (P:=cx.P) (w:=I) a;simp only[execOp,e];simp[Instr.field,run_underlying n,l,asAgg,part,v,A,go_sem]
      |false=>
       simp only[rI,qC]at a;have N:=qD a.2;subst N
       match U:(k.drop j.offset).take 1,g,t with
       | [v],g,_=>
        have I:k[j.offset]? =some v:=by
         have:((k.drop j.offset).take 1)[0]? =some v:=by rw[U];rfl
         simpa using this
        refine⟨v,λX _ _ _ _ _=>?_,λ_=>g,λo i=>r o (u o i)⟩;have A:=Iw (P:=cx.P) (w:=X) a.1;simp only[execOp,e];simp[Instr.field,run_underlying n,l,asAgg,part,A,I,go_sem]
    cases b
  cases b
def A8y (h:C3 za w0 st E w Z B) (o:G7 cx.P cx.tys=true) (g:Q3 E ctx) {T:TypeId} {x:Operand} (c:YF cx st ctx T x=some (φ,d)):Xq cx.P st E w Z B ty (.load T x) d:=by
 simp only[YF,qH,bind_some,qK]at c;obtain⟨ti,n,r,⟨s,l,i⟩,u,k,j⟩:=c;cases j;obtain⟨t,a,_⟩:=J4 (B9 o n);refine B8t h (h.c1 g (bind_some.2 ⟨s,l,i⟩)).1 k ?_;rcases a with⟨b,a⟩ | ⟨b,a,f⟩
 . exact .inl ⟨b,a⟩
 exact .inr ⟨b,a,f⟩
def B8d (h:C3 za w0 st E w Z B) (n:G7 cx.P cx.tys=true) (j:Q3 E ctx) {T:TypeId} {x ix:Operand} (a:C3d cx st ctx T x ix=some (φ,d)) (o:FL φ):Xq cx.P st E w Z B ty (.indexAddr T x ix) d:=by
 simp only[C3d,qH,bind_some]at a;obtain⟨ti,l,J,⟨s,A,v⟩,N,⟨H,D,z⟩,G,k,a⟩:=a;have c:=h.c1 j (bind_some.2 ⟨s,A,v⟩);obtain⟨Q,i,_⟩:=h.int j (bind_some.2 ⟨H,D,z⟩);obtain⟨X,M⟩:=G;simp only at a;split at a
 . rename_i t I V F g;cases b:decide (t=I)with
   |false=>simp[b]at a
   |true=>
    simp only[b,qS]at a;cases a;have:=qA b;subst this;have u:=EN (B9 n l) g;refine B3j h c.1 i k o (e:=ti.elem) (λs y=>?_) c.2;rcases y with⟨U,W,f,r⟩ | ⟨_,_,f⟩
    . cases f;subst r;exact u.1
    cases f
 . rename_i t R sz O F g;cases b:Nat.beq t.size sz with
   |false=>simp[b]at a
   |true=>
    simp only[b,qS]at a;cases a;have:=qD b;have r:=EN (B9 n l) g;refine B3j h c.1 i k o (e:=ti.elem) (λs u=>?_) c.2;rcases u with⟨U,W,f,y⟩ | ⟨_,_,f⟩
    . cases f
    cases f;rw[<-this];exact r.1
 cases a
def lO {P:Program} {T e ty:TypeId} {x ix:Operand} {k:IntKind} {i:Int} {b o n sz:Nat} (h:Gw.ev E x= .pointer (some ⟨b,o,none⟩)) (f:Gw.ev E ix= .int k i) (g:P.underlying T=some (.array n e)) (j:Tf P e sz=true) (a:0<=i) (c:i<(n:Int)) (w:World):
 Gw.E2 P E ty (.indexAddr T x ix) w (.pointer (some ⟨b,o+i.toNat*sz,none⟩)) w:=λ_ _ _ _=>by
 have d:=Gw.Fx (P:=P) (w:=w) j;simp[execOp,h,f,Instr.indexAt,asIntOf,run_underlying g,Instr.sureAddr,a,c,d,go_sem,K5]
def C9.selA {u:Ty} :∀ {n:Nat} {a:List Value} {x:(B1f u n).den} {i:Int},0<=i->i<(n:Int)->C9 (B1f u n) w Z a x->C9 u w Z ((a.drop (i.toNat*u.size)).take u.size) (Vc.selA u n x i)
 |0,_,_,i,b,c,_=>ω
 |1,a,x,i,b,c,h=>by
  have:i.toNat=0:=ω
  rw[this,xV,tP,qP (by rw[C9.length h];exact qV _)];exact h
 |n+2,a,x,i,j,k,⟨c1,h,e,b,g⟩=>by
  subst e;have d:=C9.length b;simp only[Vc.selA];by_cases c:i=0
  . subst c;simp only[g5e,L5,qS];rw[show(0:Int).toNat=0 from rfl,xV,tP, <-d,g3h];exact b
  simp only[c,g2n,L5,rI];have:=C9.selA (i:=i-1) ω ω g;have f:i.toNat*u.size=c1.length+(i-1).toNat*u.size:=by
   rw[d,(ω:i.toNat=(i-1).toNat+1),tZ,vZ]
  rw[f, <-vW,g3e];exact this
def B3i (h:C3 za w0 st E w Z B) (o:G7 cx.P cx.tys=true) (l:Q3 E ctx) {T:TypeId} {x ix:Operand} (a:B3h cx st ctx T x ix=some (φ,d)) (t:FL φ):Xq cx.P st E w Z B ty (.indexAddr T x ix) d:=by
 unfold B3h at a;split at a
 . rename_i ti U;cases s:Nat.beq ti.arr 0 with
   |true=>
    simp only[s,qS]at a;split at a
    . rename_i r b;cases a;simp only[C5z,qH,bind_some]at b;obtain⟨_,_,c,_,b⟩:=b;split at b
      . cases b;exact t.elim
      cases b
    exact B8d h o l a t
   |false=>
    simp only[s,rI]at a;cases R:(A5y ix||B3p st ctx x)with
    |false=>
     simp only[R,rI,C6a,qH,bind_some]at a;obtain⟨O,G,W,⟨M,D,y⟩,V,⟨N,F,z⟩,a⟩:=a;have r:=h.c1 l (bind_some.2 ⟨M,D,y⟩);obtain⟨a1,j,_⟩:=h.int l (bind_some.2 ⟨N,F,z⟩);have k:=NE (B9 o U) s;have n:=(J4 (B9 o G)).1;split at a
     . rename_i a3 a4;split at a
       . rename_i Y;subst Y;cases a;obtain⟨g,i⟩:=t;obtain⟨b,J,Q,e,I,v,c⟩:=r.1;exact Hf (λf _=>lO e j k n g i f) ⟨b,J+0+V.toNat*O.ty.size,_,rfl,I,M6 v _ O.ty.size,c.selA g i⟩ trivial
       cases a
     cases a
    |true=>
    simp only[R,qS]at a;simp only[C5y,qH,bind_some,qK]at a;obtain⟨O,G,W,⟨M,D,y⟩,V,⟨N,F,z⟩,a2,u,a⟩:=a;cases a;have r:=h.c1 l (bind_some.2 ⟨M,D,y⟩);obtain⟨a1,j,_⟩:=h.int l (bind_some.2 ⟨N,F,z⟩);have k:=NE (B9 o U) s;have n:=(J4 (B9 o G)).1;obtain⟨g,i⟩:=t;have c:=r.1;have A:=r.2;unfold faC at u;split at u<;>cases u
    . obtain⟨b,e,H⟩:=c;exact Hf (λf _=>lO H j k n g i f) ⟨b,e,rfl⟩ A
    . obtain⟨b,m,X,e,a0,H⟩:=c;exact Hf (λf _=>lO H j k n g i f) ⟨b,m,X,e,a0,by rw[uS]⟩ A
    obtain⟨b,J,Q,e,I,v,c⟩:=c;exact Hf (λf _=>lO e j k n g i f) ⟨b,J,Q,by rw[uS],I,v,c⟩ A
 cases a
def B4q (h:C3 za w0 st E w Z B) (i:Q3 E ctx) {x:Operand} (a:B4p st ctx x=some (φ,d)):Xq cx.P st E w Z B ty (.nilCheck x) d:=by
 simp only[B4p,qH,bind_some]at a;obtain⟨f,⟨s,k,j⟩,a⟩:=a;have g:=h.c1 i (bind_some.2 ⟨s,k,j⟩);cases c:C6j f with
 |false=>simp only[c,rI]at a;cases a
 |true=>
  simp only[c,qS]at a;cases a;have b:=g.1;refine Hf (v:=Gw.ev E x) (λz _ _ _ _ _=>?_) b g.2;cases f with
  |box o r=>obtain⟨n,e,l⟩:=b;simp[execOp,l]
  |elp u sz t y=>obtain⟨n,m,o,e,r,l⟩:=b;simp[execOp,l]
  |pf t y r=>obtain⟨l,o,n,e,_⟩:=b;simp[execOp,e]
  |fn o n=>have l:Gw.ev E x= _:=b;simp[execOp,l]
  |fv _ _ _ _ _ _=>obtain⟨o,n,l,_⟩:=b;simp[execOp,l]
  | _=>cases c
def VN (h:C3 za w0 st E w Z B) (c:Q3 E ctx) {o:Option Operand} {i:Option Int} (a:B9d st ctx o=some i):B0y E o i:=by
 unfold B9d at a;cases o with
 |none=>cases a;rfl
 |some o=>
  simp only[qK]at a;obtain⟨j,d,rfl⟩:=a;obtain⟨k,b,_⟩:=h.int c d;exact⟨k,j,rfl,b⟩
def aO {P:Program} {T:TypeId} {ti:TI} (h:Wc P T ti=true) (b:ti.ty= .str):P.underlying T=some .string:=by
 unfold Wc at h;simp only[qC]at h;have a:=h.1.1.1.2;rw[b]at a;simp only at a;split at a
 . assumption
 cases a
def B0p {P:Program} {E:Gw.G8} {w:World} {ty T:TypeId} {x:Operand} {s:ByteArray} (c:Gw.ev E x= .string s) (b:P.underlying T=some .string):Gw.E2 P E ty (.call ⟨.builtin .len, #[x], #[T]⟩) w (.int .i64 (s.data.toList.length:Int)) w:=λ_ _ _ _=>by
 have a:s.data.toList.length=s.size:=by rw[sB];rfl
 rw[a];simp[execOp,resolve,invoke,builtin,Builtin.len_,c,run_underlying b,goInt,go_sem]
def A1a {P:Program} {E:Gw.G8} {w:World} {ty T:TypeId} {x lo a:Operand} {s:ByteArray} {k k':IntKind} {l h:Int} (g:Gw.ev E x= .string s) (f:Gw.ev E lo= .int k l) (d:Gw.ev E a= .int k' h) (c:P.underlying T=some .string) (b:0<=l) (i:l<=h) (j:h<=(s.data.toList.length:Int)):Gw.E2 P E ty (.slice T x (some lo) (some a) none) w (.string (s.extract l.toNat h.toNat)) w:=λ_ _ _ _=>by
 have a:s.data.toList.length=s.size:=by rw[sB];rfl
 have a:0<=h/\h<=(s.size:Int):=ω
 have b:0<=l/\l<=max h 0:=ω
 simp[execOp,g,f,d,Instr.sliceAt,Instr.slice,Instr.sliceBounds,Instr.sliceBound,asIntOf,run_underlying c,go_sem];rw[qR a,qR b]
def A0j (h:C3 za w0 st E w Z B) (b:Q3 E ctx) {P:Program} {T:TypeId} {x lo f:Operand} (g:P.underlying T=some .string) (a:aF st ctx x lo f=some (φ,d)) (c:FL φ):Xq P st E w Z B ty (.slice T x (some lo) (some f) none) d:=by
 simp only[aF,qH,bind_some]at a;obtain⟨y,⟨sv,t,i⟩,F,⟨sl,r,l⟩,z,⟨sh,o,j⟩,a⟩:=a;obtain⟨A,n,_⟩:=h.int b (bind_some.2 ⟨sl,r,l⟩);obtain⟨D,k,_⟩:=h.int b (bind_some.2 ⟨sh,o,j⟩);split at a
 . rename_i s;cases a;have v:=(h.c1 b (bind_some.2 ⟨sv,t,i⟩)).1;have u:Gw.ev E x= .string s:=(g3w (show [Gw.ev E x]= [.string s]from v)).1;exact Hf (λG _=>A1a u n k g c.1 c.2.1 c.2.2) rfl trivial
 cases a
def A4b (h:C3 za w0 st E w Z B) (n:G7 cx.P cx.tys=true) (f:Q3 E ctx) {T:TypeId} {x:Operand} {lo u:Option Operand} (a:lF cx st ctx T x lo u=some (φ,d)) (o:FL φ):Xq cx.P st E w Z B ty (.slice T x lo u none) d:=by
 unfold lF at a;cases c:B3r cx T with
 |true=>
  simp only[c,qS]at a;split at a
  . unfold B3r at c;split at c
    . rename_i ti k;split at c
      . rename_i g;exact A0j h f (aO (B9 n k) g) a o
      cases c
    cases c
  cases a
 |false=>
 simp only[c,rI,qH,bind_some]at a;obtain⟨ti,k,G,⟨s,i,A⟩,N,v,I,r,D,y,a⟩:=a;have j:=h.c1 f (bind_some.2 ⟨s,i,A⟩);obtain⟨V,H⟩:=D;simp only at a;split at a
 . rename_i t F R g;cases b:decide (t=F)with
   |false=>simp[b]at a
   |true=>
    simp only[b,qS]at a;cases a;have:=qA b;subst this;have z:=EN (B9 n k) g;refine A0k h (e:=ti.elem) j.1 y j.2 o (VN h f v) (VN h f r) (λs i=>?_);rcases i with⟨Q,U,l,rfl⟩ | ⟨_,_,_,l⟩
    . cases l;exact z.1
    cases l
 . rename_i t M sz O J g;cases b:Nat.beq t.size sz with
   |false=>simp[b]at a
   |true=>
    simp only[b,qS]at a;cases a;have:=qD b;subst this;have z:=EN (B9 n k) g;refine A0k h (e:=ti.elem) j.1 y j.2 o (VN h f v) (VN h f r) (λs i=>?_);rcases i with⟨Q,U,l,rfl⟩ | ⟨_,_,_,l⟩
    . cases l
    cases l;exact z.1
 cases a
def A8k (h:C3 za w0 st E w Z B) (b:G7 cx.P cx.tys=true) (i:Q3 E ctx) {T T':TypeId} {x:Operand} (a:A2g cx st ctx T T' x=some (φ,d)):Xq cx.P st E w Z B ty (.convert T T' x) d:=by
 simp only[A2g,qH,bind_some]at a;obtain⟨ti,l,y,n,r,⟨s,k,j⟩,a⟩:=a;have c:=h.c1 i (bind_some.2 ⟨s,k,j⟩);split at a
 . rename_i t u v o f g;cases a;exact B7o c.1 ⟨_,fE (A0t (B9 b l) f)⟩ (A0t (B9 b n) g)
 cases a
def A2c (h:C3 za w0 st E w Z B) (j:G7 cx.P cx.tys=true) (g:Q3 E ctx) {T:TypeId} {parts:List (Nat×Operand)} (a:iU cx st ctx T parts=some (φ,d)):Xq cx.P st E w Z B ty (.build T parts.toArray) d:=by
 simp only[iU,qH,bind_some]at a;obtain⟨ti,o,s,i,a⟩:=a;have b:=B9 j o;cases f:ti.fields.isEmpty with
 |true=>
  simp only[f,qS,bind_some]at a;obtain⟨t,n,a⟩:=a;cases c:Nat.beq ti.arr 0 with
  |true=>simp[c]at a
  |false=>
   simp only[c,rI,qK]at a;obtain⟨r,k,l⟩:=a;cases l;exact iV h g (J4 b).2.2 (NE b c) (J4 (B9 j n)).1 i k
 |false=>
  simp only[f,rI,qK]at a;obtain⟨l,c,k⟩:=a;cases k;exact B1n h g (J4 b).2.2 (BA b f).2 i c
def oR (h:C3 za w0 st E w Z B) (c:G7 cx.P cx.tys=true) (b:Q3 E ctx) {T:TypeId} {x ix:Operand} (a:XY cx st ctx T x ix=some (φ,d)) (f:FL φ):Xq cx.P st E w Z B ty (.index T x ix) d:=by unfold XY at a;cases a
def A0z {P:Program} {E:Gw.G8} {w:World} {ty T:TypeId} {x ix:Operand} {s:ByteArray} {a:IntKind} {i:Int} (h:Gw.ev E x= .string s) (g:Gw.ev E ix= .int a i) (c:P.underlying T=some .string) (b:0<=i) (d:i<(s.data.toList.length:Int)):Gw.E2 P E ty (.index T x ix) w (.int .u8 (IA s i)) w:=λ_ _ _ _=>by
 have a:i.toNat<s.data.size:=by rw[<-sB];omega
 have f:s[i.toNat]? =some s.data[i.toNat]:=by
  have:s[i.toNat]? =s.data[i.toNat]?:=by
   rw[getElem?_def,getElem?_def];rfl
  rw[this,uU a]
 have d:IA s i=(s.data[i.toNat].toNat:Int):=by
  unfold IA;rw[qE,wM,uU a];rfl
 simp[execOp,h,g,Instr.index,asIntOf,run_underlying c,b,f,d,go_sem]
def oS (h:C3 za w0 st E w Z B) (b:Q3 E ctx) {P:Program} {T:TypeId} {x ix:Operand} (f:P.underlying T=some .string) (a:XZ st ctx x ix=some (φ,d)) (c:FL φ):Xq P st E w Z B ty (.index T x ix) d:=by
 simp only[XZ,qH,bind_some]at a;obtain⟨u,⟨sv,l,g⟩,r,⟨t,k,i⟩,a⟩:=a;obtain⟨v,j,_⟩:=h.int b (bind_some.2 ⟨t,k,i⟩);split at a
 . rename_i s;cases a;have o:=(h.c1 b (bind_some.2 ⟨sv,l,g⟩)).1;have n:Gw.ev E x= .string s:=(g3w (show [Gw.ev E x]= [.string s]from o)).1;exact Hf (λy _=>A0z n j f c.1 c.2) ⟨rfl,by
    have:=(s.data.toList.getD r.toNat 0).toNat_lt;unfold IA;constructor
    . exact qF _
    show _ <=(255:Int);omega⟩ trivial
 cases a
def oQ (h:C3 za w0 st E w Z B) (k:G7 cx.P cx.tys=true) (c:Q3 E ctx) {T:TypeId} {x ix:Operand} (a:XX cx st ctx T x ix=some (φ,d)) (l:FL φ):Xq cx.P st E w Z B ty (.index T x ix) d:=by
 simp only[XX,qH,bind_some]at a;obtain⟨ti,N,g,M,U,I,R,⟨W,J,F⟩,a⟩:=a;have r:=B9 k N;have j:=B9 k M;obtain⟨a4,G,_⟩:=h.int c (bind_some.2 ⟨W,J,F⟩);obtain⟨Q,H⟩:=h.ev c I;obtain⟨V,a0⟩:=U;cases f:(V&&g.agg&& !(Nat.beq ti.arr 0))with
 |false=>simp only[f,rI]at a;cases a
 |true=>
  simp only[f,qS,qK]at a;simp only[qC,rN]at f;obtain⟨⟨rfl,b⟩,o⟩:=f;obtain⟨a1,z,A⟩:=a;cases A;obtain⟨X,e,O⟩:=Q;obtain⟨s,a2,t⟩:=Qd O z;have y:=NE r o;have a3:=(J4 j).1;have v:WC cx.P ti.elem g.ty.size=true:=by
   rcases(J4 j).2.1 with⟨_,D⟩ | ⟨u,_⟩
   . exact D
   rw[u]at b;cases b
  refine⟨.agg ((X.drop (R.toNat*g.ty.size)).take g.ty.size).toArray,λY _ _ _ _ _=>?_,λ_=>⟨_,rfl,s⟩,λi c=>H i (t i c)⟩;obtain⟨n,b⟩:=Je (P:=cx.P) (w:=Y) v;simp only[execOp,e,G];simp[Instr.index,asIntOf,run_underlying y,l.1,l.2,part,n,b,go_sem]
def A2q (h:C3 za w0 st E w Z B) (g:G7 cx.P cx.tys=true) (c:Q3 E ctx) {T:TypeId} {x ix:Operand} (a:jO cx st ctx T x ix=some (φ,d)) (i:FL φ):Xq cx.P st E w Z B ty (.index T x ix) d:=by
 unfold jO at a;split at a
 . rename_i b;cases f:cx.ti T with
   |none=>rw[f]at b;cases b
   |some ti=>
    rw[f]at b;exact oS h c (aO (B9 g f) (xQ b)) a i
 split at a
 . rename_i r j;cases a;exact oR h g c j i
 exact oQ h g c a i
def A6j (h:C3 za w0 st E w Z B) {t u:Bool} {n o:Ty} {c:C} {v:Value} {es:List (n.den×o.den)} (k:RC w Z B c v) (a:B8v st t n u o c=some es):
 (v= .map none/\es= [])\/∃b d cl,v= .map (some b)/\b<w.heap.size/\w.heap[b]? =some (.map d cl)/\La w Z t n u o d.toList es:=by
 unfold B8v at a;split at a
 . rename_i s;split at a
   . rename_i y z A D r l;split at a
     . rename_i g;have i:=h.locs s;rw[l]at i;obtain⟨b,d,cl,e,_,_,f,_,j⟩:=i;cases g;cases a;exact .inr ⟨b,d,cl,(show v= _ from k).trans e,(rV.1 f).1,f,j⟩
     cases a
   . rename_i y z A D r F q l;split at a
     . rename_i g;have i:=h.locs s;rw[l]at i;obtain⟨b,d,cl,e,_,_,f,⟨_,j⟩,_⟩:=i;cases g;cases a;exact .inr ⟨b,d,cl,(show v= _ from k).trans e,(rV.1 f).1,f,j⟩
     cases a
   cases a
 . rename_i G r;split at a
   . rename_i g;subst g;cases a;rcases k with⟨e,x⟩ | ⟨b,d,cl,e,f,g,_,j⟩
     . simp only[sJ,vO]at e;exact .inl ⟨e,x⟩
     simp only[sJ,vO]at e;exact .inr ⟨b,d,cl,e,h.zlt b f,g,j⟩
   cases a
 . cases a;exact .inl ⟨k.1,rfl⟩
 cases a
def DJ {a:Ty} {d:Type} {Rk:Value->a.den->Prop} {Rv:Value->d->Prop} {k:a.den} :∀ {l:List (a.den×d)} {es:List MapEntry} {i:Nat},T3 Rk Rv es l->(P9 a k l i=none/\I9 a k l=none)\/∃j e y,P9 a k l i=some (i+j)/\es[j]? =some e/\I9 a k l=some y/\Rv e.val y/\Rk e.key ((l[j]?).map (·.1) |>.getD k)/\GR a k ((l[j]?).map (·.1) |>.getD k)=true
 | [],_,_,_=> .inl ⟨rfl,rfl⟩
 |x::l,_,i,⟨e,v,u,o,r,s⟩=>by
  subst u;simp only[P9,I9];cases t:GR a k x.1 with
  |true=>exact .inr ⟨0,e,x.2,rfl,rfl,rfl,r,o,t⟩
  |false=>
   rcases DJ (i:=i+1) s with⟨b,c⟩ | ⟨j,f,y,b,c,g,h,n⟩
   . exact .inl ⟨b,c⟩
   exact .inr ⟨j+1,f,y,by rw[rI,b,uS,vZ 1 j],by simpa using c,g,h,by simpa using n⟩
def A1b {P:Program} {T:TypeId} {z:Value} (h:Fq P T=some z) (w':World):(zeroValue T).run P w'= .ok z w':=by
 unfold Fq at h;cases a:P.info? T with
 |none=>simp[a]at h
 |some i=>simp only[a,wE]at h;simp[zeroValue,typeInfo,a,h]
def pE (h:C3 za w0 st E w Z B) (am:G7 cx.P cx.tys=true) (n:Q3 E ctx) {T:TypeId} {x ix:Operand} {j:Bool} (b:YG cx st ctx T x ix j=some (φ,d)) (U:FL φ):Xq cx.P st E w Z B ty (.lookup T x ix j) d:=by
 simp only[YG,qH,bind_some]at b;obtain⟨ti,ak,F,⟨a7,I,ae⟩,au,aj,b⟩:=b;have aa:=h.c1 n (bind_some.2 ⟨a7,I,ae⟩);obtain⟨ab,_⟩:=h.ev n aj;split at b
 . rename_i ar r o c ad;simp only[bind_some]at b;obtain⟨es,af,k,ah,b⟩:=b;have a3:(∃V,c= .sl V/\j=false/\o=false/\φ=some (I9 r k es=none)/\d=one1 (.raw (.slice none 0 0)))\/(Rx c=true/\some (φ,d)=some ((none:Option Prop),bif j then DV.tup [⟨o,explode c ((I9 r k es).getD c.dflt)⟩,⟨false,[.val .bool (I9 r k es).isSome]⟩]else .one ⟨o,explode c ((I9 r k es).getD c.dflt)⟩)):=by
    cases s:ti.rows&&C6d F&&C3f c&& !j&& !o with
    |true=>
     simp only[s,qS]at b;cases b;simp only[qC,rN]at s;cases c<;>simp[C3f]at s;exact .inl ⟨_,rfl,s.1.2,s.2,rfl,rfl⟩
    |false=>
     simp only[s,rI]at b;cases A:Rx c with
     |false=>simp[A]at b
     |true=>simp only[A,qS]at b;exact .inr ⟨rfl,b.symm⟩
   have ai:Rx c=true:=by
    rcases a3 with⟨V,rfl,_⟩ | ⟨h,_⟩
    . rfl
    exact h
   obtain⟨R,v,ao,f⟩:=Wd (B9 am ak) ad;have t:=Ex ab ah;obtain⟨z,J,M⟩:=Gj ao;have a6:Bl o c w Z z c.dflt:=by
    have s:=OG (w:=w) (Z:=Z) ai;rw[<-M]at s;unfold OF at f;rw[J]at f;cases z with
    |agg A=>cases o<;>simp at f;exact⟨A.toList,by simp,s⟩
    |tuple _=>simp at f
    | _=>cases o<;>simp at f<;>exact s
   have ap:∃u y,(∀a,R5 w a->(Instr.lookup T (Gw.ev E x) (Gw.ev E ix) j).run cx.P a= .ok (if j then .tuple #[u, .bool y]else u) a)/\Bl o c w Z u ((I9 r k es).getD c.dflt)/\y=(I9 r k es).isSome/\(y=false->u=z):=by
    rcases A6j h aa.1 af with⟨e,a5⟩ | ⟨D,X,W,e,a4,a2,O⟩
    . refine⟨z,false,λa _=>?_,by rw[a5];exact a6,by rw[a5];rfl,λ_=>rfl⟩;have s:=λem=>Ru v t a em
      have A:=Zt (Rv:=λ_ (_:c.den)=>True) v t a (l:= []) (es:= []) rfl;unfold Instr.lookup;simp only[Sem.run_bind,run_underlying R,Result.andThen_ok,e,Sem.run_pure,s,A,P9,g2a,A1b J]
    rcases DJ (k:=k) (i:=0) O with⟨G,H⟩ | ⟨aq,a8,av,G,H,Y,a9,_⟩
    . refine⟨z,false,λa g=>?_,by rw[H];exact a6,by rw[H];rfl,λ_=>rfl⟩;have s:=λem=>Ru v t a em
      have A:=Zt v t a O;have Q:(getObj D).run cx.P a= .ok (.map X W) a:=by simp[getObj,Sem.run,g.block D a4,a2]
      unfold Instr.lookup;simp only[Sem.run_bind,run_underlying R,Result.andThen_ok,e,Sem.run_pure,Q,s,A,G,g2a,A1b J]
    refine⟨a8.val,true,λa g=>?_,by rw[Y];exact a9,by rw[Y];rfl,λag=>(by cases ag)⟩;have s:=λem=>Ru v t a em
    have A:=Zt v t a O;have Q:(getObj D).run cx.P a= .ok (.map X W) a:=by simp[getObj,Sem.run,g.block D a4,a2]
    rw[sD]at G;unfold Instr.lookup;simp only[Sem.run_bind,run_underlying R,Result.andThen_ok,e,Sem.run_pure,Q,s,A,G,wE,H,xC]
   obtain⟨u,y,N,a0,a1,ac⟩:=ap;rcases a3 with⟨V,rfl,rfl,rfl,rfl,rfl⟩ | ⟨_,b⟩
   . have U:I9 r k es=none:=U;have an:u= .slice none 0 0:=by
      rw[ac (by rw[a1,U];rfl)];unfold OF at f;rw[J]at f;cases z with
      |agg s=>simp at f
      |tuple _=>simp at f
      |slice s A F=>simp[Em,Value.cells]at M;obtain⟨rfl,rfl,rfl⟩:=M;rfl
      | _=>simp[Em,Value.cells]at M
     refine⟨u,λa g=>λ_ _ _ _=>?_,λE'=>?_,λF n=>?_⟩
     . have:=N a (g rfl);simp at this;simp[execOp,this]
     . rw[an];exact⟨_,[],rfl,⟨rfl,rfl⟩,rfl⟩
     simp at n;subst n;trivial
   cases j with
   |true=>
    simp only[qS]at b;cases b;refine⟨.tuple #[u, .bool y],λa g=>λ_ _ _ _=>?_,λE'=>⟨[u, .bool y],rfl,u,_,rfl,Bl.explode a0,_,_,rfl,⟨_,[],rfl,by rw[a1];rfl,rfl⟩,rfl⟩,λa7 I=>?_⟩
    . simp[execOp,N a (g rfl)]
    simp at I;rcases I with rfl|rfl
    . exact F3
    intro F n;simp at n;subst n;trivial
   |false=>
    simp only[rI]at b;cases b;refine⟨u,λa g=>λ_ _ _ _=>?_,λE'=>Bl.explode a0,F3⟩;simp[execOp,N a (g rfl)]
 cases b
def B4l (h:C3 za w0 st E w Z B) (c:Q3 E ctx) {fn:Fn} {first b:List Operand} (a:B4k st ctx fn first b=some (φ,d)):Xq cx.P st E w Z B ty (.makeFunc fn first.toArray b.toArray) d:=by
 unfold B4k at a;split at a
 . simp only[qH,bind_some]at a;obtain⟨j,g,i,f,a⟩:=a;cases a;exact C3q h c g f
 cases a
def Va {k:IntKind} {a b:Int} (c:GU k a) (d:GU k b):GU k (max a b)/\GU k (min a b):=by unfold GU at*;omega
def RC.int {k:IntKind} {a:Int} {v:Value} (h:RC w Z B (.val (.int k) a) v):v= .int k a/\GU k a:=by
 obtain⟨b,c⟩:=h;simp only[sJ,vO]at b;exact⟨b,c⟩
def iW (h:C3 za w0 st E w Z B) (J:G7 cx.P cx.tys=true) (i:Q3 E ctx) {b:Builtin} {args:List Operand} {ts:List TypeId} (a:OZ cx st ctx b args ts=some (φ,d)) (V:FL φ):Xq cx.P st E w Z B ty (.call ⟨.builtin b,args.toArray,ts.toArray⟩) d:=by
 unfold OZ at a;split at a
 . rename_i M T;simp only[qH,bind_some]at a;obtain⟨ti,I,u,⟨s,f,j⟩,X,H,a⟩:=a;have g:=h.c1 i (bind_some.2 ⟨s,f,j⟩);split at a
   . cases a
   . rename_i s v;cases a;obtain rfl:X=(s.data.toList.length:Int):=by simpa[B8p]using H.symm
     have U:Gw.ev E M= .string s:=(g3w (show [Gw.ev E M]= [.string s]from g.1)).1;exact Hf (λy _=>B0p U (aO (B9 J I) v)) ⟨rfl,⟨g2g (δ:(i64.min:Int)<=0) (qF _),V⟩⟩ trivial
   . cases a
   . rename_i a1 v Q f;cases a;refine C3l h g.1 H (EN (B9 J I) v).1 (λk x=>?_) (λs x=>?_)
     . subst x;exact Q _ rfl
     subst x;exact f _ rfl
   cases a
 . simp only[qH,bind_some]at a;obtain⟨u,⟨s,f,j⟩,A,⟨t,o,n⟩,a⟩:=a;have g:=h.c1 i (bind_some.2 ⟨s,f,j⟩);have l:=h.c1 i (bind_some.2 ⟨t,o,n⟩);split at a
   . rename_i k z r b;cases c:decide (k=r)with
     |false=>simp[c]at a
     |true=>
      simp only[c,qS]at a;cases a;have:=qA c;subst this;have D:=RC.int g.1;have F:=RC.int l.1;exact Hf (λy _=>C4y D.1 F.1) ⟨rfl,(Va D.2 F.2).1⟩ trivial
   cases a
 . simp only[qH,bind_some]at a;obtain⟨u,⟨s,f,j⟩,A,⟨t,o,n⟩,a⟩:=a;have g:=h.c1 i (bind_some.2 ⟨s,f,j⟩);have l:=h.c1 i (bind_some.2 ⟨t,o,n⟩);split at a
   . rename_i k z r b;cases c:decide (k=r)with
     |false=>simp[c]at a
     |true=>
      simp only[c,qS]at a;cases a;have:=qA c;subst this;have D:=RC.int g.1;have F:=RC.int l.1;exact Hf (λy _=>C5a D.1 F.1) ⟨rfl,(Va D.2 F.2).2⟩ trivial
   cases a
 . simp only[qH,bind_some]at a;obtain⟨u,⟨s,f,j⟩,A,⟨t,o,n⟩,a0,⟨Y,R,O⟩,a⟩:=a;have g:=h.c1 i (bind_some.2 ⟨s,f,j⟩);have l:=h.c1 i (bind_some.2 ⟨t,o,n⟩);have N:=h.c1 i (bind_some.2 ⟨Y,R,O⟩);split at a
   . rename_i k z r b W u;cases c:decide (k=r)&&decide (k=W)with
     |false=>simp only[c,rI]at a;cases a
     |true=>
      simp only[c,qS]at a;cases a;simp only[qC,rU]at c;obtain⟨rfl,rfl⟩:=c;have D:=RC.int g.1;have F:=RC.int l.1;have G:=RC.int N.1;exact Hf (λy _=>C4z D.1 F.1 G.1) ⟨rfl,(Va (Va D.2 F.2).1 G.2).1⟩ trivial
   cases a
 cases a
def EG (h:C3 za w0 st E w Z B) (c:G7 cx.P cx.tys=true) (b:Q3 E ctx) {op:Op} (a:Vn cx st ctx op=some (φ,d)) (f:FL φ):Xq cx.P st E w Z B ty op d:=by
 unfold Vn at a;split at a
 . exact(A6l h b a).1
 . exact(A6l h b a).2
 . exact A9j h b a
 . exact B6o h b a
 . exact A7y h c b a f
 . exact jH h a
 . exact XR h c b a
 . exact A2m h c b a
 . exact A8y h c b a
 . exact B3i h c b a f
 . exact A2q h c b a f
 . exact pE h c b a f
 . exact A4b h c b a f
 . exact A8k h c b a
 . rename_i T g;have:=A2c (ty:=ty) h c b a;simpa using this
 . exact B4q h b a
 . have:=B4l (cx:=cx) (ty:=ty) h b a;simpa using this
 . have:=iW (ty:=ty) h c b a f;simpa using this
 cases a
end
def B6c (sz:Nat) (lo a:Int):C->C
 | .val (.sl t) l=>bif Nat.beq sz t.size then .val (.sl t) ((l.take a.toNat).drop lo.toNat)else .dead
 | _=> .dead
def FG (k:Nat) (a:C):C->C
 | .win j sz d b=>bif Nat.beq j k then B6c sz d b a else .win j sz d b
 | .row j=>bif Nat.beq j k then a else .row j
 | .mp j=>bif Nat.beq j k then a else .mp j
 |c=>c
def oE (k:Nat) (a:C) (s:SV):SV:=⟨s.agg,s.cs.map (FG k a)⟩
def LM (k:Nat) (a:C):DV->DV
 | .one s=> .one (oE k a s)
 | .tup b=> .tup (b.map (oE k a))
 | .cnd t b s=> .cnd t b (oE k a s)
 | .dead=> .dead
def oD (k:Nat) (a:C):LC->LC
 | .box T b=> .box T (b.map (FG k a))
 |x=>x
def oJ (k:Nat):C->Bool
 | .win j _ _ _=>Nat.beq j k
 | .row j=>Nat.beq j k
 | .mp j=>Nat.beq j k
 | _=>false
def Zr (k:Nat):DV->Bool
 | .one s=>s.cs.any (oJ k)
 | .tup a=>a.any λs=>s.cs.any (oJ k)
 | .cnd _ _ s=>s.cs.any (oJ k)
 | .dead=>false
def fC (k:Nat):LC->Bool
 | .box _ a=>a.any (oJ k)
 | _=>false
def mapV {α:Type} (p:α->Bool) (f:α->α) (g:Nat):List (Nat×Nat×α)->List (Nat×Nat×α)
 | []=> []
 | (s,x)::l=>(s,bif p x.2 then(g,f x.2)else x)::mapV p f g l
def DN {α:Type} (p:α->Bool) (f:α->α) (g:Nat) (d:Nat×α) (a:p d.2=false) (q:Nat):∀l:List (Nat×Nat×α),find d q (mapV p f g l)=bif p (find d q l).2 then(g,f (find d q l).2)else find d q l
 | []=>by simp[mapV,find,a]
 | (s,x)::l=>by
  simp only[mapV,find,DN p f g d a q l];cases Nat.beq s q<;>rfl
def Zs {k:Nat} {a:C} :∀ {cs:List C},cs.any (oJ k)=false->cs.map (FG k a)=cs
 | [],_=>rfl
 |c::cs,h=>by
  simp only[yH,rE]at h;rw[rW,Zs h.2];congr 1;cases c with
  |row j=>simp only[oJ]at h;simp only[FG,h.1,rI]
  |mp j=>simp only[oJ]at h;simp only[FG,h.1,rI]
  |win j _ _ _=>simp only[oJ]at h;simp only[FG,h.1,rI]
  | _=>rfl
def fA {k:Nat} {b:C} {d:DV} (h:Zr k d=false):LM k b d=d:=by
 cases d with
 |one s=>simp only[LM,oE,Zs h]
 |cnd t a s=>simp only[LM,oE,Zs h]
 |dead=>rfl
 |tup a=>
  simp only[LM];congr 1;simp only[Zr]at h
  induction a with
  |nil=>rfl
  |cons s a c=>
   simp only[yH,rE]at h;rw[rW,c h.2];congr 1;simp only[oE,Zs h.1]
def A8q {k:Nat} {a:C} {l:LC} (h:fC k l=false):oD k a l=l:=by
 cases l with
 |box T b=>simp only[oD,Zs h]
 | _=>rfl
def St.freeze (a:St) (k:Nat) (b:C):St:=⟨mapV (Zr k) (LM k b) (a.ct+1) a.sl,mapV (fC k) (oD k b) (a.ct+1) (put k (a.ct+1, .none) a.lc),a.nx,a.ct+1,a.nm,a.fr.map (mapV (Zr k) (LM k b) (a.ct+1))⟩
def St.eS_freeze (a:St) (k:Nat) (b:C) (s:Nat):(a.freeze k b).eS s=bif Zr k (a.S s)then(a.ct+1,LM k b (a.S s))else a.eS s:=DN _ _ _ _ rfl _ _
def St.S_freeze (a:St) (k:Nat) (b:C) (s:Nat):(a.freeze k b).S s=LM k b (a.S s):=by
 show((a.freeze k b).eS s).2= _;rw[St.eS_freeze];cases h:Zr k (a.S s)with
 |true=>rfl
 |false=>exact(fA h).symm
def St.eL_freeze (a:St) (k:Nat) (b:C) (q:Nat):(a.freeze k b).eL q=bif fC k (if q=k then(a.ct+1,LC.none)else a.eL q).2 then(a.ct+1,oD k b (if q=k then(a.ct+1,LC.none)else a.eL q).2)else(if q=k then(a.ct+1,LC.none)else a.eL q):=by
 show find (0, .none) q (mapV (fC k) (oD k b) (a.ct+1) (put k (a.ct+1, .none) a.lc))= _;rw[DN _ _ _ _ rfl,Zq];rfl
def St.L_freeze (a:St) (k:Nat) (b:C) (q:Nat):(a.freeze k b).L q=oD k b (if q=k then .none else a.L q):=by
 show((a.freeze k b).eL q).2= _;rw[St.eL_freeze];have e:(if q=k then(a.ct+1,LC.none)else a.eL q).2=if q=k then LC.none else a.L q:=by split<;>rfl
 rw[e];cases h:fC k (if q=k then LC.none else a.L q)with
 |true=>rfl
 |false=>rw[rI,e];exact(A8q h).symm
def eZ {w:World} {v:Value} {b k:Nat} {a:C} {l:LC} :B4 w v (oD k a l) b↔B4 w v l b:=by cases l<;>exact xX
section
variable {za:Zn} {w0 w w':World} {Z:Nat->Prop} {B:Nat->Value} {st:St} {E:G8} {n:Nat}
section frz
variable {k:Nat} {c':C} (hc':∀v,v=B k->RC w Z B c' v) (hr':Cz n c')
include hc' in
theorem B8a {c:C} {v:Value} (h:RC w Z B c v):RC w Z B (FG k c' c) v:=by
 cases c with
 |row j=>
  simp only[FG];cases a:Nat.beq j k with
  |true=>have:=qD a;subst this;exact hc' v h
  |false=>exact h
 |mp j=>
  simp only[FG];cases a:Nat.beq j k with
  |true=>have:=qD a;subst this;exact hc' v h
  |false=>exact h
 |win j sz E A=>
  simp only[FG];cases i:Nat.beq j k with
  |true=>
   have:=qD i;subst this;have a:=hc' (B j) rfl;simp only[qS];unfold B6c;split
   . rename_i t D;cases l:Nat.beq sz t.size with
     |false=>trivial
     |true=>
      have:=qD l;subst this;obtain⟨r,n,s,g,y,z,b,d,f,u,x,o⟩:=h;rw[g]at a;rw[o];exact A7c a b d f
   trivial
  |false=>exact h
 | _=>exact h
include hr' in
theorem B2v {c:C} (h:Cz n c):Cz n (FG k c' c):=by
 cases c with
 |row j=>
  simp only[FG];cases Nat.beq j k with
  |true=>exact hr'
  |false=>exact h
 |mp j=>
  simp only[FG];cases Nat.beq j k with
  |true=>exact hr'
  |false=>exact h
 |win j sz b a=>
  simp only[FG];cases Nat.beq j k with
  |true=>
   simp only[qS];unfold B6c;split
   . cases Nat.beq sz _ <;>trivial
   trivial
  |false=>exact h
 | _=>exact h
include hc' in
theorem LK:∀ {cs:List C} {vs:List Value},Db w Z B cs vs->Db w Z B (cs.map (FG k c')) vs
 | [],_,h=>h
 | _:: _,_,⟨v,c,e,a,b⟩=>⟨v,c,e,B8a hc' a,LK b⟩
include hr' in
theorem DO {cs:List C} (h:∀c∈cs,Cz n c):∀c∈cs.map (FG k c'),Cz n c:=λc d=>by
 obtain⟨a,b,rfl⟩:=tT.1 d;exact B2v hr' (h a b)
include hc' in
theorem jK:∀ {s:SV} {v:Value},RS w Z B s v->RS w Z B (oE k c' s) v
 | ⟨true,_⟩,_,⟨a,e,h⟩=>⟨a,e,LK hc' h⟩
 | ⟨false,_⟩,_,h=>LK hc' h
include hc' in
theorem oF:∀ {ss:List SV} {vs:List Value},Nz w Z B ss vs->Nz w Z B (ss.map (oE k c')) vs
 | [],_,h=>h
 | _:: _,_,⟨v,c,e,a,b⟩=>⟨v,c,e,jK hc' a,oF b⟩
include hc' in
theorem A5r:∀ {d:DV} {v:Value},RD w Z B E d v->RD w Z B E (LM k c' d) v
 | .one _,_,h=>jK hc' h
 | .tup _,_,⟨a,e,h⟩=>⟨a,e,oF hc' h⟩
 | .cnd _ _ _,_,h=>h.imp (fun⟨a,b⟩=>⟨a,jK hc' b⟩) id
 | .dead,_,_=>trivial
include hr' in
theorem oC:∀ {d:DV},MP n d->MP n (LM k c' d)
 | .one _,h=>DO hr' h
 | .tup f,h=>λs b=>by
  obtain⟨c,a,rfl⟩:=tT.1 b;exact DO hr' (h c a)
 | .cnd _ _ _,h=>DO hr' h
 | .dead,_=>trivial
theorem oG (s:Nat) (f:List (Nat×Nat×DV)) (g:Nat):(find (0, .dead) s (mapV (Zr k) (LM k c') g f)).2=LM k c' (find (0, .dead) s f).2:=by
 rw[DN _ _ _ _ rfl];cases h:Zr k (find (0,DV.dead) s f).2 with
 |true=>rfl
 |false=>exact(fA h).symm
include hc' in
theorem A5s {g:Nat} :∀ {es:List G8} {a:List (List (Nat×Nat×DV))},RF w Z B es a->RF w Z B es (a.map (mapV (Zr k) (LM k c') g))
 | [],[],_=>trivial
 | _:: _,_:: _,⟨a,b⟩=>⟨λs=>by rw[oG];exact A5r hc' (a s),A5s b⟩
 | [],_:: _,h=>h.elim
 | _:: _,[],h=>h.elim
include hr' in
theorem B2w {g:Nat} {a:List (List (Nat×Nat×DV))} (h:mE n a):mE n (a.map (mapV (Zr k) (LM k c') g)):=λf d s=>by
 obtain⟨b,c,rfl⟩:=tT.1 d;rw[oG];exact oC hr' (h b c s)
include hr' in
theorem B2x:∀ {d:LC},AQ n d->AQ n (oD k c' d)
 | .box _ _,h=>DO hr' h
 | .none,_=>trivial
 | .row _ _ _,_=>trivial
 | .map _ _ _ _ _,_=>trivial
 | .rows _ _ _ _ _ _,h=>h
 | .al _,h=>h
 | .sbox _ _ _,h=>h
 | .iter _ _ _ _ _ _,h=>h
 | .mapE _ _ _ _ _ _ _,h=>h
 | .nest _ _ _ _ _ _,h=>h
 | .itM _ _ _ _ _ _ _ _,h=>h
end frz
def Iq {d e sz m:Nat} {v:Value} {xs:List Value} {b f:Nat} (h:w.ownsRow d e sz v m xs) (j:v= .slice (some ⟨b,0,none⟩) m f):I6 w ⟨b,0,none⟩ xs:=λo u a=>by
 subst j;rcases h.2 with⟨c,_⟩ | ⟨n,k,l,c,_,g,_,_,_,i⟩
 . cases c
 cases c;rw[K5,sD];simp only[World.cell?,g];rw[<-i,wA]at a;split at a
 . simpa using a
 cases a
def Cv {t:Ty} {d e:Nat} {v:Value} {l:List t.den} {xs:List Value} (c:w.ownsRow d e t.size v l.length xs) (i:G5 (C9 t w Z) xs l) (o:∀b,v.ownBlock=some b->Z b):C9 (.sl t) w Z [v] l:=by
 rcases c.2 with⟨a,n⟩ | ⟨g,f,r,a,_,s,h,k,_⟩
 . have:l= []:=qN n;subst this;subst a;exact⟨none,0,rfl,qV _,rS _,λ_=>rfl, .inl rfl⟩
 exact⟨some ⟨g,0,none⟩,f,by rw[a],h,k,λj=>(by cases j), .inr ⟨g,0,xs,rfl,o g (by rw[a];rfl),Iq c a,i⟩⟩
def Rr {t:Ty} {k e e':Nat} {ls:List (List t.den)} {al:List (Nat×Nat)} {d:Option Nat} {xs:List Value} (c:w.ownsRow 0 e 1 (B k) ls.length xs) {i b:Nat} {x:Value} (o:Eo d i=false) (a:xs[i]? =some x) (l:root x=some b):B4 w (B k) (.rows t e e' ls al d) b:=by
 refine .inr ?_;rcases c.2 with⟨f,s⟩ | ⟨j,g,h,f,_,n,z,_,A,u⟩
 . have:=c.1;rw[s]at this;have v:xs= []:=qN ω;rw[v]at a;cases a
 have r:i<ls.length:=by have:=(sR.1 a).1;have y:=c.1;omega
 refine⟨j,_,g,h,e,i,x,f,n,r,o,?_,l⟩;rw[<-u,rX ω]at a;simpa using a
def XI {α:Type} {R:List Value->α->Prop} :∀ {l:List α} {cs:List Value},cs.length=l.length->(∀(i:Nat) (a:α) (x:Value),l[i]? =some a->cs[i]? =some x->R [x] a)->G5 R cs l
 | [],cs,h,_=>qN h
 |a::l,[],h,_=>by simp at h
 |a::l,x::cs,h,b=>⟨[x],cs,rfl,b 0 a x rfl rfl,XI (by simpa using h) λi a x c d=>b (i+1) a x (by simpa using c) (by simpa using d)⟩
def Vr {t:Ty} {e e' i b n:Nat} {v x:Value} {ls:List (List t.den)} {al:List (Nat×Nat)} {xs:List Value} (c:w.ownsRow 0 e 1 v n xs) (a:xs[i]? =some x) (j:root x=some b):B4 w v (.rows t e e' ls al none) b:=by
 refine .inr ?_;rcases c.2 with⟨d,o⟩ | ⟨h,f,g,d,_,k,y,_,z,r⟩
 . have:=c.1;rw[o]at this;have s:xs= []:=qN ω;rw[s]at a;cases a
 have l:i<n:=by have:=(sR.1 a).1;have u:=c.1;omega
 refine⟨h,_,f,g,e,i,x,d,k,l,rfl,?_,j⟩;rw[<-r,rX ω]at a;simpa using a
def gJ {Z':Nat->Prop} {t:Ty} {e e':Nat} {v:Value} {ls:List (List t.den)} {al:List (Nat×Nat)} (h:Ct w Z t e e' v ls) (l:∀b,Z b->Z' b) (f:∀b,B4 w v (.rows t e e' ls al none) b->Z' b):C9 (.sl (.sl t)) w Z' [v] ls:=by
 obtain⟨u,a,j,r,s⟩:=h;refine Cv (t:= .sl t) a (XI (by have:=a.1;omega) λn o x k g=>?_) (λb c=>f b (.inl ((E7 a).trans c)));obtain⟨y,d,i⟩:=j n o x k g;exact Cv d (i.mono λ_ _=>C9.mono l (λ_ _=>rfl)) (λb c=>f b (Vr a g ((E7 d).trans c)))
def A0c {U Z':Nat->Prop} {t:Ty} {k e e':Nat} {ls:List (List t.den)} {al:List (Nat×Nat)} (h:RL U w Z B k (.rows t e e' ls al none)) (c:∀b,Z b->Z' b) (a:∀b,B4 w (B k) (.rows t e e' ls al none) b->Z' b):C9 (.sl (.sl t)) w Z' [B k] ls:=gJ h.rowsR c a
def Ct.wf {t:Ty} {e e':Nat} {v:Value} {ls:List (List t.den)} (h:Ct w Z t e e' v ls):(Ty.sl (Ty.sl t)).wf ls:=C9.wf (gJ (al:= []) h (Z':=λ_=>True) (λ_ _=>trivial) (λ_ _=>trivial))
def C3.freeze (h:C3 za w0 st E w Z B) {k:Nat} {f:C} (H:st.nm<=k) (y:RC w (λb=>Z b\/B4 w (B k) (st.L k) b) B f (B k)) (l:∀n,Cz n f):C3 za w0 (st.freeze k f) E w (λb=>Z b\/B4 w (B k) (st.L k) b) B:=by
 have c:C3 za w0 (st.setL k .none) E w (λb=>Z b\/B4 w (B k) (st.L k) b) B:=by
  refine(h.drop k).keep h.ext (qV _) (λ_ _=>rfl) (λ_=> .inl) (λb d=>?_);rcases d with d|d
  . exact .inl d
  obtain⟨g,u,_⟩:=(h.locs k).root d;refine .inr ⟨u,?_,λq a=>?_⟩
  . rcases g with g|g
    . exact g.2
    have:=h.nms.1;omega
  rw[St.L_setL]at a;by_cases j:q=k
  . rw[qR j]at a;exact a.elim
  rw[qL j]at a;exact h.disj q k b j a d
 have i:∀v,v=B k->RC w (λb=>Z b\/B4 w (B k) (st.L k) b) B f v:=λv hv=>by subst hv;exact y
 refine⟨c.ext,c.zlt,λs=>?_,λq=>?_,λq D b A r t=>?_,λs=>?_,λq=>?_,λq a=>?_,c.bone,c.zin,c.nms,c.bfix,⟨c.mrk.1,λq b z o=>c.mrk.2 q b z (by rw[St.L_freeze,eZ, <-St.L_setL]at o;exact o)⟩,A5s i c.frs,B2w (l _) c.frf⟩
 . rw[St.S_freeze];exact A5r i (c.slots s)
 . rw[St.L_freeze, <-St.L_setL];have:=c.locs q;cases a:(st.setL k .none).L q with
   |box T G=>
    rw[a]at this;obtain⟨b,F,d,g,j,u,x⟩:=this;exact⟨b,F,d,g,j,u,LK i x⟩
   |none=>trivial
   |row _ _ _=>rw[a]at this;exact this
   |map _ _ _ _ _=>rw[a]at this;exact this
   |rows _ _ _ _ _ _=>rw[a]at this;exact this
   |al _=>trivial
   |sbox _ _ _=>rw[a]at this;exact this
   |iter _ _ _ _ _ _=>rw[a]at this;exact this
   |mapE _ _ _ _ _ _ _=>rw[a]at this;exact this
   |nest _ _ _ _ _ _=>rw[a]at this;exact this
   |itM _ _ _ _ _ _ _ _=>rw[a]at this;exact this
 . rw[St.L_freeze,eZ, <-St.L_setL]at r t;exact c.disj q D b A r t
 . rw[St.S_freeze];exact oC (l _) (c.refs s)
 . rw[St.L_freeze, <-St.L_setL];exact B2x (l _) (c.refl q)
 rw[St.L_freeze, <-St.L_setL,c.fresh q a];rfl
def kC {f g:Bool} {c d:Ty} {b:Nat} {a:Array MapEntry} {cl:Nat} {es:List (c.den×d.den)} (h:w.heap[b]? =some (.map a cl)) (j:MOk a cl) (i:La w Z f c g d a.toList es) (k:Z b):C9 (.mp f c g d) w Z [.map (some b)] es:= .inr ⟨b,a,cl,rfl,k,h,j,i⟩
def settle:St->List C->St
 |st,[]=>st
 |st, .row k::a=>match st.L k with
  | .row t _ l=>settle (bif Nat.ble st.nm k then st.freeze k (.val (.sl t) l)else st) a
  | .rows t _ _ b _ none=>settle (bif Nat.ble st.nm k then st.freeze k (.val (.sl (.sl t)) b)else st) a
  | _=>settle st a
 |st, .win k _ _ _::a=>match st.L k with
  | .row t _ l=>settle (bif Nat.ble st.nm k then st.freeze k (.val (.sl t) l)else st) a
  | _=>settle st a
 |st, .mp k::a=>match st.L k with
  | .map c d f g b=>settle (bif Nat.ble st.nm k then st.freeze k (.val (.mp c d f g) b)else st) a
  | _=>settle st a
 |st,_::a=>settle st a
def C3.settle (h:C3 za w0 st E w Z B):∀cs:List C,∃Z',C3 za w0 (settle st cs) E w Z' B:=by
 intro cs
 induction cs generalizing st Z with
 |nil=>exact⟨Z,h⟩
 |cons f cs a=>
  cases f with
  |row k=>
   simp only[Vc.settle];cases b:st.L k with
   |row t e r=>
    cases j:Nat.ble st.nm k with
    |false=>exact a h
    |true=>
     have c:=h.locs k;rw[b]at c;obtain⟨s,d,i,o⟩:=c;have l:=E7 d;exact a (h.freeze (qO j) (Cv d (i.mono λ_ _=>C9.mono (λ_=> .inl) (λ_ _=>rfl)) (λn g=> .inr (by rw[b];exact l.trans g))) (λ_=>trivial))
   |rows t e l n al i=>
    cases i with
    |some _=>exact a h
    |none=>
     cases g:Nat.ble st.nm k with
     |false=>exact a h
     |true=>
      have c:=h.locs k;rw[b]at c;exact a (h.freeze (qO g) (A0c c (λ_=> .inl) λj d=> .inr (by rw[b];exact d)) (λ_=>trivial))
   | _=>exact a h
  |win k _ _ _=>
   simp only[Vc.settle];cases c:st.L k with
   |row t e r=>
    cases j:Nat.ble st.nm k with
    |false=>exact a h
    |true=>
     have b:=h.locs k;rw[c]at b;obtain⟨s,d,i,o⟩:=b;have l:=E7 d;exact a (h.freeze (qO j) (Cv d (i.mono λ_ _=>C9.mono (λ_=> .inl) (λ_ _=>rfl)) (λn g=> .inr (by rw[c];exact l.trans g))) (λ_=>trivial))
   | _=>exact a h
  |mp k=>
   simp only[Vc.settle];cases c:st.L k with
   |map s t u v r=>
    cases j:Nat.ble st.nm k with
    |false=>exact a h
    |true=>
     have b:=h.locs k;rw[c]at b;obtain⟨l,o,n,e,_,_,d,i,g⟩:=b;exact a (h.freeze (qO j) (by rw[e];exact kC d i (g.mono (λ_=> .inl) (λ_ _=>rfl)) (.inr (by rw[c];rfl))) (λ_=>trivial))
   | _=>exact a h
  | _=>exact a h
def stillB (cx:Cx) (st:St) (k:Nat):St:=match st.L k with
 | .box T a=>bif Nat.ble st.nm k then(match cx.ti T with
  |some ti=>match(settle st a).L k with
   | .box _ b=>(match Mm ti.ty b with
    |some (x,[])=>((settle st a).setL k .none).setL k (.sbox k ti.ty x)
    | _=>st)
   | _=>st
  |none=>st)else st
 | _=>st
def C3.stillB (h:C3 za w0 st E w Z B) (cx:Cx) (k:Nat):∃Z',C3 za w0 (stillB cx st k) E w Z' B:=by
 unfold Vc.stillB;split
 . rename_i T b I;cases x:Nat.ble st.nm k with
   |false=>exact⟨Z,h⟩
   |true=>
    simp only[qS];split
    . rename_i ti J;obtain⟨Z1,a⟩:=h.settle b;split
      . rename_i T' F i;split
        . rename_i D y;have o:k<(Vc.settle st b).nx:=by
           by_cases d:k<(Vc.settle st b).nx
           . exact d
           rw[a.fresh k ω]at i;cases i
          have n:=a.locs k;rw[i]at n;obtain⟨g,A,e,G,H,r,s⟩:=n;have v:∀c,B4 w (B k) ((Vc.settle st b).L k) c↔c=g:=λc=>by
           rw[i,e];simp only[B4,root,rF];exact eq_comm
          have t:C3 za w0 ((Vc.settle st b).setL k .none) E w (λc=>Z1 c\/B4 w (B k) ((Vc.settle st b).L k) c) B:=by
           refine(a.drop k).keep a.ext (qV _) (λ_ _=>rfl) (λ_=> .inl) (λc d=>?_);rcases d with d|d
           . exact .inl d
           obtain⟨j,z,_⟩:=(a.locs k).root d;refine .inr ⟨z,?_,λq f=>?_⟩
           . rcases j with j|j
             . exact j.2
             have M:=a.nms.1;have N:=h.nms.1;have:=qO x;omega
           rw[St.L_setL]at f;by_cases l:q=k
           . rw[qR l]at f;exact f.elim
           rw[qL l]at f;exact a.disj q k c l f d
          have u:=t.addL (k:=k) (lc:= .sbox k ti.ty D) o ⟨rfl,⟨g,0,A.toList,by rw[e], .inr ((v g).2 rfl),r.cellsAt,(Hd s y).mono (λ_=> .inl) (λ_ _=>rfl)⟩,g,e⟩ (λ_ _ _ hh=>hh.elim) o (λ_ _ hh=>hh.elim);exact⟨_,u⟩
        exact⟨Z,h⟩
      exact⟨Z,h⟩
    exact⟨Z,h⟩
 exact⟨Z,h⟩
def settleO (st:St) (x:Operand):St:=match st.ev [] x with
 |some s=>settle st s.cs
 |none=>st
def C3.settleO (h:C3 za w0 st E w Z B) (x:Operand):∃Z',C3 za w0 (settleO st x) E w Z' B:=by
 unfold Vc.settleO;split
 . exact h.settle _
 exact⟨Z,h⟩
end
section
variable {P:Program} {all:List Oper} {E:G8} {w w':World} {next:G8->World->Prop} {d:Nat} {op:Op} {ty:TypeId} {pos:String} {aft:Array Edge} {g:Option (Nat×Bool)} {v:Value}
def S4 (b:Gw.E2 P E ty op w v w') (a:E1 all ⟨some d,op,ty,pos,aft,g⟩ E=true) (h:next (upd E d v) w'):K4 P all ⟨some d,op,ty,pos,aft,g⟩ next E w:=by
 unfold K4;rw[qR a,b];exact h
def A7l (b:Gw.E2 P E ty op w v w') (a:E1 all ⟨none,op,ty,pos,aft,g⟩ E=true) (h:next E w'):K4 P all ⟨none,op,ty,pos,aft,g⟩ next E w:=by
 unfold K4;rw[qR a,b];exact h
def Wa (b:Gw.KM P E ty op w w') (a:E1 all ⟨none,op,ty,pos,aft,g⟩ E=true) (h:next E w'):K4 P all ⟨none,op,ty,pos,aft,g⟩ next E w:=by
 unfold K4;rw[qR a,b];exact h
def AX {f:FuncId} {args:List Value} {Φ:Value->World->Prop} (a:Gw.A1g P E ty op w f args) (b:Gw.cD P f args w Φ) (c:E1 all ⟨some d,op,ty,pos,aft,g⟩ E=true)
 (h:∀v w',Φ v w'->next (upd E d v) w'):K4 P all ⟨some d,op,ty,pos,aft,g⟩ next E w:=by
 unfold K4;rw[qR c,a];exact Calls.mono b λ_ _ ⟨v,a,hv⟩=>⟨v,a,h _ _ hv⟩
def Ng (a:E1 all ⟨some d,op,ty,pos,aft,g⟩ E=false) (h:next (upd E d undef) w):K4 P all ⟨some d,op,ty,pos,aft,g⟩ next E w:=by
 unfold K4;rw[qL (by rw[a];simp)];exact h
end
def wrB:Op->Bool
 | .store _ _ _=>true
 | .mapUpdate _ _ _ _=>true
 | .insert _ _ _ _=>true
 | .next _ _=>true
 | .mapEntry _ _ _=>true
 | .entryStore _ _ _ _=>true
 | .call ⟨.builtin .append,_,_⟩=>true
 | .call ⟨.builtin .copy,_,_⟩=>true
 | .call ⟨.builtin .delete,_,_⟩=>true
 | .call ⟨.builtin .clear,_,_⟩=>true
 | _=>false
def Nx (c:Zn) (b:World) (k:St->Prop) (E:G8) (w:World):Prop:=∃a Z B,C3 c b a E w Z B/\k a
def eC (b:Zn) (a w:World) (wr:Bool) (k:St->Prop) (E:G8) (w':World):Prop:=(wr=false->R5 w w')/\Nx b a k E w'
def Sg (t:Ty):Nat->List (Nat×List C)->Option (List t.den)
 | _,[]=>some []
 |i,(j,a)::r=>bif Nat.beq i j then(match Mm t a with
  |some (x,[])=>(Sg t (i+1) r).map (x:: ·)
  | _=>none)else none
def settleP:St->List (Nat×Operand)->St
 |a,[]=>a
 |a,(_,x)::r=>settleP (settleO a x) r
def jR (a:St) (x:Operand):Option Int:=(a.ev [] x).bind UB
def Uw:Value->Bool
 | .slice none 0 0=>true
 | _=>false
def Gv {v:Value} (h:Uw v=true):v= .slice none 0 0:=by
 unfold Uw at h;split at h
 . rfl
 cases h
def XK (a:St) (t:Ty):C->Option (List t.den)
 | .val (.sl b) l=>if h:b=t then some (h▸l)else none
 | .row k=>match a.L k with
  | .row b _ l=>if h:b=t then some (h▸l)else none
  | _=>none
 | .win k sz c b=>match a.L k with
  | .row a _ l=>if h:a=t then(bif Nat.beq sz a.size then some (h▸((l.take b.toNat).drop c.toNat))else none)else none
  | _=>none
 | .raw v=>bif Uw v then some []else none
 | _=>none
def QP (a:St) (t:Ty) (e:TypeId):C->Option (List t.den)
 | .row k=>match a.L k with
  | .row c b l=>if h:c=t then(bif Nat.beq b e&&Nat.ble a.nm k then some (h▸l)else none)else none
  | _=>none
 | .raw v=>bif Uw v then some []else none
 | _=>none
def boxS (a:St) (d:Tmp) (T:TypeId) (cs:List C):St:=(a.newL (.box T cs)).setS d (one1 (.box a.nx 0))
def rowS (a:St) (d:Tmp) (t:Ty) (e:TypeId) (l:List t.den):St:=(a.newL (.row t e l)).setS d (one1 (.row a.nx))
def C3p (a:St) (d:Tmp) (b:Bool) (c:Ty) (f:Bool) (g:Ty):St:=(a.newL (.map b c f g [])).setS d (one1 (.mp a.nx))
def gK (a:St) (d:Tmp) (t:Ty) (e e':TypeId) (ls:List (List t.den)):St:=(a.newL (.rows t e e' ls [] none)).setS d (one1 (.row a.nx))
def YH (cx:Cx) (a:St) (d:Tmp) (ti:TI) (n:Nat):Option St:=match ti.ty with
 | .sl (.sl t)=>(cx.ti ti.elem).map λb=>gK a d t ti.elem b.elem (List.replicate n [])
 | _=>none
def B6a (c:Bool) (a:Ty) (d:Bool) (b:Ty):C->Option (List (a.den×b.den))
 | .val t f=>if h:t=Ty.mp c a d b then some (h▸f:(Ty.mp c a d b).den)else none
 | .raw (.map none)=>some []
 | _=>none
def B1e (a:St) (d:Tmp) (k:Nat) (t:Ty) (e e':TypeId) (ls:List (List t.den)) (al:List (Nat×Nat)) (i:Nat):St:=((a.newL (.al k)).setL k (.rows t e e' ls ((i,a.nx)::al) none)).setS d (one1 (.row a.nx))
def dropR (a:St):C->St
 | .row k=>a.setL k .none
 | _=>a
def IK (c:C):C->Bool
 | .win k _ _ _=>match c with
  | .row j=> !(Nat.beq j k)
  | _=>true
 | .row k=>match c with
  | .row j=> !(Nat.beq j k)
  | _=>true
 | _=>true
def slT:Ty->Option Ty
 | .sl t=>some t
 | _=>none
def C1y (cx:Cx) (a:St) (d:Tmp) (T:TypeId) (x y:Operand):Option (Option Prop×St):=do
 let ti<-cx.ti T
 let t<-slT ti.ty
 let b<-(a.ev [] x).bind c1
 let f<-(a.ev [] y).bind c1
 let l<-QP a t ti.elem b
 let c<-XK a t f
 bif IK b f&&Nat.ble 1 t.size then some (some ((l.length+c.length)*ti.bytes<=140737488355328/\l.length+c.length<=9223372036854775807),rowS (dropR a b) d t ti.elem (l++c))else none
def Ly {α:Type} (l a:List α):List α:=a.take l.length++l.drop a.length
def nH (cx:Cx) (a:St) (d:Tmp) (T:TypeId) (x y:Operand):Option St:=do
 let ti<-cx.ti T
 let t<-slT ti.ty
 let c<-(a.ev [] x).bind c1
 let b<-(a.ev [] y).bind c1
 let f<-XK a t b
 match c with
 | .row k=>match a.L k with
  | .row c e l=>if h:c=t then(bif IK (.row k) b then some ((a.setL k (.row c e (Ly l (h▸f)))).setS d (one1 (.val (.int .i64) (min (f.length:Int) (l.length:Int)))))else none)else none
  | _=>none
 | _=>none
def fN (cx:Cx) (a:St) (d:Tmp) (T:TypeId) (x:Operand):Option St:=do
 let ti<-cx.ti T
 let c<-(a.ev [] x).bind c1
 match c with
 | .elp k sz i f=>match a.L k with
  | .rows t e b c al none=>bif Nat.beq sz 1&&Nat.beq f 0&& !ti.agg then some (B1e a d k t e b c al i)else none
  | _=>none
 | _=>none
def B7q (a:St):C->St
 | .row q=>match a.L q with
  | .al k=>match a.L k with
   | .rows t e b c al none=>match GW q al with
    |some i=>bif Nat.ble a.nm k&&Nat.ble a.nm q then(a.setL k (.rows t e b c [] (some i))).setL q (.row t b (c.getD i []))else a
    |none=>a
   | _=>a
  | _=>a
 | _=>a
def detO (a:St) (x:Operand):St:=match(a.ev [] x).bind c1 with
 |some c=>B7q a c
 |none=>a
def B2k (cx:Cx) (a:St) (d:Tmp):Op->Option (Option Prop×St)
 | .box T x=>do
  let s<-a.ev [] x
  bif s.cs.all Ft then some (none,boxS a d T s.cs)else none
 | .alloc T=>do
  let ti<-cx.ti T
  some (none,boxS a d T (CS ti.ty))
 | .buildSlice T len b=>do
  let ti<-cx.ti T
  let t<-slT ti.ty
  let c:=settleP a b.toList
  let f<-Le c [] b.toList
  let b<-Sg t 0 f
  bif Nat.beq b.length len&&Nat.ble (len*t.size) 16777216&&Nat.ble 1 t.size then some (none,rowS c d t ti.elem b)else none
 | .makeSlice T c b=>do
  let ti<-cx.ti T
  let t<-slT ti.ty
  let l<-jR a c
  let c<-jR a b
  bif ti.rows then(YH cx a d ti l.toNat).map λb=>(some (0<=l/\l<=c/\(ti.bytes:Int)*c<=281474976710656/\c<=9223372036854775807),b)
  else bif Rx t then some (some (0<=l/\l<=c/\(ti.bytes:Int)*c<=281474976710656/\c<=9223372036854775807),rowS a d t ti.elem (List.replicate l.toNat t.dflt))else none
 | .call ⟨.builtin .append,b,c⟩=>match b.toList,c.toList with
  | [x,y],[T,T']=>bif Nat.beq T T' then C1y cx (detO a x) d T x y else none
  | _,_=>none
 | .makeMap T r=>do
  let ti<-cx.ti T
  match ti.ty,r with
  | .mp b c f g,none=>some (none,C3p a d b c f g)
  | .mp b c f g,some o=>(jR a o).map λ_=>(none,C3p a d b c f g)
  | _,_=>none
 | .call ⟨.builtin .len,b,c⟩=>match b.toList,c.toList with
  | [x],[T]=>do
   let ti<-cx.ti T
   match ti.ty with
   | .mp f g h i=>do
    let c<-(a.ev [] x).bind c1
    let b<-B8v a f g h i c
    some (some (b.length<=9223372036854775807),a.setS d (one1 (.val (.int .i64) (b.length:Int))))
   | _=>none
  | _,_=>none
 | .load T x=>(fN cx a d T x).map λb=>(none,b)
 | .range T x=>do
  let ti<-cx.ti T
  match ti.ty with
  | .mp b c f g=>do
   let h<-((settleO a x).ev [] x).bind c1
   let i<-B6a b c f g h
   some (none,((settleO a x).newL (.iter b c f g i none)).setS d (one1 (.box (settleO a x).nx 0)))
  | _=>none
 | .entry x=>do
  let c<-(a.ev [] x).bind c1
  match c with
  | .box k f=>match a.L k with
   | .iter b c g h _ (some y)=>bif Nat.beq f 0 then some (none,a.setS d (.tup [⟨b,explode c y.1⟩,⟨g,explode h y.2⟩]))else none
   | _=>none
  | _=>none
 | .call ⟨.builtin .copy,b,c⟩=>match b.toList,c.toList with
  | [x,y],[T,_]=>(nH cx a d T x y).map λb=>(none,b)
  | _,_=>none
 | _=>none
section
variable {za:Zn} {w0 w w':World} {Z Z':Nat->Prop} {B:Nat->Value} {st st':St} {E:G8} {cx:Cx} {φ:Option Prop} {d:Tmp}
def T3.len {a b:Type} {Rk:Value->a->Prop} {Rv:Value->b->Prop} :∀ {l:List (a×b)} {es:List MapEntry},T3 Rk Rv es l->es.length=l.length
 | [],_,h=>by rw[show _= _ from h];rfl
 | _:: _,_,⟨e,c,b,_,_,a⟩=>by rw[b,rK,rK,T3.len a]
def Fs (h:C3 za w0 st E w Z B) {k:Nat} (a:live (st.L k)):k<st.nx:=by
 by_cases b:k<st.nx
 . exact b
 rw[h.fresh k ω]at a;exact a.elim
def Ml {a b e sz n:Nat} {v:Value} {xs:List Value} (h:w.ownsRow a e sz v n xs) (i:b<=a):w.ownsRow b e sz v n xs:=by
 refine⟨h.1,?_⟩;rcases h.2 with h| ⟨g,a,b,c,d,f⟩
 . exact .inl h
 exact .inr ⟨g,a,b,c,qX i d,f⟩
def kR {d a e sz n:Nat} {v:Value} {xs:List Value} (h:w.ownsRow d e sz v n xs) (k:∀b,v.ownBlock=some b->a<=b):w.ownsRow a e sz v n xs:=by
 refine⟨h.1,?_⟩;rcases h.2 with h| ⟨g,f,i,c,l,j⟩
 . exact .inl h
 exact .inr ⟨g,f,i,c,k g (by rw[c];rfl),j⟩
def C3.newBox (h:C3 za w0 st E w Z B) (d:Tmp) {T:TypeId} {cs:List C} {vs:Array Value} (s:Db w Z B cs vs.toList) (j:∀c∈cs,Cz st.nx c):
 ∃B',C3 za w0 (boxS st d T cs) (upd E d (.pointer (some ⟨w.heap.size,0,none⟩))) (w.alloc (.cells vs T)) Z B':=by
 have g:R5 w (w.alloc (.cells vs T)):=R5.alloc w _;have l:=h.more (Z':=Z) g (λ_=>id) (λ_=> .inl);have i:∀b,Z b->b<w.heap.size:=h.zlt;have u:O6 Z w (w.alloc (.cells vs T)):=λb a=>g.block b (i b a)
 have o:=l.new (v:= .pointer (some ⟨w.heap.size,0,none⟩)) (lc:= .box T cs) ⟨w.heap.size,vs,C2 _ _ _, .inl ⟨h.nms.2,h.ext.size⟩,λhz=>absurd (i _ hz) (uT _),Fz w vs T,
  Db.mono (n:=st.nx) (λ_=>id) u (λk t=>C5 _ _ _ _ (tY t)) j s⟩
  (λk b a r=>by
   simp only[B4,root,rF]at a;have:=((h.locs k).root (h.ft g r)).2.1;omega)
  (λc f=>(j c f).le (uI _)) rfl (λb _ a=>by simp only[B4,root,rF]at a;have:=h.mrk.1;omega)
 refine⟨_,o.setS d (x:=one1 (.box st.nx 0)) ⟨_,[],rfl,⟨w.heap.size,C2 _ _ _,rfl⟩,rfl⟩ (λc f=>?_)⟩;simp at f;subst f;exact rR _
def C3.newRowE (h:C3 za w0 st E w' Z B) (d:Tmp) {t:Ty} {e:TypeId} {l:List t.den} {v:Value} {xs:List Value} (c:w'.ownsRow w0.heap.size e t.size v l.length xs) (o:G5 (C9 t w' Z) xs l) (g:∀b,v.ownBlock=some b->¬Z b/\∀k,¬B4 w' (B k) (st.L k) b) (s:∀b,za.k0<=st.nx->v.ownBlock=some b->za.b0<=b):
 C3 za w0 (rowS st d t e l) (upd E d v) w' Z (upd B st.nx v):=by
 have i:=E7 c;have u:v.oneCell'=true:=by rcases c.2 with⟨hv,_⟩ | ⟨_,_,_,hv,_⟩<;>rw[hv]<;>rfl
 have j:=h.new (v:=v) (lc:= .row t e l) ⟨xs,by rw[C2];exact Ml c (rS _),o,λb a=>by rw[C2]at a;exact⟨.inl ⟨h.nms.2,(World.ownsRow.lt c b a).1⟩,(g b a).1⟩⟩
  (λk b a n=>(g b (i.symm.trans a)).2 k n) trivial u (λb r a=>s b r (i.symm.trans a))
 refine j.setS d (x:=one1 (.row st.nx)) ⟨_,[],rfl,(C2 _ _ _).symm,rfl⟩ (λw f=>?_);simp at f;subst f;exact rR _
def C3.newRow (h:C3 za w0 st E w' Z B) (d:Tmp) {t:Ty} {e:TypeId} {l:List t.den} {v:Value} {xs:List Value} (g:w'.ownsRow w0.heap.size e t.size v l.length xs) (a:G5 (C9 t w' Z) xs l) (f:∀b,v.ownBlock=some b->¬Z b/\∀k,¬B4 w' (B k) (st.L k) b) (c:∀b,za.k0<=st.nx->v.ownBlock=some b->za.b0<=b):
 ∃B',C3 za w0 (rowS st d t e l) (upd E d v) w' Z B':=⟨_,h.newRowE d g a f c⟩
def Sf {j k e e' sz n:Nat} {v:Value} {xs i:List Value} (h:w.ownsRow j e sz v n xs) (c:w.ownsRow k e' sz v n i):xs=i:=by
 rcases h.2 with⟨b,o⟩ | ⟨z,t,x,b,_,l,_,_,_,r⟩
 . have d:=h.1;have f:=c.1;rw[o,xV]at d f;rw[qN d,qN f]
 rcases c.2 with⟨a,_⟩ | ⟨A,u,y,a,_,g,_,_,_,s⟩
 . rw[b]at a;cases a
 rw[b]at a;cases a;rw[l]at g;cases g;rw[<-r, <-s]
def C3.newRows (h:C3 za w0 st E w' Z B) (d:Tmp) (t:Ty) {e:TypeId} (e':TypeId) {n:Nat} {v:Value} {xs:List Value} (f:w'.ownsRow w0.heap.size e 1 v n xs) (N:∀x∈xs,x= .slice none 0 0) (A:∀b,v.ownBlock=some b->¬Z b/\∀k,¬B4 w' (B k) (st.L k) b) (H:∀b,za.k0<=st.nx->v.ownBlock=some b->za.b0<=b):
 ∃B',C3 za w0 (gK st d t e e' (List.replicate n [])) (upd E d v) w' Z B':=by
 have I:=E7 f;have M:v.oneCell'=true:=by rcases f.2 with⟨g,_⟩ | ⟨_,_,_,g,_⟩<;>rw[g]<;>rfl
 have r:∀(i:Nat) (x:Value),xs[i]? =some x->x= .slice none 0 0:=λi x c=>N x (sW c)
 have s:∀b,B4 w' v (.rows t e e' (List.replicate n []) [] none) b->v.ownBlock=some b:=λb a=>by
  rcases a with a| ⟨V,m,P,R,U,i,x,g,G,X,_,c,a⟩
  . exact I.symm.trans a
  exfalso;rcases f.2 with⟨o,_⟩ | ⟨W,Q,T,o,_,z,Y,_,a0,J⟩
  . rw[g]at o;cases o
  rw[g]at o;cases o;rw[G]at z;cases z;have:xs[i]? =some x:=by rw[<-J,rX ω];simpa using c
  rw[r i x this]at a;simp[root]at a
 have D:=h.new (v:=v) (lc:= .rows t e e' (List.replicate n []) [] none) ⟨xs,by rw[C2,rG];exact Ml f (rS _),⟨λp u=>(by cases u),λi l x _ hl c=>⟨[],?_,?_⟩,λi j x y b _ _ _ c _ a=>?_⟩,λi x b _ c a=>?_,λb a=>?_⟩
  (λk b a F=>(A b (s b a)).2 k F) (λp u=>by cases u) M (λb hk a=>H b hk (s b a))
 . refine⟨_,D.setS d (x:=one1 (.row st.nx)) ⟨_,[],rfl,(C2 _ _ _).symm,rfl⟩ (λO w=>?_)⟩;simp at w;subst w;exact rR _
 . have:=(zT.1 (sW hl)).2;subst this;exact⟨by simp, .inl ⟨r i x c,rfl⟩⟩
 . have:=(zT.1 (sW hl)).2;subst this;rfl
 . rw[r i x c]at a;simp[root]at a
 . rw[r i x c]at a;simp[root]at a
 rw[C2]at a;have a:=s b a;have:=World.ownsRow.lt f b a;exact⟨.inl ⟨h.nms.2,this.1⟩,(A b a).1,this.2⟩
def C3.aliasL (h:C3 za w0 st E w Z B) {k:Nat} {t:Ty} {e e':TypeId} {ls:List (List t.den)} {al:List (Nat×Nat)} {i:Nat} {v:Value} {xs:List Value} (l:st.L k= .rows t e e' ls al none) (z:w.ownsRow 0 e 1 (B k) ls.length xs) (D:AtV xs i v) (A:v.oneCell'=true):
 C3 za w0 ((st.newL (.al k)).setL k (.rows t e e' ls ((i,st.nx)::al) none)) E w Z (upd B st.nx v):=by
 have n:k<st.nx:=Fs h (by rw[l];trivial);have c:=h.new (v:=v) (lc:= .al k) trivial (λ_ _ b=>b.elim) trivial A (λ_ _ b=>b.elim);have d:(st.newL (.al k)).L k= .rows t e e' ls al none:=by rw[St.L_newL,qL (tY n),l]
 have g:=c.locs k;have j:=c.refl k;rw[d]at g j;have y:(upd B st.nx v) k=B k:=C5 _ _ _ _ (tY n);obtain⟨G,f,⟨o,r,s⟩,u,x⟩:=g;have F:xs=G:=Sf z (by rw[<-y];exact f);subst F;refine c.relc (k:=k) (lc:= .rows t e e' ls ((i,st.nx)::al) none) (by rw[d];trivial) ⟨xs,f,⟨λp a=>?_,r,s⟩,u,x⟩ (λp a=>?_) (λH b=> .inr (by rw[d];exact b))
 . rcases qW.1 a with rfl|a
   . simp only[C2];exact D
   exact o p a
 rcases qW.1 a with rfl|a
 . exact rR _
 exact j p a
def C3.alias (h:C3 za w0 st E w Z B) (d:Tmp) {k:Nat} {t:Ty} {e e':TypeId} {ls:List (List t.den)} {al:List (Nat×Nat)} {i:Nat} {v:Value} {xs:List Value} (b:st.L k= .rows t e e' ls al none) (c:w.ownsRow 0 e 1 (B k) ls.length xs) (g:xs[i]? =some v) (f:v.oneCell'=true):
 ∃B',C3 za w0 (B1e st d k t e e' ls al i) (upd E d v) w Z B':=by
 refine⟨_,(h.aliasL b c (.inl g) f).setS d (x:=one1 (.row st.nx)) ⟨_,[],rfl,(C2 _ _ _).symm,rfl⟩ (λj a=>?_)⟩;simp at a;subst a;exact rR _
def C3.newMap (h:C3 za w0 st E w Z B) (d:Tmp) (g:Bool) (i:Ty) (j:Bool) (k:Ty):
 ∃B',C3 za w0 (C3p st d g i j k) (upd E d (.map (some w.heap.size))) (w.alloc (.map #[] 0)) Z B':=by
 have f:R5 w (w.alloc (.map #[] 0)):=R5.alloc w _;have l:=h.more (Z':=Z) f (λ_=>id) (λ_=> .inl);have o:∀b,Z b->b<w.heap.size:=h.zlt;have n:=l.new (v:= .map (some w.heap.size)) (lc:= .map g i j k []) ⟨w.heap.size, #[],0,C2 _ _ _, .inl ⟨h.nms.2,h.ext.size⟩,λhz=>absurd (o _ hz) (uT _),heap_alloc_new w _,⟨by simp,by simp⟩,rfl⟩
  (λs b a r=>by
   simp only[B4,root,rF]at a;have:=((h.locs s).root (h.ft f r)).2.1;omega)
  trivial rfl (λb _ a=>by simp only[B4,root,rF]at a;have:=h.mrk.1;omega)
 refine⟨_,n.setS d (x:=one1 (.mp st.nx)) ⟨_,[],rfl,(C2 _ _ _).symm,rfl⟩ (λt c=>?_)⟩;simp at c;subst c;exact rR _
def Vl {t:Ty} :∀ {i:Nat} {g:List (Nat×List C)} {a:List (Nat×Value)} {xs:List t.den},A4w w Z B g a->Sg t i g=some xs->a=((a.map (·.2)).zipIdx i).map (λx=>(x.2,x.1))/\(∀v∈a.map (·.2),v.cells.size=t.size)/\xs.length=a.length/\G5 (C9 t w Z) ((a.map (·.2)).flatMap (·.cells.toList)) xs
 |i,[],a,xs,h,b=>by cases b;rw[show a= []from h];exact⟨rfl,by simp,rfl,rfl⟩
 |i,(y,A)::D,a,xs,⟨v,E,e,n,o⟩,b=>by
  simp only[Sg]at b;cases d:Nat.beq i y with
  |false=>simp[d]at b
  |true=>
   have r:=qD d;subst r;simp only[d,qS]at b;split at b
   . rename_i x s;simp only[qK]at b;obtain⟨F,u,rfl⟩:=b;obtain⟨h,j,k,l⟩:=Vl o u;have f:=Hd n s;subst e;refine⟨?_,?_,by simp[k],⟨v.cells.toList,_,by simp,f,l⟩⟩
     . simp only[rW,g1w];rw[<-h]
     intro z c;simp only[rW,qW]at c;rcases c with rfl|c
     . have:=C9.length f;simpa using this
     exact j z (by simpa using c)
   cases b
def C3.settleP (h:C3 za w0 st E w Z B):∀a:List (Nat×Operand),∃Z',C3 za w0 (settleP st a) E w Z' B:=by
 intro a
 induction a generalizing st Z with
 |nil=>exact⟨Z,h⟩
 |cons x a b=>
  obtain⟨Z1,a⟩:=h.settleO x.2;exact b a
def Ra {P:Program} {T e ty:TypeId} {sz len:Nat} {parts:List (Nat×Operand)} {z:Value} (vs:List Value) (d:Ho P T e sz=true) (t:Fq P e=some z) (g:len*sz<=16777216) (n:1<=sz) (y:z.cells.size=sz)
 (c:(parts.map λx=>(x.1,Gw.ev E x.2))=(vs.zipIdx 0).map λx=>(x.2,x.1)) (s:∀v∈vs,v.cells.size=sz) (b:vs.length=len):
 ∃cs:Array Value,cs.toList=vs.flatMap (·.cells.toList)/\Gw.E2 P E ty (.buildSlice T len parts.toArray) w (.slice (some ⟨w.heap.size,0,none⟩) len len) (w.alloc (.cells cs e)):=by
 by_cases a:len=0
 . subst a;have:vs= []:=qN b;subst this;refine⟨#[],rfl,λ_ _ _ _=>?_⟩;obtain⟨o,l⟩:=Jz d;have f:=Gw.Fx (P:=P) (w:=w) l;have i:parts= []:=by simpa using c
   subst i;simp only[execOp];unfold Instr.buildSlice;have a:Array.range 0= #[]:=by apply Array.ext<;>simp
   simp[run_underlying o,f,Instr.fill,newRow,a]
 obtain⟨r,j,k,u⟩:=nX sz vs 0 ((Array.range (len*sz)).map (z.cells[· %z.cells.size]!)) s (by simp[b]);refine⟨r,by rw[k];simp[b],?_⟩;have h:len*sz≠0:=by
  have:1<=len:=ω
  have:=uJ this n;omega
 exact lN r d t g (by rw[c];exact j) h
def HZ {P:Program} {o:Nat} {t ty e:TypeId} {i:TypeInfo} {z:Value} {size:Nat} (k:P.underlying t=some (.slice e)) (f:P.info? e=some i) (D:i.zero=some z) (I:i.size=size) (a1:z.cells.size=size) (a0:0<size)
 {v:Value} {n:Nat} {xs:List Value} (d:w.ownsRow o e size v n xs) {ao:Option Addr} {m c:Nat} {news:List Value} (h:news.length=m*size) (V:∀a,ao=some a->I6 w a news) (X:ao=none->m=0/\c=0) (E:∀u∈news,u.oneCell'=true)
 (a3:n+m<=9223372036854775807) (B:(n+m)*i.bytes<=140737488355328) (M:o<=w.heap.size):
 ∃l w',(Builtin.append_ #[t,t] ty #[v, .slice ao m c]).run P w= .ok l w'/\w'.ownsRow o e size l (n+m) (xs++news)/\w.grownBy w' v.ownBlock/\(l.ownBlock=v.ownBlock\/l.ownBlock=some w.heap.size)/\w.drawn<=w'.drawn:=by
 cases ao with
 |none=>
  obtain⟨rfl,rfl⟩:=X rfl;have b:news= []:=qN (by simpa using h);subst b;refine⟨v,w,run_append_owned_none (P:=P) w o t ty e i size k f v n xs d,by simpa using d,⟨rfl,rfl,rfl,qV _,λ_ _ _=>rfl⟩, .inl rfl,qV _⟩
 |some a=>
  by_cases T:m=0
  . subst T;have W:news= []:=qN (by simpa using h);subst W;have b:(Builtin.append_ #[t,t] ty #[v, .slice (some a) 0 c]).run P w= .ok v w:=by
     have F:(loadCells a 0).run P w= .ok #[] w:=by simpa using run_loadCells_list (P:=P) w a [] (by simp)
     rcases d.2 with⟨rfl,rfl⟩ | ⟨g,s,A,rfl,_,_,G,_⟩
     . simp[Builtin.append_,run_underlying k,sizeOf,typeInfo,f,Builtin.lenOf,Builtin.firstCells,F]
     simp[Builtin.append_,run_underlying k,sizeOf,typeInfo,f,Builtin.lenOf,Builtin.firstCells,G,storeCells,F]
    exact⟨v,w,b,by simpa using d,⟨rfl,rfl,rfl,qV _,λ_ _ _=>rfl⟩, .inl rfl,qV _⟩
  have U:n+m<=maxLen:=by simp only[maxLen];omega
  have y:=V a rfl;obtain⟨l,a2,b,Z,R,_⟩:=run_append_own (P:=P) w o t ty e i z size i.bytes k f D I rfl a1 a0 v n xs d a m c news h y E U B M;refine⟨l,a2,b,Z,R,?_⟩;subst I;rcases d.2 with⟨rfl,rfl⟩ | ⟨x,s,A,rfl,_,O,G,_,N,_⟩
  . have J:m*i.bytes<=281474976710656:=by simp only[sD]at B;omega
    have r:=run_append_nil (P:=P) w t ty e i z k f D a m c news h y ω ω J;rw[r]at b;cases b;exact⟨.inr rfl,by simp[World.drawn_alloc,World.drawn_drew]<;>omega⟩
  by_cases H:n+m<=s
  . have Q:n*i.size+news.length<=A.size:=by rw[h,N, <-uX];exact rL _ H
    have r:=run_append_room (P:=P) w t ty e i k f x n s A O a m c news h y E H Q;rw[r]at b;cases b;exact⟨.inl rfl,by simp<;>omega⟩
  have Y:∀j u,xs[j]? =some u->w.cell? ((⟨x,0,none⟩:Addr).add j)=some u:=d.cells (g:=x) rfl;have r:=run_append_grow (P:=P) w t ty e i z k f D ⟨x,0,none⟩ n s xs d.1 Y a m c news h y ω ω (growslice_fits ω B);rw[r]at b;cases b;exact⟨.inr rfl,by simp[World.drawn_alloc,World.drawn_drew]<;>omega⟩
def XM (h:C3 za w0 st E w Z B) {t:Ty} {c:C} {l:List t.den} {v:Value} (n:RC w Z B c v) (b:XK st t c=some l):
 ∃ao f D,v= .slice ao l.length f/\l.length<=f/\(ao=none->f=0)/\(∀a,ao=some a->I6 w a D)/\G5 (C9 t w Z) D l:=by
 unfold XK at b;split at b
 . rename_i d u;split at b
   . rename_i z;subst z;cases b;obtain⟨a,f,G,T,_,g,j⟩:=n;simp only[sJ,vO]at G;rcases j with j| ⟨aa,ai,D,i,O,a1,y⟩
     . subst j;exact⟨a,f,[],G,T,g,λ_ _ a4 a6 J=>by simp at J,rfl⟩
     subst i;exact⟨_,f,D,G,T,g,λa i=>by cases i;exact a1,y⟩
   cases b
 . rename_i F;split at b
   . rename_i d W u M;split at b
     . rename_i z;subst z;cases b;have x:=h.locs F;rw[M]at x;obtain⟨A,r,y,_⟩:=x;have n:v=B F:=n;rcases r.2 with⟨s,g⟩ | ⟨H,f,ab,s,_,_,a3,_⟩
       . have:u= []:=qN g;subst this;exact⟨none,0,[],by rw[n,s];rfl,qV _,λ_=>rfl,λa i=>(by cases i),rfl⟩
       exact⟨some ⟨H,0,none⟩,f,A,by rw[n,s],a3,λj=>(by cases j),λa i=>by cases i;exact Iq r s,y⟩
     cases b
   cases b
 . rename_i F sz k o;split at b
   . rename_i d W u M;split at b
     . rename_i z;subst z;cases N:Nat.beq sz d.size with
       |false=>simp only[N,rI]at b;cases b
       |true=>
        simp only[N,qS]at b;cases b;have:=qD N;subst this;have x:=h.locs F;rw[M]at x;obtain⟨A,r,y,_⟩:=x;obtain⟨a,a5,f,P,X,Y,ac,ad,ae,af,ag,s⟩:=n;have g:a5=u.length:=by
         rcases r.2 with⟨j,U⟩ | ⟨_,_,_,j,_⟩<;>rw[P]at j<;>cases j
         . exact U.symm
         rfl
        subst g;have R:((u.take o.toNat).drop k.toNat).length=o.toNat-k.toNat:=by simp;omega
        refine⟨_,_,(A.take (o.toNat*d.size)).drop (k.toNat*d.size),by rw[s,R],by rw[R];omega,λO=>?_,λa9 I=>?_,G5.drop (λ_ _ h=>C9.length h) k.toNat (G5.take (λ_ _ h=>C9.length h) o.toNat y)⟩
        . split at O
          . omega
          have:=Y (by simpa using O);omega
        by_cases a2:f=k.toNat
        . intro a4 a6 J;have Q:=SA J;rw[sS,qZ]at Q;have ah:A.length=u.length*d.size:=r.1;have a0:k.toNat=o.toNat:=ω
          rw[a0]at Q;omega
        rw[qL a2]at I;cases a with
        |none=>cases I
        |some a8=>
         obtain⟨H,rfl⟩:=X a8 rfl;cases I;show I6 w ((⟨H,0,none⟩:Addr).add (k.toNat*d.size)) _;rw[K5,sD];have U:=M6 (Iq r P) 0 (o.toNat*d.size);rw[tP,tK]at U;have V:=M6 U (k.toNat*d.size) ((A.take (o.toNat*d.size)).drop (k.toNat*d.size)).length;rw[vD,sD]at V;exact V
     cases b
   cases b
 . rename_i a7;cases g:Uw a7 with
   |false=>simp[g]at b
   |true=>
    simp[g]at b;subst b;exact⟨none,0,[],by rw[n.1,Gv g];rfl,qV _,λ_=>rfl,λa i=>(by cases i),rfl⟩
 cases b
def Gt {P:Program} {T:TypeId} {ti:TI} {t:Ty} (h:Wc P T ti=true) (j:ti.ty= .sl t):∃i z,P.underlying T=some (.slice ti.elem)/\P.info? ti.elem=some i/\i.zero=some z/\i.size=t.size/\z.cells.toList=Em t/\z.cells.size=t.size/\i.bytes=ti.bytes/\Ho P T ti.elem t.size=true:=by
 obtain⟨b,g,i,c,k⟩:=EN h j;obtain⟨n,a⟩:=Jz b;obtain⟨z,d,f⟩:=Gj g;unfold Fq at d;unfold Tf at a;simp only[c,wE]at d;simp only[c,g1m]at a;have l:(Em t).length=t.size:=by
  clear f a b g j
  induction t with
  |pair o r g j=>simp[Em,Ty.size,g,j]
  | _=>rfl
 exact⟨i,z,n,c,d,a,f,by rw[<-sB,f,l],k,b⟩
def Jy {ty t:Ty} (h:slT ty=some t):ty= .sl t:=by
 unfold slT at h;split at h
 . cases h;rfl
 cases h
variable {all:List Oper} {ty:TypeId} {pos:String} {aft:Array Edge} {g:Option (Nat×Bool)} {k:St->Prop}
def F2 (E:G8):Q3 E []:=λ_ _ h=>by cases h
def G5.of_index {α:Type} {R:List Value->α->Prop} {s:Nat} :∀ {l:List α} {cs:List Value},cs.length=l.length*s->(∀(i:Nat) (x:α),l[i]? =some x->R ((cs.drop (i*s)).take s) x)->G5 R cs l
 | [],cs,a,_=>qN (by simpa using a)
 |x::l,cs,a,h=>by
  have b:cs.length=s+l.length*s:=by rw[a,rK,tZ,vZ]
  refine⟨cs.take s,cs.drop s,(uE s cs).symm,?_,G5.of_index (s:=s) (by rw[sS];omega) (λi y a=>?_)⟩
  . have:=h 0 x rfl;simpa using this
  have:=h (i+1) y (by simpa using a);rw[tZ,vZ, <-vW]at this;exact this
def PU {t:Ty} {z:Array Value} (g:z.toList=Em t) (u:Rx t=true) (f:z.size=t.size) (c l:Nat) (d:l<=c):G5 (C9 t w Z) ((madeCells z (c*t.size)).toList.take (l*t.size)) (List.replicate l t.dflt):=by
 have r:((madeCells z (c*t.size)).toList.take (l*t.size)).length=l*t.size:=by
  rw[qZ,sB,size_madeCells];exact tI (rL _ d)
 refine G5.of_index (s:=t.size) (by rw[r,rG]) (λi x b=>?_);have o:i<l:=by have:=SA b;simpa using this
 have v:x=t.dflt:=by
  have:=sW b;exact(zT.1 this).2
 subst v;have n:(((madeCells z (c*t.size)).toList.take (l*t.size)).drop (i*t.size)).take t.size=Em t:=by
  have B:(Em t).length=t.size:=by rw[<-g,sB,f]
  have y:i*t.size+t.size<=l*t.size:=by rw[<-tZ];exact rL _ o
  have A:l*t.size<=c*t.size:=rL _ d;apply xS;intro j;by_cases a:j<t.size
  . rw[wA,qR a,xK,wA,qR ω];have h:(i*t.size+j)%z.size=j:=by rw[f,sN,g2t,tW a]
    have k:(madeCells z (c*t.size)).toList[i*t.size+j]? =some (z[(i*t.size+j)%z.size]!):=by
     simp only[madeCells,wM,Array.getElem?_map];rw[Array.getElem?_range,qR ω];rfl
    rw[k,h, <-g,wM];rw[uU ω,g1a z j ω]
  rw[wA,qL a,rT ω]
 rw[n];exact OG u
def pD (h:C3 za w0 st E w Z B) (Q:G7 cx.P cx.tys=true) {T:TypeId} {x:Operand} (b:fN cx st d T x=some st'):∃v B',(∀w',R5 w w'->Gw.E2 cx.P E ty (.load T x) w' v w')/\C3 za w0 st' (upd E d v) w Z B':=by
 unfold fN at b;simp only[qH,bind_some]at b;obtain⟨ti,O,a1,⟨a0,I,J⟩,b⟩:=b;split at b
 . rename_i q sz i Y;split at b
   . rename_i a8 e a3 W al s;cases f:Nat.beq sz 1&&Nat.beq Y 0&& !ti.agg with
     |false=>simp only[f,rI]at b;cases b
     |true=>
      simp only[f,qS]at b;cases b;simp only[qC,rN]at f;have N:=qD f.1.1;have H:=qD f.1.2;subst N H;have M:Ei cx.P T=true:=by
       rcases(J4 (B9 Q O)).2.1 with⟨j,_⟩ | ⟨_,j,_⟩
       . rw[f.2]at j;cases j
       exact j
      obtain⟨g,X,a2,l,D,k⟩:=(h.c1 (F2 E) (bind_some.2 ⟨a0,I,J⟩)).1;have o:=h.locs q;rw[s]at o;obtain⟨t,c,⟨a4,u,a5⟩,a6,a7⟩:=o;have G:X=W.length:=by
       rw[l]at c;rcases c.2 with⟨j,_⟩ | ⟨_,_,_,j,_⟩<;>cases j
       rfl
      subst G;have V:i<t.length:=by have:=c.1;omega
      have n:=qM V;have r:=Iq c l i _ n;rw[K5,sD]at r;have F:=qM D;obtain⟨a9,y,_⟩:=u i _ _ rfl F n;have R:(t[i]).oneCell'=true:=by rcases y.2 with⟨k,_⟩ | ⟨_,_,_,k,_⟩<;>rw[k]<;>rfl
      obtain⟨B',z⟩:=h.alias d s c n R;refine⟨_,B',λw' U=>lR k M ?_,z⟩;have A:g<w.heap.size:=by rw[l]at c;exact(World.ownsRow.lt c g rfl).2
      have e:=World.cell?_of_block (a:=⟨g,i,none⟩) (U.block g A);rw[(ω:i*1+0=i),e];exact r
   cases b
 cases b
def A9s {P:Program} {w:World} {f sT ty elem:TypeId} {size g a dCap c:Nat} {d:Value} {cur:Array Value} {t:TypeId} {cs:List Value} (s:P.underlying f=some (.slice elem)) (h:(P.info? elem).map (·.size)=some size)
 (n:w.heap[g]? =some (.cells cur t (0,0))) (r:(Builtin.lenOf d).run P w= .ok c w) (k:(Builtin.firstCells size (Nat.min c a) d).run P w= .ok cs.toArray w) (l:cs.length<=cur.size) (j:∀v∈cs,v.oneCell'=true):
 (Builtin.copy_ #[f,sT] ty #[.slice (some ⟨g,0,none⟩) a dCap,d]).run P w= .ok (goInt (Nat.min c a)) (w.setRow g (cs++cur.toList.drop cs.length).toArray):=by
 have i:=run_storeCells_at P g 0 t cs 0 cur w n (by simpa using l) j;cases b:P.info? elem with
 |none=>simp[b]at h
 |some u=>
  have o:u.size=size:=by simpa[b]using h
  simp only[sD,g0b,wZ]at i;simp[Builtin.copy_,run_underlying s,r,sizeOf,typeInfo,b,o,k,i]
def A9r {P:Program} {w:World} {c sT ty elem:TypeId} {size dCap k:Nat} {b:Value} (i:P.underlying c=some (.slice elem)) (d:(P.info? elem).map (·.size)=some size)
 (h:(Builtin.lenOf b).run P w= .ok k w) (f:(Builtin.firstCells size 0 b).run P w= .ok #[] w):
 (Builtin.copy_ #[c,sT] ty #[.slice none 0 dCap,b]).run P w= .ok (goInt 0) w:=by
 cases a:P.info? elem with
 |none=>simp[a]at d
 |some j=>
  have g:j.size=size:=by simpa[a]using d
  simp[Builtin.copy_,run_underlying i,h,sizeOf,typeInfo,a,g,f]
def B2c (h:C3 za w0 st E w Z B) (b5:G7 cx.P cx.tys=true) {T sT:TypeId} {x y:Operand} (f:nH cx st d T x y=some st'):∃v w' B',Gw.E2 cx.P E ty (.call ⟨.builtin .copy, #[x,y], #[T,sT]⟩) w v w'/\C3 za w0 st' (upd E d v) w' Z B':=by
 simp only[nH,qH,bind_some]at f;obtain⟨ti,b3,bn,U,D,⟨b9,ah,ai⟩,z,⟨ba,ak,am⟩,a,b8,f⟩:=f;have U:=Jy U;obtain⟨bm,af,aa,av,ad,b2,bk,bl,bg,bj⟩:=Gt (B9 b5 b3) U;obtain⟨b6,_⟩:=h.c1 (F2 E) (bind_some.2 ⟨b9,ah,ai⟩);obtain⟨b7,_⟩:=h.c1 (F2 E) (bind_some.2 ⟨ba,ak,am⟩);obtain⟨ag,bb,c,ab,bh,ax,an,O⟩:=XM h b7 b8;cases D with
 |row k=>
  simp only at f;split at f
  . rename_i b e l t;split at f
    . rename_i aq;subst aq;cases a1:IK (.row k) z with
      |false=>simp only[a1,rI]at f;cases f
      |true=>
       simp only[a1,qS]at f;cases f;have X:=h.locs k;rw[t]at X;obtain⟨ae,Q,a2,I⟩:=X;have W:Gw.ev E x=B k:=b6;have a6:(Builtin.lenOf (Gw.ev E y)).run cx.P w= .ok a.length w:=by rw[ab];rfl
       have a5:(cx.P.info? ti.elem).map (·.size)=some b.size:=by rw[av,xC,b2]
       have bi:Nat.min a.length l.length=min a.length l.length:=rfl;have N:c.length=a.length*b.size:=O.length (λi x=>C9.length);have a3:(Builtin.firstCells b.size (Nat.min a.length l.length) (Gw.ev E y)).run cx.P w= .ok (c.take (min a.length l.length*b.size)).toArray w:=by
        rw[ab];cases ag with
        |none=>
         have:a= []:=qN (by have:=ax rfl;omega);subst this;simp[Builtin.firstCells]
        |some D=>
         have F:(c.take (min a.length l.length*b.size)).length=min a.length l.length*b.size:=by
          rw[qZ,N];exact tI (rL _ (g2r ..))
         have:=run_loadCells_list (P:=cx.P) w D (c.take (min a.length l.length*b.size)) (λj v hj=>an D rfl j v (by
          have J:=SA hj;rw[rX ω]at hj;exact hj))
         rw[F]at this;exact this
       have b0:∀u∈c.take (min a.length l.length*b.size),u.oneCell'=true:=λu hu'=>O.oneCell u (rO hu')
       have ac:∀m:Nat,m<=l.length->RC w Z B (.val (.int .i64) (m:Int)) (.int .i64 (m:Int)):=λm hm=>by
        have:l.length<=maxLen:=by
         rcases Q.2 with⟨_,V⟩ | ⟨_,_,_,_,_,_,J,aj,_⟩
         . omega
         omega
        refine⟨rfl,?_⟩;unfold GU;simp only[maxLen]at this;constructor
        . change(-9223372036854775808:Int)<= _;omega
        change _ <=(9223372036854775807:Int);omega
       have a7:(min (a.length:Int) (l.length:Int))=((min a.length l.length:Nat):Int):=ω
       rcases Q.2 with⟨s,V⟩ | ⟨g,G,n,s,au,a4,ay,ao,ap,b4⟩
       . have aw:l= []:=qN V;subst aw;have R:=A9r (sT:=sT) (ty:=ty) (dCap:=0) aa a5 a6 (by simpa using a3);refine⟨goInt 0,w,B,λ_ _ _ _=>by simp[execOp,resolve,invoke,builtin,W,s,R],?_⟩;have H:C3 za w0 (st.setL k (.row b e (Ly [] a))) E w Z B:=by
          have J:Ly ([]:List b.den) a= []:=by simp[Ly]
          rw[J];exact h.relc (by rw[t];trivial) ⟨ae,Q,a2,I⟩ trivial (λz aj=> .inl aj)
         refine H.setS d ?_ (λi A=>by simp at A;subst A;trivial);rw[a7,show min a.length ([]:List b.den).length=0 from Nat.min_zero _];exact⟨_,_,rfl,ac _ (by simp),rfl⟩
       have ar:(c.take (min a.length l.length*b.size)).length<=n.size:=by
        rw[qZ,N,ap];have J:min a.length l.length*b.size<=G*b.size:=rL _ ω;omega
       have F:(c.take (min a.length l.length*b.size)).length=min a.length l.length*b.size:=by
        rw[qZ,N];exact tI (rL _ (g2r ..))
       have R:=A9s (sT:=sT) (ty:=ty) (dCap:=G) aa a5 a4 a6 a3 ar b0;refine⟨goInt (Nat.min a.length l.length),w.setRow g (c.take (min a.length l.length*b.size)++n.toList.drop (c.take (min a.length l.length*b.size)).length).toArray,B,λ_ _ _ _=>by simp[execOp,resolve,invoke,builtin,W,s,R],?_⟩;generalize a0:(c.take (min a.length l.length*b.size)++n.toList.drop (c.take (min a.length l.length*b.size)).length).toArray=r;have Y:VX g w (w.setRow g r):=⟨rfl,rfl,⟨rfl,qV _⟩,by simp,λk t=>setRow_other w g k _ t⟩;have b1:root (B k)=some g:=by rw[s];rfl
       obtain⟨bf,az⟩:=I g (by rw[s];rfl);have a9:O6 Z w (w.setRow g r):=λaf ad=>Y.2.2.2.2 af (λo=>az (o▸ad))
       have a8:G5 (C9 b (w.setRow g r) Z) (c.take (min a.length l.length*b.size)++ae.drop (min a.length l.length*b.size)) (Ly l a):=by
        have J:Ly l a=a.take (min a.length l.length)++l.drop (min a.length l.length):=by
         unfold Ly;rcases Nat.le_total a.length l.length with o|o
         . rw[tI o,qP o,qP (qV _)]
         rw[Nat.min_eq_right o,sG o,sG (qV _)]
        rw[J];refine G5.append ?_ ?_
        . exact(O.take (λi x=>C9.length) _).mono λi x=>C9.mono (λ_=>id) a9
        exact(a2.drop (λi x=>C9.length) _).mono λi x=>C9.mono (λ_=>id) a9
       have M:(Ly l a).length=l.length:=by
        unfold Ly;rw[rQ,qZ,sS];omega
       have H:C3 za w0 (st.setL k (.row b e (Ly l a))) E (w.setRow g r) Z B:=by
        refine h.chg (by rw[t];trivial) (by rw[t];exact b1) Y ⟨_,⟨?_, .inr ⟨g,G,r,?_,au,setRow_heap w g n _ e _ a4,?_,ao,?_,?_⟩⟩,a8,λz J=>?_⟩ trivial (λz J=> .inl J)
        . rw[a8.length (λi x=>C9.length)]
        . rw[M];exact s
        . rw[M];exact ay
        . have aj:n.toList.length=n.size:=sB;have bc:r.size=(c.take (min a.length l.length*b.size)).length+(n.toList.length-(c.take (min a.length l.length*b.size)).length):=by
           rw[<-a0, <-sS, <-rQ];rfl
          omega
        . rw[M, <-a0,F, <-b4,g1f,g0j];have be:min a.length l.length*b.size<=l.length*b.size:=rL _ ω;rw[F,qP ω]
        exact I z J
       refine H.setS d ?_ (λi A=>by simp at A;subst A;trivial);rw[a7];exact⟨_,_,rfl,(ac _ ω),rfl⟩
    cases f
  cases f
 | _=>simp at f
def C6b:LC->Bool
 | .al _=>true
 | _=>false
def A0b {v:Value} {e h:TypeId} {n d g f j:Nat} {xs:List Value} {cur:Array Value} {x:Value} (i:w.ownsRow 0 e 1 v n xs) (c:v= .slice (some ⟨g,0,none⟩) d f) (k:w.heap[g]? =some (.cells cur h (0,0))) (u:j<d) (o:cur[j]? =some x):xs[j]? =some x:=by
 rcases i.2 with⟨a,_⟩ | ⟨t,r,s,a,_,b,y,_,z,l⟩
 . rw[c]at a;cases a
 rw[c]at a;cases a;rw[k]at b;cases b;rw[<-l,rX ω];simpa using o
def C3.detach (h:C3 za w0 st E w Z B) {k q i:Nat} {t:Ty} {e e':TypeId} {ls:List (List t.den)} {al:List (Nat×Nat)} (n:st.L k= .rows t e e' ls al none) (a6:st.L q= .al k) (T:GW q al=some i) (af:st.nm<=k) (ai:st.nm<=q) (a1:za.b0=0):
 C3 za w0 ((st.setL k (.rows t e e' ls [] (some i))).setL q (.row t e' (ls.getD i []))) E w Z B:=by
 have Q:=h.locs k;have R:=h.refl k;rw[n]at Q R;obtain⟨I,r,⟨O,P,u⟩,v,z⟩:=Q;have W:=Ll T;have H:∀b,root (B q)=some b->I[i]? =some (B q):=λb d=>(O (i,q) W).resolve_right λhh=>by rw[hh.2]at d;simp[root]at d
 obtain⟨_,ae,_,_,a0,ac⟩:=lE ⟨I,r,⟨O,P,u⟩,v,z⟩ T;have a7:q<st.nx:=R (i,q) W;have ah:k≠q:=λhh=>by rw[hh,a6]at n;cases n
 have X:∀b,B4 w (B k) (.rows t e e' ls [] (some i)) b->B4 w (B k) (.rows t e e' ls al none) b:=λb d=>by
  rcases d with d| ⟨g,Y,J,M,N,j,x,G,A,V,_,o,d⟩
  . exact .inl d
  exact .inr ⟨g,Y,J,M,N,j,x,G,A,V,rfl,o,d⟩
 have a9:C3 za w0 (st.setL k (.rows t e e' ls [] (some i))) E w Z B:=
  h.relc (by rw[n];trivial) ⟨I,r,⟨λp F=>(by cases F),λj l x _ hl o=>P j l x rfl hl o,λa c x y b hac _ _ hxa hyc=>u a c x y b hac rfl rfl hxa hyc⟩,λj x b _ o=>v j x b rfl o,λb d=>z b (X b d)⟩ (λp F=>(by cases F)) (λb d=> .inr (by rw[n];exact X b d))
 have a8:=E7 a0;have U:∀b,root (B q)=some b->B4 w (B k) (.rows t e e' ls al none) b:=λb d=>Rr r rfl (H b d) d
 refine a9.addL (k:=q) a7 ⟨ae,a0,ac,λb d=>?_⟩ (λj b V d f=>?_) trivial (λb _ _=>by rw[a1];exact rS _)
 . obtain⟨s,ad,_⟩:=z b (U b (a8.trans d));refine⟨.inl ?_,ad⟩;have ag:=h.nms.1;rcases s with s|s
   . exact⟨ω,s.2⟩
   omega
 have d:root (B q)=some b:=d;rw[St.L_setL]at f;by_cases D:j=k
 . subst D;rw[qR rfl]at f;rcases f with f| ⟨g,Y,J,M,N,m,x,G,A,a5,a3,aa,a2⟩
   . exact v i (B q) b rfl (H b d) d f
   have ab:=A0b r G A a5 aa;have a4:i≠m:=λhh=>by
    subst hh;simp[Eo]at a3
   exact u i m (B q) x b a4 rfl rfl (H b d) ab d a2
 rw[qL D]at f;exact h.disj k j b (Ne.symm D) (by rw[n];exact U b d) f
def C3.detO (h:C3 za w0 st E w Z B) (x:Operand) (a:za.b0=0\/∀k,(st.ev [] x).bind Vc.c1=some (C.row k)->C6b (st.L k)=false):C3 za w0 (Vc.detO st x) E w Z B:=by
 unfold Vc.detO;split
 . rename_i i d;unfold B7q;split
   . rename_i q;split
     . rename_i k c;split
       . rename_i t e j n al g;split
         . rename_i l f;cases b:Nat.ble st.nm k&&Nat.ble st.nm q with
           |false=>exact h
           |true=>
            simp only[qC]at b;rcases a with a|a
            . exact h.detach g c f (qO b.1) (qO b.2) a
            have:=a q d;rw[c]at this;cases this
         exact h
       exact h
     exact h
   exact h
 exact h
def B7r (st:St) (x:Operand) (ctx:Ia) (y:Operand):(detO st x).ev ctx y=st.ev ctx y:=by
 have d:∀(b:Bool) (c a:St),c.ev ctx y=a.ev ctx y->(bif b then c else a).ev ctx y=a.ev ctx y:=by
  intro b c a h;cases b
  . rfl
  exact h
 unfold detO;split
 . unfold B7q;split
   . split
     . split
       . split
         . exact d _ _ _ rfl
         rfl
       rfl
     rfl
   rfl
 rfl
def kK (k0:Nat) (st:St):Op->Bool
 | .call ⟨.builtin .append,a,_⟩=>match a.toList with
  |x:: _=>(match(st.ev [] x).bind c1 with
   |some (.row k)=>Nat.ble k0 k&& !(C6b (st.L k))
   | _=>true)
  | _=>true
 | _=>true
def B7t {av:Op} (h:C3 za w0 st E w Z B) (bo:za.b0=0\/∀op,op=av->kK za.k0 st op=true) (a0:G7 cx.P cx.tys=true) (a:B2k cx st d av=some (φ,st')) (b3:FL φ) (H:k st') (O:E1 all ⟨some d,av,ty,pos,aft,g⟩ E=true):K4 cx.P all ⟨some d,av,ty,pos,aft,g⟩ (eC za w0 w (wrB av) k) E w:=by
 unfold B2k at a;split at a
 . simp only[qH,bind_some]at a;obtain⟨s,cr,a⟩:=a;cases o:s.cs.all Ft with
   |false=>simp only[o,rI]at a;cases a
   |true=>
    simp only[o,qS]at a;cases a;obtain⟨y,ae⟩:=h.ev (F2 E) cr;obtain⟨B',am⟩:=h.newBox d (T:= _) (RS.cells h y o) ae;exact S4 (C8k rfl) O ⟨λ_=>R5.alloc w _,_,_,_,am,H⟩
 . simp only[qH,bind_some]at a;obtain⟨ti,N,a⟩:=a;cases a;obtain⟨J,z,ad⟩:=Gj (J4 (B9 a0 N)).2.2;have am:=Dc (w:=w) (Z:=Z) (B:=B) (n:=st.nx) (Em ti.ty);obtain⟨B',W⟩:=h.newBox d (T:= _) (vs:=J.cells) (by rw[ad];exact am.1) am.2;exact S4 (A7n z) O ⟨λ_=>R5.alloc w _,_,_,_,W,H⟩
 . rename_i T len bv;simp only[qH,bind_some]at a;obtain⟨ti,N,t,U,de,cn,xs,cy,a⟩:=a;have U:=Jy U;cases o:Nat.beq xs.length len&&Nat.ble (len*t.size) 16777216&&Nat.ble 1 t.size with
   |false=>simp only[o,rI]at a;cases a
   |true=>
    simp only[o,qS]at a;cases a;simp only[qC]at o;obtain⟨bb,J,I,b1,z,b9,ad,b7,f,b4⟩:=Gt (B9 a0 N) U;obtain⟨Z1,y⟩:=h.settleP bv.toList;obtain⟨ae,am⟩:=Ma y (F2 E) cn;obtain⟨ab,ag,an,G⟩:=Vl ae cy;have ay:=qD o.1.1;have b6:Fq cx.P ti.elem=some J:=by simp[Fq,b1,z]
    obtain⟨j,a1,a5⟩:=Ra (w:=w) (ty:=ty) (len:=len) _ b4 b6 (qO o.1.2) (qO o.2) b7 ab ag (by rw[tG, <-an,ay]);have r:R5 w (w.alloc (.cells j ti.elem)):=R5.alloc w _;have W:=y.more (Z':=Z1) r (λ_=>id) (λ_=> .inl);have ac:O6 Z1 w (w.alloc (.cells j ti.elem)):=λi f=>r.block i (y.zlt i f)
    have A:j.toList.length=len*t.size:=by rw[a1,G5.length (λ_ _ h=>C9.length h) G,ay]
    have b2:(w.alloc (.cells j ti.elem)).ownsRow w0.heap.size ti.elem t.size (.slice (some ⟨w.heap.size,0,none⟩) len len) xs.length j.toList:=by
     rw[ay];refine⟨A, .inr ⟨w.heap.size,len,j,rfl,h.ext.size,Fz w _ _,qV _,?_,by simpa using A,by rw[<-A,vD]⟩⟩;have M:=qO o.1.2;have ax:=qO o.2;have:len*1<=len*t.size:=sI _ ax;simp only[maxLen];omega
    obtain⟨B',M⟩:=W.newRow d (t:=t) (e:=ti.elem) (l:=xs) b2 (by rw[a1];exact G.mono λ_ _=>C9.mono (λ_=>id) ac) (λi f=>by
     simp only[Value.ownBlock,rF]at f;refine⟨λz=>?_,λq b=>?_⟩
     . have:=y.zlt i z;omega
     have:=((y.locs q).root (y.ft r b)).2.1;omega) (λi _ f=>by simp only[Value.ownBlock,rF]at f;have:=h.mrk.1;omega)
    have:=S4 (pos:=pos) (aft:=aft) a5 (by simpa using O) (show eC za w0 w (wrB (.buildSlice T len bv)) k _ _ from⟨λ_=>r,_,_,_,M,H⟩);simpa using this
 . rename_i T bu bh;simp only[qH,bind_some]at a;obtain⟨ti,N,t,U,l,u,c,D,a⟩:=a;have U:=Jy U;cases bs:ti.rows with
   |true=>
    simp only[bs,qS,qK]at a;obtain⟨d5,A,a⟩:=a;cases a;unfold YH at A;split at A
    case h_2=>cases A
    rename_i G b1;rw[U]at b1;cases b1;simp only[qK]at A;obtain⟨bq,_,A⟩:=A;subst A;obtain⟨b6,b7,b9,bb⟩:=b3;obtain⟨an,J,I,bc,z,ag,ad,b2,f,bw⟩:=Gt (B9 a0 N) U;obtain⟨bm,aj,_⟩:=h.int (F2 E) u;obtain⟨bp,b4,_⟩:=h.int (F2 E) D;have a4:=run_make (P:=cx.P) w T ti.elem an J I bc z bm bp l c b6 b7 (by rw[f];exact b9) bb;have a5:Gw.E2 cx.P E ty (.makeSlice T bu bh) w (.slice (some ⟨w.heap.size,0,none⟩) l.toNat c.toNat) (w.alloc (.cells (madeCells J.cells (c.toNat*an.size)) ti.elem)):=λ_ _ _ _=>by simp[execOp,aj,b4,a4]
    generalize a1:madeCells J.cells (c.toNat*an.size)=j at a5;have bj:(Ty.sl G).size=1:=rfl;rw[bj]at ag b2;have ax:j.size=c.toNat*1:=by rw[<-a1, <-ag];simp[madeCells]
    have r:R5 w (w.alloc (.cells j ti.elem)):=R5.alloc w _;have W:=h.more (Z':=Z) r (λ_=>id) (λ_=> .inl);have ab:l.toNat<=c.toNat:=ω
    have bt:G5 (C9 (.sl G) (w.alloc (.cells j ti.elem)) Z) (j.toList.take (l.toNat*1)) (List.replicate l.toNat (Ty.sl G).dflt):=by
     rw[<-a1,ag];exact PU ad rfl b2 _ _ ab
    have bi:(w.alloc (.cells j ti.elem)).ownsRow w0.heap.size ti.elem 1 (.slice (some ⟨w.heap.size,0,none⟩) l.toNat c.toNat) l.toNat (j.toList.take (l.toNat*1)):=by
     refine⟨?_, .inr ⟨w.heap.size,c.toNat,j,rfl,h.ext.size,Fz w _ _,ab,?_,ax,rfl⟩⟩
     . rw[qZ,sB,ax];exact tI (rL _ ab)
     simp only[maxLen];omega
    have be:∀x∈j.toList.take (l.toNat*1),x= .slice none 0 0:=λx r=>by
     have r:=rO r;rw[<-a1]at r;simp only[madeCells,g1s,tT]at r;obtain⟨bx,_,rfl⟩:=r;have bk:J.cells.toList= [.slice none 0 0]:=ad;have bl:J.cells= #[.slice none 0 0]:=by rw[<-uA (xs:=J.cells),bk]
     rw[bl];simp[g5a]
    obtain⟨B',M⟩:=W.newRows d G bq.elem bi be (λi f=>by
     simp only[Value.ownBlock,rF]at f;refine⟨λz=>?_,λq b=>?_⟩
     . have:=h.zlt i z;omega
     have:=((h.locs q).root (h.ft r b)).2.1;omega) (λi _ f=>by simp only[Value.ownBlock,rF]at f;have:=h.mrk.1;omega)
    exact S4 a5 O ⟨λ_=>r,_,_,_,M,H⟩
   |false=>
   simp only[bs,rI]at a;cases o:Rx t with
   |false=>simp only[o,rI]at a;cases a
   |true=>
    simp only[o,qS]at a;cases a;obtain⟨ax,b1,b2,b4⟩:=b3;obtain⟨G,J,I,b7,z,ag,ad,bb,f,bi⟩:=Gt (B9 a0 N) U;obtain⟨bc,aj,_⟩:=h.int (F2 E) u;obtain⟨be,an,_⟩:=h.int (F2 E) D;have a4:=run_make (P:=cx.P) w T ti.elem G J I b7 z bc be l c ax b1 (by rw[f];exact b2) b4;have a5:Gw.E2 cx.P E ty (.makeSlice T bu bh) w (.slice (some ⟨w.heap.size,0,none⟩) l.toNat c.toNat) (w.alloc (.cells (madeCells J.cells (c.toNat*G.size)) ti.elem)):=λ_ _ _ _=>by simp[execOp,aj,an,a4]
    generalize a1:madeCells J.cells (c.toNat*G.size)=j at a5;have ab:j.size=c.toNat*t.size:=by rw[<-a1, <-ag];simp[madeCells]
    have r:R5 w (w.alloc (.cells j ti.elem)):=R5.alloc w _;have W:=h.more (Z':=Z) r (λ_=>id) (λ_=> .inl);have A:l.toNat<=c.toNat:=ω
    have b6:G5 (C9 t (w.alloc (.cells j ti.elem)) Z) (j.toList.take (l.toNat*t.size)) (List.replicate l.toNat t.dflt):=by
     rw[<-a1,ag];exact PU ad o bb _ _ A
    have b9:(w.alloc (.cells j ti.elem)).ownsRow w0.heap.size ti.elem t.size (.slice (some ⟨w.heap.size,0,none⟩) l.toNat c.toNat) (List.replicate l.toNat t.dflt).length (j.toList.take (l.toNat*t.size)):=by
     rw[rG];refine⟨?_, .inr ⟨w.heap.size,c.toNat,j,rfl,h.ext.size,Fz w _ _,A,?_,ab,rfl⟩⟩
     . rw[qZ,sB,ab];exact tI (rL _ A)
     simp only[maxLen];omega
    obtain⟨B',M⟩:=W.newRow d b9 b6 (λi f=>by
     simp only[Value.ownBlock,rF]at f;refine⟨λz=>?_,λq b=>?_⟩
     . have:=h.zlt i z;omega
     have:=((h.locs q).root (h.ft r b)).2.1;omega) (λi _ f=>by simp only[Value.ownBlock,rF]at f;have:=h.mrk.1;omega)
    exact S4 a5 O ⟨λ_=>r,_,_,_,M,H⟩
 . rename_i ak aw;split at a
   . rename_i x ai T T' af ar;cases Y:Nat.beq T T' with
     |false=>simp[Y]at a
     |true=>
      simp only[Y,qS]at a;have c7:=qD Y;subst c7;have A:=h.detO x (bo.imp id λF k H=>by
       have:=F _ rfl;simp only[kK,af,H,qC,rN]at this;exact this.2)
      have bl:=B7r st x;have cl:za.b0=0\/∀j,(st.ev [] x).bind Vc.c1=some (C.row j)->za.k0<=j:=bo.imp id λF j G=>by
       have:=F _ rfl;simp only[kK,af,G,qC,rN]at this;exact qO this.1
      generalize Vc.detO st x=ah at a A bl;simp only[C1y,qH,bind_some]at a;obtain⟨ti,N,t,U,a1,⟨bw,be,bk⟩,i,⟨d4,cp,c9⟩,l,u,bx,d0,a⟩:=a;have U:=Jy U;cases o:IK a1 i&&Nat.ble 1 t.size with
      |false=>simp only[o,rI]at a;cases a
      |true=>
       simp only[o,qS]at a;cases a;simp only[qC]at o;obtain⟨c5,c6⟩:=b3;obtain⟨db,J,I,ce,z,cs,ad,d1,f,da⟩:=Gt (B9 a0 N) U;have ax:=A.c1 (F2 E) (bind_some.2 ⟨bw,be,bk⟩);have c8:=A.c1 (F2 E) (bind_some.2 ⟨d4,cp,c9⟩);obtain⟨ao,bz,c3,cv,d9,cj,ca,b7⟩:=XM A c8.1 d0;have cd:=G5.length (R:=C9 t w Z) (s:=t.size) (λ_ _ h=>C9.length h) b7;have an:za.b0=0\/∀j,a1= .row j->za.k0<=j:=cl.imp id λF j G=>F j (by
        rw[bl]at be;exact bind_some.2 ⟨bw,be,by rw[bk,G]⟩)
       have co:∃xs,w.ownsRow w0.heap.size ti.elem t.size (Gw.ev E x) l.length xs/\G5 (C9 t w Z) xs l/\(∀q,(Gw.ev E x).ownBlock=some q->¬Z q/\w0.heap.size<=q/\∀j,¬B4 w (B j) ((dropR ah a1).L j) q)/\C3 za w0 (dropR ah a1) E w Z B/\(∀q,(Gw.ev E x).ownBlock=some q->za.b0<=q):=by
        unfold QP at u;split at u
        . rename_i j;split at u
          . rename_i df c0 dd G;split at u
            . rename_i b8;subst b8;cases X:Nat.beq c0 ti.elem&&Nat.ble ah.nm j with
              |false=>simp only[X,rI]at u;cases u
              |true=>
               simp only[X,qS]at u;cases u;simp only[qC]at X;have d8:=qO X.2;have cc:=qD X.1;subst cc;have bi:=A.locs j;rw[G]at bi;obtain⟨xs,ab,b6,bp⟩:=bi;have cu:∀q,(B j).ownBlock=some q->w0.heap.size<=q:=λq b=>by
                rcases(bp q b).1 with g|g
                . exact g.2
                have:=A.nms.1;omega
               replace ab:=kR ab cu;have ck:=λq b=>(bp q b).2
               have b1:Gw.ev E x=B j:=ax.1;have bq:=E7 ab;rw[<-b1]at ab;refine⟨xs,ab,b6,λq b=>?_,A.drop j,λq b=>?_⟩
               case refine_2=>
                rw[b1]at b;rcases an with an|an
                . rw[an];exact rS _
                exact A.mrk.2 j q (an j rfl) (by rw[G];exact bq.trans b)
               rw[b1]at b;refine⟨ck q b,(World.ownsRow.lt ab q (by rw[b1];exact b)).1,λbt ag=>?_⟩;simp only[dropR,St.L_setL]at ag;by_cases bb:bt=j
               . rw[qR bb]at ag;exact ag.elim
               rw[qL bb]at ag;exact A.disj bt j q bb ag (by rw[G];exact bq.trans b)
            cases u
          cases u
        . rename_i d7;cases Q:Uw d7 with
          |false=>simp[Q]at u
          |true=>
           simp[Q]at u;subst u;have ag:Gw.ev E x= .slice none 0 0:=by rw[ax.1.1];exact Gv Q
           refine⟨[],by rw[ag];exact World.ownsRow_nil _ _ _ _,rfl,λq b=>?_,A,λq b=>?_⟩<;>(rw[ag]at b;cases b)
        cases u
       obtain⟨xs,ab,b6,b2,bc,cw⟩:=co;obtain⟨d6,b4,a4,cm,b9,bj,cb⟩:=HZ (P:=cx.P) (ty:=ty) I ce z cs d1 (qO o.2) ab (ao:=ao) (m:=bx.length) (c:=bz) (news:=c3) cd (λa1 ax=>ca a1 ax) (λQ=>by have:=cj Q;omega) (G5.oneCell b7) c6 (by rw[f];exact c5) A.ext.size;have ac:∀q,(Z q\/∃j,B4 w (B j) ((dropR ah a1).L j) q)->b4.heap[q]? =w.heap[q]?:=λq b=>by
        refine b9.block q ?_ (λF=>?_)
        . rcases b with b| ⟨j,G⟩
          . exact A.zlt q b
          exact((bc.locs j).root G).2.1
        have:=b2 q F.symm;rcases b with b| ⟨j,G⟩
        . exact this.1 b
        exact this.2.2 j G
       have W:=bc.keep (Z':=Z) (A.ext.grown b9 cb (λq b=> .inl (b2 q b).2.1)) b9.size ac (λ_=>id) (λ_=> .inl);have ct:O6 Z w b4:=λq b=>ac q (.inl b)
       have bm:∀j q,B4 b4 (B j) ((dropR ah a1).L j) q->B4 w (B j) ((dropR ah a1).L j) q:=λj q hf=>(B4.iff λc D=>ac c (.inr ⟨j,D⟩)).1 hf
       obtain⟨B',M⟩:=W.newRow d (l:=l++bx) (by rw[rQ];exact cm) ((b6.append b7).mono λ_ _=>C9.mono (λ_=>id) ct) (λq b=>by
        rcases bj with ag|ag
        . rw[ag]at b;exact⟨(b2 q b).1,λj G=>(b2 q b).2.2 j (bm j q G)⟩
        . rw[ag]at b;cases b;exact⟨λz=>absurd (A.zlt _ z) (uT _),λj G=>absurd ((bc.locs j).root (bm j _ G)).2.1 (uT _)⟩) (λq b1 b=>by
        rcases bj with ag|ag
        . rw[ag]at b;exact cw q b
        rw[ag]at b;cases b;exact A.mrk.1)
       have b5:ak= #[x,ai]:=by rw[<-af]
       have bf:aw= #[T,T]:=by rw[<-ar]
       subst b5 bf;refine S4 (v:=d6) (w':=b4) (λ_ _ _ _=>?_) O ⟨λF=>(by cases F),_,_,_,M,H⟩;simp[execOp,resolve,invoke,builtin,cv,a4]
   cases a
 . rename_i T d3;simp only[qH,bind_some]at a;obtain⟨ti,N,a⟩:=a;split at a
   . rename_i a6 a7 a8 a9 Y;cases a;obtain⟨B',M⟩:=h.newMap d a6 a7 a8 a9;exact S4 B0q O ⟨λ_=>R5.alloc w _,_,_,_,M,H⟩
   . rename_i a6 a7 a8 a9 au Y;simp only[qK]at a;obtain⟨n,Q,a⟩:=a;cases a;obtain⟨I,_⟩:=Wd (B9 a0 N) Y;obtain⟨dc,aj,_⟩:=h.int (F2 E) Q;obtain⟨B',M⟩:=h.newMap d a6 a7 a8 a9;refine S4 (v:= .map (some w.heap.size)) (w':=w.alloc (.map #[] 0)) (λ_ _ _ _=>?_) O ⟨λ_=>R5.alloc w _,_,_,_,M,H⟩;simp[execOp,Instr.makeMap,aj,run_underlying I,asInt,go_sem]
   cases a
 . rename_i ak aw;split at a
   . rename_i x T af ar;simp only[qH,bind_some]at a;obtain⟨ti,N,a⟩:=a;split at a
     . rename_i a6 a7 a8 a9 Y;simp only[bind_some]at a;obtain⟨c,⟨s,ap,aq⟩,aa,a3,a⟩:=a;cases a;have ay:(aa.length:Int)<=9223372036854775807:=by have:aa.length<=9223372036854775807:=b3;omega
       have b5:ak= #[x]:=by rw[<-af]
       have bf:aw= #[T]:=by rw[<-ar]
       subst b5 bf;obtain⟨I,_⟩:=Wd (B9 a0 N) Y;have y:=h.c1 (F2 E) (bind_some.2 ⟨s,ap,aq⟩);have cf:GU .i64 (aa.length:Int):=by
        unfold GU;have aj:i64.min= -9223372036854775808:=δ
        have j:i64.max=9223372036854775807:=δ
        omega
       have cz:Gw.E2 cx.P E ty (.call ⟨.builtin .len, #[x], #[T]⟩) w (.int .i64 (aa.length:Int)) w:=by
        intro _ _ _ _;rcases A6j h y.1 a3 with⟨e,Q⟩ | ⟨i,a2,V,e,ch,f,X⟩
        . simp[execOp,resolve,invoke,builtin,Builtin.len_,e,run_underlying I,goInt,Q]
        have bn:(getObj i).run cx.P w= .ok (.map a2 V) w:=by simp[getObj,Sem.run,f]
        have u:=T3.len X;simp[execOp,resolve,invoke,builtin,Builtin.len_,e,run_underlying I,bn,goInt]at u|-;exact sA Int.ofNat u
       exact S4 cz O ⟨λ_=>R5.refl w,_,_,_,h.setS d (x:=one1 (.val (.int .i64) (aa.length:Int))) ⟨_,[],rfl,⟨rfl,cf⟩,rfl⟩ (λc D=>by simp at D;subst D;trivial),H⟩
     cases a
   cases a
 . rename_i T x;simp only[qK]at a;obtain⟨d5,u,a⟩:=a;cases a;obtain⟨v,B',y,ae⟩:=pD (ty:=ty) h a0 u;exact S4 (y w (R5.refl w)) O ⟨λ_=>R5.refl w,_,_,_,ae,H⟩
 . rename_i T x;simp only[qH,bind_some]at a;obtain⟨ti,N,a⟩:=a;split at a
   . rename_i a6 a7 a8 a9 Y;simp only[bind_some]at a;obtain⟨c,⟨s,ap,aq⟩,aa,a3,a⟩:=a;cases a;obtain⟨I,_⟩:=Wd (B9 a0 N) Y;obtain⟨Z1,y⟩:=h.settleO x;have D:=(y.c1 (F2 E) (bind_some.2 ⟨s,ap,aq⟩)).1;have bg:∀au,(Instr.range T (Gw.ev E x)).run cx.P w= .ok (.pointer (some ⟨w.heap.size,0,none⟩)) (w.alloc au)->ItR (w.alloc au) Z1 a6 a7 a8 a9 w.heap.size aa none->K4 cx.P all ⟨some d, .range T x,ty,pos,aft,g⟩ (eC za w0 w (wrB (.range T x)) k) E w:=λau a4 ba=>by
      have r:R5 w (w.alloc au):=R5.alloc w _;have W:=y.more (Z':=Z1) r (λ_=>id) (λ_=> .inl);have ae:=W.new (v:= .pointer (some ⟨w.heap.size,0,none⟩)) (lc:= .iter a6 a7 a8 a9 aa none) ⟨w.heap.size,C2 _ _ _, .inl ⟨y.nms.2,h.ext.size⟩,λz=>absurd (y.zlt _ z) (uT _),ba⟩
       (λk i f j=>by
        simp only[B4,root,rF]at f;have:=((y.locs k).root (y.ft r j)).2.1;omega)
       trivial rfl (λi _ f=>by simp only[B4,root,rF]at f;have:=h.mrk.1;omega)
      have M:=ae.setS d (x:=one1 (.box (settleO st x).nx 0)) (v:= .pointer (some ⟨w.heap.size,0,none⟩)) ⟨_,[],rfl,⟨w.heap.size,C2 _ _ _,rfl⟩,rfl⟩ (λc D=>by simp at D;subst D;exact rR _);exact S4 (λ_ _ _ _=>by simp[execOp,a4]) O ⟨λ_=>r,_,_,_,M,H⟩
     unfold B6a at a3;split at a3
     . split at a3
       . rename_i b8;subst b8;cases a3;rcases D with⟨e,Q⟩ | ⟨i,a2,V,e,f,F,ci,X⟩
         . simp only[sJ,vO]at e;exact bg (.mapIter none 0 #[] 0) (by rw[e];exact run_range_nilMap (P:=cx.P) w T _ _ I) (.inl ⟨heap_alloc_new w _,Q,rfl⟩)
         simp only[sJ,vO]at e;have ch:=y.zlt i f;have bn:(getObj i).run cx.P w= .ok (.map a2 V) w:=by simp[getObj,Sem.run,F]
         have ac:O6 Z1 w (w.alloc (.mapIter (some i) V #[] V)):=λq b=>(R5.alloc w _).block q (y.zlt q b)
         refine bg (.mapIter (some i) V #[] V) (by rw[e];exact run_range_map (P:=cx.P) w T _ _ i a2 V I F) (.inr ⟨i, #[],a2,V,heap_alloc_new w _,f,(ac i f).trans F,ci,?_,λx r=>by cases r⟩);have cg:leftOf a2 #[]=a2:=by simp[leftOf]
         rw[cg];exact La.mono (λ_=>id) ac X
       cases a3
     . cases a3;have e:Gw.ev E x= .map none:=D.1;exact bg (.mapIter none 0 #[] 0) (by rw[e];exact run_range_nilMap (P:=cx.P) w T _ _ I) (.inl ⟨heap_alloc_new w _,rfl,rfl⟩)
     cases a3
   cases a
 . rename_i x;simp only[qH,bind_some]at a;obtain⟨c,⟨s,ap,aq⟩,a⟩:=a;split at a
   . rename_i q d2;split at a
     . rename_i a6 a7 a8 a9 left ai b;cases o:Nat.beq d2 0 with
       |false=>simp only[o,rI]at a;cases a
       |true=>
        simp only[o,qS]at a;cases a;have ab:=qD o;subst ab;obtain⟨i,A,an⟩:=(h.c1 (F2 E) (bind_some.2 ⟨s,ap,aq⟩)).1;have j:=h.locs q;rw[b]at j;obtain⟨d3,az,_,_,ba⟩:=j;rw[A]at az;cases az;rcases ba with⟨_,_,Q⟩ | ⟨m,seen,a2,V,ax,b7,b1,b2,b9,b4⟩
        . cases Q
        obtain⟨e,X,⟨b6,ag⟩,G,a1⟩:=b4 ai rfl;subst ag;have a4:=run_entry_at (P:=cx.P) w i m V b6 a2 V e ax b1 X b2.2;refine S4 (v:= .tuple #[e.key,e.val]) (w':=w) (λ_ _ _ _=>by simp[execOp,an,a4]) O ⟨λ_=>R5.refl w,_,_,_,h.setS d (x:= .tup [⟨a6,explode a7 ai.1⟩,⟨a8,explode a9 ai.2⟩]) ⟨[e.key,e.val],rfl,_,_,rfl,Bl.explode G,_,_,rfl,Bl.explode a1,rfl⟩ (λs a c D=>?_),H⟩;simp only[qW,vP,g0e]at a;rcases a with rfl|rfl<;>exact F3 c D
     cases a
   cases a
 . rename_i ak aw;split at a
   . rename_i x ai T sT af ar;obtain⟨ah,cq,a⟩:=qK.1 a;cases a;have c2:ak= #[x,ai]:=yT.1 af;have c4:aw= #[T,sT]:=yT.1 ar;subst c2 c4;obtain⟨v,w',B',a5,az⟩:=B2c (ty:=ty) (sT:=sT) h a0 cq;exact S4 a5 O ⟨λF=>(by cases F),_,_,_,az,H⟩
   cases a
 cases a
end
def AW (off n:Nat) (cs a:List C):List C:=cs.take off++a++cs.drop (off+n)
def A4z (a:St) (k r:Nat) (lc:LC):St:=(((a.setL r .none).setL k .none).setL k lc).setL r (.al k)
def hoP (i:Nat):Option Nat->Option Prop
 |none=>none
 |some j=>some (i=j)
def attach (a:St) (k r i:Nat) (t:Ty) (e e':TypeId) (ls:List (List t.den)) (c:Option Nat):Option (Option Prop×St):=match a.L r with
 | .row d b l=>if h:d=t then(bif Nat.beq b e'&&Nat.ble a.nm r&&Nat.ble a.nm k&&Nat.blt k r then some (hoP i c,A4z a k r (.rows t e e' (ls.set i (h▸l)) [(i,r)] none))else none)else none
 | _=>none
def lG (ti:TI) (a:St) (s:SV) (k sz i off:Nat):Option St:=match a.L k with
 | .row t e l=>bif s.cs.all Ft&&Nat.beq s.cs.length ti.ty.size&&Nat.beq sz t.size&&Nat.ble (off+ti.ty.size) t.size then
  (match Mm t (AW off ti.ty.size (explode t (l.getD i t.dflt)) s.cs)with
   |some (x,[])=>some (a.setL k (.row t e (l.set i x)))
   | _=>none)else none
 | .al j=>match a.L j with
  | .rows t e d c al none=>match GW k al with
   |some b=>bif s.cs.all Ft&&Nat.beq s.cs.length ti.ty.size&&Nat.beq sz t.size&&Nat.ble (off+ti.ty.size) t.size then
    (match Mm t (AW off ti.ty.size (explode t ((c.getD b []).getD i t.dflt)) s.cs)with
     |some (x,[])=>some (a.setL j (.rows t e d (c.set b ((c.getD b []).set i x)) al none))
     | _=>none)else none
   |none=>none
  | _=>none
 | _=>none
def aI (cx:Cx) (a:St) (T:TypeId) (p v:Operand):Option (Option Prop×St):=do
 let ti<-cx.ti T
 let c<-(a.ev [] p).bind c1
 match c with
 | .box k c=>do
  let s<-a.ev [] v
  match a.L k with
  | .box T' b=>bif s.cs.all Ft&&Nat.beq s.cs.length ti.ty.size&&Nat.ble (c+ti.ty.size) b.length then some (none,a.setL k (.box T' (AW c ti.ty.size b s.cs)))else none
  | _=>none
 | .elp k sz i b=>match a.L k with
  | .rows t e c f _ d=>match a.ev [] v with
   |some ⟨false,[.row r]⟩=>bif Nat.beq sz 1&&Nat.beq b 0&&Nat.beq ti.ty.size 1 then attach a k r i t e c f d else none
   | _=>none
  | _=>do
   let s<-(settleO a v).ev [] v
   (lG ti (settleO a v) s k sz i b).map λc=>(none,c)
 | _=>none
def mapM (d:St) (c:Bool) (a:Ty) (g:Bool) (b:Ty) (k:Nat):Option (List (a.den×b.den)):=match d.L k with
 | .map d f h i j=>if l:Ty.mp d f h i=Ty.mp c a g b then some (l▸(show(Ty.mp d f h i).den from j):(Ty.mp c a g b).den)else none
 | _=>none
def YI (cx:Cx) (a:St) (d:Tmp) (T:TypeId) (m x:Operand):Option St:=none
def XN (a:St) (m s y:Operand):Option St:=none
def PV (cx:Cx) (a:St) (T:TypeId) (m x y:Operand):Option St:=do
 let ti<-cx.ti T
 let c<-((settleO a y).ev [] m).bind c1
 let i<-(settleO a y).ev [] x
 let j<-(settleO a y).ev [] y
 match ti.ty,c with
 | .mp c b d f, .mp k=>do
  let g<-mapM (settleO a y) c b d f k
  let h<-Sj c b i
  let v<-Sj d f j
  some ((settleO a y).setL k (.map c b d f (Ev b h v g)))
 | _,_=>none
section
variable {za:Zn} {w0 w w':World} {Z Z':Nat->Prop} {B:Nat->Value} {st st':St} {E:G8} {cx:Cx} {φ:Option Prop} {d:Tmp} {all:List Oper} {ty:TypeId} {pos:String} {aft:Array Edge} {g:Option (Nat×Bool)} {k:St->Prop}
def Db.one (h:C3 za w0 st E w Z B):∀ {cs:List C} {vs:List Value},cs.all Ft=true->Db w Z B cs vs->∀u∈vs,u.oneCell'=true
 | [],_,_,a=>by rw[show _= _ from a];exact Lg
 |c::cs,_,a,⟨v,f,e,b,d⟩=>by
  simp only[tN,qC]at a;rw[e];exact Mk (RC.one h a.1 b) (Db.one h a.2 d)
def gU {off n:Nat} {cs a:List C} {vs us:List Value} (h:Db w Z B cs vs) (b:Db w Z B a us) (c:a.length=n):Db w Z B (AW off n cs a) (vs.take off++us++vs.drop (off+us.length)):=by
 have:us.length=n:=by rw[<-c,b.len]
 rw[this];exact((h.take off).append b).append (h.drop (off+n))
def A0o {α:Type} {cur us:List α} {n a sz off m:Nat} (c:us.length=m) (b:a+sz<=n) (d:n<=cur.length) (f:off+m<=sz):
 (cur.take (a+off)++us++cur.drop (a+off+m)).take n=(cur.take n).take a++((((cur.take n).drop a).take sz).take off++us++(((cur.take n).drop a).take sz).drop (off+m))++(cur.take n).drop (a+sz):=by
 have b:(cur.take n).take a=cur.take a:=by rw[g1i,tI ω]
 have d:((cur.take n).drop a).take sz=(cur.drop a).take sz:=by rw[g1f,g1i,tI ω]
 have f:((cur.drop a).take sz).take off=(cur.drop a).take off:=by rw[g1i,tI ω]
 have g:((cur.drop a).take sz).drop (off+m)=(cur.drop (a+off+m)).take (sz-(off+m)):=by rw[g1f,vW,uS]
 have h:(cur.take n).drop (a+sz)=(cur.drop (a+sz)).take (n-(a+sz)):=by rw[g1f]
 have i:cur.take a++(cur.drop a).take off=cur.take (a+off):=by rw[List.take_add]
 have j:(cur.drop (a+off+m)).take (sz-(off+m))++(cur.drop (a+sz)).take (n-(a+sz))=(cur.drop (a+off+m)).take (n-(a+off+m)):=by
  have:n-(a+off+m)=(sz-(off+m))+(n-(a+sz)):=ω
  rw[this,List.take_add,vW];congr 3;omega
 rw[b,d,f,g,h];have b:(cur.take (a+off)).length=a+off:=by rw[qZ];omega
 rw[g0j,qP (by rw[rQ,b,c];omega),rQ,b,c, <-j, <-i];simp only[uC]
def frE (k0 k:Nat) (a b:LC):Bool:=match a with
 | .rows _ _ _ _ _ _=>Nat.ble k0 k
 | _=>match b with
  | .al j=>Nat.ble k0 j
  | _=>Nat.ble k0 k
def frO (k0:Nat) (st:St):Op->Bool
 | .store _ p v=>match(st.ev [] p).bind c1 with
  |some (.box k _)=>Nat.ble k0 k
  |some (.elp k _ _ _)=>frE k0 k (st.L k) ((settleO st v).L k)
  | _=>false
 | _=>false
def CW {B0 b:Nat} (a:VX b w w') (c:B0<=b):Below B0 w w'/\True:=⟨⟨a.1,a.2.1,a.2.2.1.1,by rw[a.2.2.2.1];exact qV _,λk c=>a.2.2.2.2 k ω⟩,trivial⟩
def H5 {α:Type} {c:Bool} {a:Option α} {x:α} (h:(bif c then a else none)=some x):c=true/\a=some x:=by
 cases c with
 |true=>exact⟨rfl,h⟩
 |false=>cases h
def C2z {k0 sz i off q:Nat} {T:TypeId} {p v:Operand} (a:frO k0 st (.store T p v)=true) (f:(st.ev [] p).bind c1=some (.elp q sz i off)) (d:(match(settleO st v).L q with| .al _=>false| _=>true)=true):k0<=q:=by
 simp only[frO,f]at a;generalize st.L q=b at*;generalize (settleO st v).L q=c at*;unfold frE at a;cases b<;>cases c<;>simp at d a<;>exact a
def C2y {k0 sz i off q j:Nat} {T:TypeId} {p v:Operand} (a:frO k0 st (.store T p v)=true) (g:(st.ev [] p).bind c1=some (.elp q sz i off)) (f:∀t e e' ls al c,st.L q= .rows t e e' ls al c->False) (d:(settleO st v).L q= .al j):k0<=j:=by
 simp only[frO,g,d]at a;cases b:st.L q with
 |rows t e e' ls al c=>exact(f _ _ _ _ _ _ b).elim
 | _=>simp[b,frE]at a;exact a
def PE {v:Value} (h:v.oneCell'=true):v.cells.toList= [v]:=by
 have:v.cells= #[v]:=by cases v<;>simp[Value.cells,Value.oneCell']at h|-
 rw[this]
def gI {P:Program} (O:C3 za w0 st E w Z B) {T e:TypeId} {p v:Operand} {t:Ty} {l:List t.den} {xs:List Value} {b m d i off n:Nat} {s:SV} {x:t.den} (a8:Tf P T n=true) (a4:w.ownsRow 0 e t.size (.slice (some ⟨b,0,none⟩) m d) l.length xs) (u:G5 (C9 t w Z) xs l) (a3:¬Z b) (f:i<m) (aa:Gw.ev E p= .pointer (some ⟨b,i*t.size+off,none⟩))
 (o:Db w Z B s.cs (Gw.ev E v).cells.toList) (a2:s.cs.all Ft=true) (G:s.cs.length=n) (W:off+n<=t.size) (M:Mm t (AW off n (explode t (l.getD i t.dflt)) s.cs)=some (x,[])):
 ∃w',Gw.KM P E ty (.store T p v) w w'/\VX b w w'/\∃N,w'.ownsRow 0 e t.size (.slice (some ⟨b,0,none⟩) m d) (l.set i x).length N/\G5 (C9 t w' Z) N (l.set i x):=by
 have c:(Gw.ev E v).cells.toList.length=n:=by rw[<-G,o.len]
 rcases a4.2 with⟨a,_⟩ | ⟨ab,ac,g,a,U,F,H,V,r,a9⟩
 . cases a
 cases a;have ad:=G5.length (R:=C9 t w Z) (s:=t.size) (λ_ _ h=>C9.length h) u;have Y:=G5.get (R:=C9 t w Z) (s:=t.size) (λ_ _ h=>C9.length h) u (qM f);have X:l.getD i t.dflt=l[i]:=by rw[qE,qM f];rfl
 rw[X]at M;have a0:i*t.size+t.size<=l.length*t.size:=by rw[<-tZ];exact rL _ f
 have a1:l.length*t.size<=d*t.size:=rL _ H;generalize Q:(Gw.ev E v).cells.toList=y at*;have J:=VP (P:=P) (ty:=ty) (w:=w) y aa rfl Q a8 c F (by rw[c,r];omega) (Db.one O a2 o);generalize D:(g.toList.take (i*t.size+off)++y++g.toList.drop (i*t.size+off+y.length)).toArray=j at J;have A:VX b w (w.setRow b j):=⟨rfl,rfl,⟨rfl,qV _⟩,by simp,λk hk=>setRow_other w b k _ hk⟩;have a6:O6 Z w (w.setRow b j):=λz hz=>A.2.2.2.2 z (λa=>a3 (a▸hz))
 have a5:=Hd (gU (off:=off) (O7 (B:=B) Y) o G) M;have I:=G5.set (R:=C9 t w Z) (s:=t.size) (λ_ _ h=>C9.length h) u a5 f;refine⟨_,J,A,_,?_,I.mono λ_ _=>C9.mono (λ_=>id) a6⟩;rw[qT];have a7:=G5.length (R:=C9 t w Z) (s:=t.size) (λ_ _ h=>C9.length h) I;refine⟨by rw[a7,qT], .inr ⟨b,d,j,rfl,U,setRow_heap w b g _ e _ F,H,V,?_,?_⟩⟩
 . rw[<-D];simp only[g0a,rQ,qZ,sS,sB,r,c];omega
 rw[<-D];simp only[zE];rw[c, <-a9];exact A0o c a0 (by simpa[r]using a1) W
def C3.attach (h:C3 za w0 st E w Z B) {k r i g:Nat} {t:Ty} {e e':TypeId} {ls:List (List t.den)} {al:List (Nat×Nat)} {o:Option Nat} {l:List t.den} {xs:List Value} (u:st.L k= .rows t e e' ls al o) (T:st.L r= .row t e' l) (J:k≠r) (an:st.nm<=k) (b1:st.nm<=r) (ak:i<ls.length) (Q:∀j,o=some j->i=j)
 (aq:w.ownsRow 0 e 1 (B k) ls.length xs) (a1:root (B k)=some g) (s:VX g w w') (a6:w'.ownsRow 0 e 1 (B k) ls.length (xs.set i (B r))) (ap:za.k0<=k->∀b,root (B r)=some b->za.b0<=b):C3 za w0 (A4z st k r (.rows t e e' (ls.set i l) [(i,r)] none)) E w' Z B:=by
 have X:=h.locs k;have Y:=h.locs r;rw[u]at X;rw[T]at Y;obtain⟨b5,A,⟨ay,ag,ah⟩,W,az⟩:=X;have av:=Sf aq A;subst av;obtain⟨ax,a9,aw,b4⟩:=Y;have D:B4 w (B k) (st.L k) g:=by rw[u];exact .inl a1
 have a2:¬Z g:=((h.locs k).root D).2.2;have a8:O6 Z w w':=λn hc'=>s.2.2.2.2 n (λe=>a2 (e▸hc'))
 have z:∀b,root (B r)=some b->B4 w (B r) (st.L r) b:=λb a=>by rw[T];exact a
 have au:root (B r)≠some g:=λa=>h.disj k r g J D (z g a)
 have ao:k<st.nx:=Fs h (by rw[u];trivial);have a7:r<st.nx:=Fs h (by rw[T];trivial);have b2:xs.length=ls.length:=by have:=A.1;omega
 have P:∀b,B4 w' (B k) (.rows t e e' (ls.set i l) [(i,r)] none) b->root (B r)=some b\/B4 w (B k) (st.L k) b:=λb a=>by
  rcases a with a| ⟨aa,b3,V,a3,a5,j,x,M,N,ac,_,d,a⟩
  . exact .inr (by rw[u];exact .inl a)
  have H:(xs.set i (B r))[j]? =some x:=by
   rcases a6.2 with⟨f,_⟩ | ⟨ab,a0,a4,f,_,I,aj,_,am,U⟩
   . rw[M]at f;cases f
   rw[M]at f;cases f;rw[N]at I;cases I;rw[<-U,rX ω];simpa using d
  by_cases c:i=j
  . subst c;rw[sU ω]at H;cases H;exact .inl a
  rw[tC c]at H;refine .inr ?_;rw[u];have R:Eo o j=false:=by
   cases o with
   |none=>rfl
   |some q=>have:=Q q rfl;subst this;exact E9 c
  exact Rr A R H a
 have ad:=(h.drop r).drop k;have ae:C3 za w0 ((st.setL r .none).setL k .none) E w' Z B:=by
  refine ad.keep (h.ext.chg s ((h.locs k).root D).1.m) (by rw[s.2.2.2.1];exact qV _) (λq f=>s.2.2.2.2 q ?_) (λ_=>id) (λ_=> .inl);rintro rfl;rcases f with f| ⟨j,f⟩
  . exact a2 f
  rw[St.L_setL]at f;split at f
  . exact f.elim
  rename_i H;rw[St.L_setL]at f;split at f
  . exact f.elim
  exact h.disj j k q H f D
 have ai:∀b,(root (B r)=some b\/B4 w (B k) (st.L k) b)->up za w0 k b/\¬Z b/\b<w.heap.size:=λb a=>by
  rcases a with a|a
  . obtain⟨f,H,I⟩:=(h.locs r).root (z b a);refine⟨?_,I,H⟩;rcases f with f|f
    . exact .inl ⟨by rw[<-h.nms.1];exact an,f.2⟩
    have:=h.nms.1;omega
  obtain⟨f,H,I⟩:=(h.locs k).root a;exact⟨f,I,H⟩
 have ar:∀(j:Nat) (v:List t.den) (x:Value),i≠j->ls[j]? =some v->xs[j]? =some x->Eo o j=false/\∃O,w'.ownsRow 0 e' t.size x v.length O/\G5 (C9 t w' Z) O v:=λj v x c y d=>by
  have f:Eo o j=false:=by
   cases o with
   |none=>rfl
   |some q=>have:=Q q rfl;subst this;exact E9 c
  obtain⟨O,H,M⟩:=ag j v x f y d;refine⟨f,O,Bq H (λn I=>s.2.2.2.2 n ?_),M.mono λ_ _=>C9.mono (λ_=>id) a8⟩;rintro rfl;exact W j x n f d ((E7 H).trans I) a1
 have G:∀(j:Nat) (x:Value),i≠j->(xs.set i (B r))[j]? =some x->xs[j]? =some x/\Eo o j=false:=λj x c d=>by
  rw[tC c]at d;refine⟨d,?_⟩;cases o with
  |none=>rfl
  |some q=>have:=Q q rfl;subst this;exact E9 c
 have F:(xs.set i (B r))[i]? =some (B r):=sU ω;have af:C3 za w0 (((st.setL r .none).setL k .none).setL k (.rows t e e' (ls.set i l) [(i,r)] none)) E w' Z B:=by
  refine ae.addL ao ⟨_,by rw[qT];exact a6,⟨λp H=>?_,λj v x _ y d=>?_,λj N x U b a4 _ _ d M a f=>?_⟩,λj x b _ d a=>?_,λb a=>?_⟩ (λj b R a f=>?_) (λp H=>?_) (λb a5 a=>?_)
  . simp only[qJ]at H;subst H;exact .inl F
  . by_cases c:i=j
    . subst c;rw[sU ak]at y;rw[F]at d;cases y;cases d;exact⟨ax,Bq a9 (λn aj=>s.2.2.2.2 n (λe=>au (e▸(E7 a9).trans aj))),aw.mono λ_ _=>C9.mono (λ_=>id) a8⟩
    rw[tC c]at y;exact(ar j v x c y (G j x c d).1).2
  . by_cases c:i=j
    . subst c;rw[F]at d;cases d;have:=G N U a4 M;exact h.disj k r b J (by rw[u];exact Rr A this.2 this.1 f) (z b a)
    have I:=G j x c d;by_cases a3:i=N
    . subst a3;rw[F]at M;cases M;exact h.disj k r b J (by rw[u];exact Rr A I.2 I.1 a) (z b f)
    have V:=G N U a3 M;exact ah j N x U b a4 I.2 V.2 I.1 V.1 a f
  . by_cases c:i=j
    . subst c;rw[F]at d;cases d;exact λf=>h.disj k r b J (by rw[u];exact .inl f) (z b a)
    have:=G j x c d;exact W j x b this.2 this.1 a
  . obtain⟨aa,ab,ac⟩:=ai b (P b a);exact⟨aa,ab,by rw[s.2.2.2.1];exact ac⟩
  . rw[St.L_setL,qL R,St.L_setL]at f;split at f
    . exact f.elim
    rename_i am;have a0:B4 w (B j) (st.L j) b:=(B4.iff λn hcf=>s.2.2.2.2 n (λe=>h.disj j k n R hcf (e▸D))).1 f;rcases P b a with a|a
    . exact h.disj j r b am a0 (z b a)
    exact h.disj j k b R a0 a
  . simp only[qJ]at H;subst H;exact a7
  rcases P b a with a|a
  . exact ap a5 b a
  exact h.mrk.2 k b a5 a
 exact af.addL a7 trivial (λ_ _ _ a=>a.elim) trivial (λ_ _ a=>a.elim)
def gW (h:C3 za w0 st E w Z B) (bp:G7 cx.P cx.tys=true) {T:TypeId} {p v:Operand} (a:aI cx st T p v=some (φ,st')) (bt:FL φ) (F:k st') (O:E1 all ⟨none, .store T p v,ty,pos,aft,g⟩ E=true):K4 cx.P all ⟨none, .store T p v,ty,pos,aft,g⟩ (λE' w'=>(frO za.k0 st (.store T p v)=true->Below za.b0 w w'/\True)/\Nx za w0 k E' w') E w:=by
 simp only[aI,qH,bind_some]at a;obtain⟨ti,bn,H,⟨Y,V,U⟩,a⟩:=a;have a5:=(J4 (B9 bp bn)).1;have s:=h.c1 (F2 E) (bind_some.2 ⟨Y,V,U⟩);split at a
 . rename_i q D;simp only[bind_some]at a;obtain⟨X,af,a⟩:=a;split at a
   . rename_i T' a9 j;cases b:X.cs.all Ft&&Nat.beq X.cs.length ti.ty.size&&Nat.ble (D+ti.ty.size) a9.length with
     |false=>simp only[b,rI]at a;cases a
     |true=>
      simp only[b,qS]at a;cases a;simp only[qC]at b;have Q:=qD b.1.2;have a2:=qO b.2;obtain⟨i,an⟩:=h.ev (F2 E) af;have J:=RS.cells h i b.1.1;have r:=h.locs q;have N:=h.refl q;rw[j]at r N;obtain⟨c,M,e,ao,aa,a6,am⟩:=r;obtain⟨aw,I,R⟩:=s.1;rw[e]at I;cases I;have ak:(Gw.ev E v).cells.toList.length=ti.ty.size:=by rw[<-Q,J.len]
      have G:=VP (P:=cx.P) (ty:=ty) (w:=w) (Gw.ev E v).cells.toList R rfl rfl a5 ak a6 (by rw[ak];have:=am.len;simp at this;omega) (Db.one h b.1.1 J);have o:VX c w (w.setRow c (M.toList.take D++(Gw.ev E v).cells.toList++M.toList.drop (D+(Gw.ev E v).cells.toList.length)).toArray):=⟨rfl,rfl,⟨rfl,qV _⟩,by simp,λk F=>setRow_other w c k _ F⟩;have t:root (B q)=some c:=by rw[e];rfl
      have au:O6 Z w (w.setRow c (M.toList.take D++(Gw.ev E v).cells.toList++M.toList.drop (D+(Gw.ev E v).cells.toList.length)).toArray):=λai a7=>o.2.2.2.2 ai (λf=>aa (f▸a7))
      have aj:∀H∈AW D ti.ty.size a9 X.cs,Cz st.nx H:=λH s=>by
       simp only[AW,qU]at s;rcases s with(s|s) |s
       . exact N H (rO s)
       . exact an H s
       exact N H (vM s)
      refine Wa G O ⟨λf=>CW o (h.mrk.2 q c (by simp only[frO,show(st.ev [] p).bind c1=some _ from bind_some.2 ⟨Y,V,U⟩]at f;exact qO f) (by rw[j];exact t)),_,_,_,h.chg (by rw[j];trivial) (by rw[j];exact t) o (lc:= .box T' (AW D ti.ty.size a9 X.cs)) ⟨c,_,e,ao,aa,setRow_heap w c M _ T' _ a6,?_⟩ aj (λ_ f=> .inl f),F⟩;exact Db.mono (n:=st.nx) (λ_=>id) au (λ_ _=>rfl) aj (by simpa using gU am J Q)
   cases a
 . rename_i q sz u D;split at a
   . rename_i a0 e I W al ar j;split at a
     . rename_i A bh;cases b:Nat.beq sz 1&&Nat.beq D 0&&Nat.beq ti.ty.size 1 with
       |false=>simp only[b,rI]at a;cases a
       |true=>
        simp only[b,qS]at a;simp only[qC]at b;have b3:=qD b.1.1;have b4:=qD b.1.2;have b6:=qD b.2;subst b3 b4;unfold Vc.attach at a;split at a
        . rename_i c9 b5 ax aw;split at a
          . rename_i bg;subst bg;cases M:Nat.beq b5 I&&Nat.ble st.nm A&&Nat.ble st.nm q&&Nat.blt q A with
            |false=>simp only[M,rI]at a;cases a
            |true=>
             simp only[M,qS]at a;cases a;simp only[qC]at M;have b7:=qD M.1.1.1;subst b7;have bm:q<A:=qO M.2;obtain⟨a1,b8⟩:=h.ev (F2 E) bh;obtain⟨bv,ca,a6,bq,c4⟩:=a1;cases a6;have bs:Gw.ev E v=B A:=bq;have r:=h.locs q;rw[j]at r;obtain⟨b1,i,_⟩:=r;obtain⟨c,m,a8,y,a3,R⟩:=s.1;have bk:m=W.length:=by
              rw[y]at i;rcases i.2 with⟨f,_⟩ | ⟨_,_,_,f,_⟩<;>cases f
              rfl
             subst bk;have au:(B A).oneCell'=true:=h.bone A;have bb:(Gw.ev E v).cells.toList= [B A]:=by rw[bs];exact PE au
             have ak:=i;rw[y]at ak;rcases ak.2 with⟨f,_⟩ | ⟨bx,bz,N,f,b9,an,bl,be,aa,bo⟩
             . cases f
             cases f;have G:=VP (P:=cx.P) (ty:=ty) (w:=w) [B A] R rfl bb a5 (by rw[b6];rfl) an (by rw[aa];simp;omega) (λbv a6=>by simp at a6;subst a6;exact au);generalize am:(N.toList.take (u*1+0)++ [B A]++N.toList.drop (u*1+0+ [B A].length)).toArray=aj at G;have o:VX c w (w.setRow c aj):=⟨rfl,rfl,⟨rfl,qV _⟩,by simp,λk F=>setRow_other w c k _ F⟩;have t:root (B q)=some c:=by rw[y];rfl
             have bi:B4 w (B q) (st.L q) c:=by rw[j];exact .inl t
             refine Wa G O ⟨λf=>CW o (h.mrk.2 q c (by simp only[frO,show(st.ev [] p).bind c1=some _ from bind_some.2 ⟨Y,V,U⟩,j,frE]at f;exact qO f) bi),_,_,_,h.attach j aw (tY bm) (qO M.1.2) (qO M.1.1.2) a3 (λx z=>?_) i t o ?_ ?_,F⟩
             . subst z;exact bt
             . rw[y];refine⟨by rw[qT];exact i.1, .inr ⟨c,a8,aj,rfl,b9,setRow_heap w c N _ e _ an,bl,be,?_,?_⟩⟩
               . rw[<-am];simp only[g0a,rQ,qZ,sS,sB,aa,rK,yF];omega
               rw[<-am, <-bo];simp only[zE];apply xS;intro x;have c2:N.toList.length=a8*1:=by rw[sB,aa]
               simp only[xF,tK,rK,yF,sD];by_cases z:x<W.length
               . rw[rX z];by_cases ao:u=x
                 . subst ao;rw[sU (by rw[qZ];omega),uC,tS (by rw[qZ];omega),qZ];rw[(ω:u-min u N.toList.length=0)];rfl
                 rw[tC ao,rX z,uC];by_cases bj:x<u
                 . rw[vF (by rw[qZ];omega),rX bj]
                 rw[tS (by rw[qZ];omega),qZ,(ω:min u N.toList.length=u)];obtain⟨d,b⟩:∃d,x-u=d+1:=⟨x-u-1,ω⟩;rw[b];simp only[yU,wZ,uP,xK];rw[(ω:u+1+d=x)]
               rw[rT (by rw[qZ];omega),rT (by rw[qT,qZ];omega)]
             exact λc3 b2 ba=>h.mrk.2 A b2 ω (by rw[aw];exact ba)
          cases a
        cases a
     cases a
   rename_i ap;simp only[bind_some,qK]at a;obtain⟨X,af,c8,l,a⟩:=a;cases a;obtain⟨Z1,i⟩:=h.settleO v;have c0:=λa0 e I W al ar=>ap a0 e I W al ar
   obtain⟨a1,b8⟩:=i.ev (F2 E) af;obtain⟨c,m,a8,y,a3,R⟩:=s.1;have t:root (B q)=some c:=by rw[y];rfl
   unfold lG at l;split at l
   . rename_i a0 e ax j;obtain⟨b,l⟩:=H5 l;simp only[qC]at b;split at l
     . rename_i az ah;cases l;have Q:=qD b.1.1.2;have ag:=qD b.1.2;have a2:=qO b.2;subst ag;have J:=RS.cells i a1 b.1.1.1;have r:=i.locs q;rw[j]at r;obtain⟨b1,av,bf,ad⟩:=r;rw[y]at av ad;obtain⟨w',G,o,bw,ae,ab⟩:=gI (P:=cx.P) (ty:=ty) i a5 av bf (ad c rfl).2 a3 R J b.1.1.1 Q a2 ah;refine Wa G O ⟨λf=>CW o ?_,_,_,_,i.chg (by rw[j];trivial) (by rw[j];exact t) o (lc:= .row a0 e (ax.set u az)) ⟨_,by rw[y];exact ae,ab,λai a7=>by rw[y]at a7;exact ad ai a7⟩ trivial (λ_ f=> .inl f),F⟩;exact i.mrk.2 q c (C2z f (bind_some.2 ⟨Y,V,U⟩) (by rw[j])) (by rw[j];exact t)
     cases l
   . rename_i x j;split at l
     . rename_i a0 e I W al z;split at l
       . rename_i c5 ac;obtain⟨b,l⟩:=H5 l;simp only[qC]at b;split at l
         . rename_i az ah;cases l;have Q:=qD b.1.1.2;have ag:=qD b.1.2;have a2:=qO b.2;subst ag;have J:=RS.cells i a1 b.1.1.1;have r:=i.locs x;rw[z]at r;obtain⟨b1,cb,c6,c7,ay,bu⟩:=lE r ac;have aq:¬Z1 c:=by
            obtain⟨am,a6,⟨M,aa,aj⟩,ak,N⟩:=r;exact(N c (Rr a6 rfl ((M _ (Ll ac)).resolve_right λf=>by rw[f.2]at t;simp[root]at t) t)).2.1
           rw[y]at ay;obtain⟨w',G,o,bw,ae,ab⟩:=gI (P:=cx.P) (ty:=ty) i a5 ay bu aq a3 R J b.1.1.1 Q a2 ah;have a4:=B5u r (Ll ac) t o aq (by rw[y];exact ae) ab;refine Wa G O ⟨λf=>CW o ?_,_,_,_,i.chg (k:=x) (by rw[z];trivial) (by rw[z];exact a4.2.1) o a4.1 (by have:=i.refl x;rw[z]at this;exact this) (λH bc=> .inr (by rw[z];exact(W5 λg O=>o.2.2.2.2 g (λe=>a4.2.2 (e▸O))).1 bc)),F⟩;exact i.mrk.2 x c (C2y f (bind_some.2 ⟨Y,V,U⟩) ap j) (by rw[z];exact a4.2.1)
         cases l
       cases l
     cases l
   cases l
 cases a
def A0e:∀(v:Value) (n:Nat),(∃k a,v= .int k a)\/(∃b,v= .bool b)->Instr.sameBits n v v=true:=by
 rintro v n (⟨k,a,rfl⟩ | ⟨b,rfl⟩)
 . cases n<;>simp[Instr.sameBits]
 cases n<;>simp[Instr.sameBits]
def Vm:∀ {t:Ty} {cs:List Value} {x:t.den},He t=true->C9 t w Z cs x->∀v∈cs,(∃k a,v= .int k a)\/(∃b,v= .bool b)
 | .int k,_,x,_,h=>by rw[h.1];intro v c;simp at c;exact .inl ⟨_,_,c⟩
 | .bool,_,x,_,h=>by rw[show _= _ from h];intro v c;simp at c;exact .inr ⟨_,c⟩
 | .unit,_,_,_,h=>by rw[show _= _ from h];intro v c;cases c
 | .pair a b,_,_,d,⟨c1,h,e,f,g⟩=>by
  simp only[He,qC]at d;rw[e];intro v c;rcases qU.1 c with c|c
  . exact Vm d.1 f v c
  exact Vm d.2 g v c
 | .str,_,_,h,_=>by cases h
 | .sl _,_,_,h,_=>by cases h
 | .ptr _,_,_,h,_=>by cases h
 | .mp _ _ _ _,_,_,h,_=>by cases h
def A0f:∀(cs:List Value) (n:Nat),(∀v∈cs,(∃k a,v= .int k a)\/(∃b,v= .bool b))->(cs.zip cs).all (λx=>Instr.sameBits n x.1 x.2)=true
 | [],_,_=>rfl
 |c::cs,n,h=>by
  simp only[List.zip_cons_cons,tN,qC];exact⟨A0e c n (h c (by simp)),A0f cs n (λv d=>h v (by simp[d]))⟩
def B3w {a:Bool} {t:Ty} {v:Value} {x:t.den} (b:He t=true) (h:U9 (C9 t w Z) a v x):Instr.sameBits 10000 v v=true:=by
 cases a with
 |true=>
  obtain⟨cs,e,h⟩:=h;subst e;have:=A0f cs 9999 (Vm b h);simp only[Instr.sameBits,beq_self_eq_true,g0l];exact this
 |false=>exact A0e v 10000 (Vm (cs:= [v]) b h v (by simp))
def B3x {a:Bool} {t:Ty} {v c:Value} {x:t.den} (d:He t=true) (h:U9 (C9 t w Z) a v x) (b:U9 (C9 t w Z) a c x):v=c:=by
 cases a with
 |true=>
  obtain⟨cs,e,h⟩:=h;obtain⟨cs',f,b⟩:=b;rw[e,f,Pa d h b]
 |false=>
  have:=Pa (cs:= [v]) (cs':= [c]) d h b;simpa using this
def nT {a:Ty} {d:Type} {Rk:Value->a.den->Prop} {Rv:Value->d->Prop} {k:a.den} {v:d} {kv vv:Value} {cl:Nat} (g:Rk kv k) (h:Rv vv v):∀ {l:List (a.den×d)} {es:List MapEntry} {i:Nat},T3 Rk Rv es l->
 (P9 a k l i=none->T3 Rk Rv (es++ [{key:=kv,val:=vv,born:=cl}]) (Ev a k v l))/\(∀j,P9 a k l i=some (i+j)->T3 Rk Rv (es.modify j λe=> {e with key:=kv,val:=vv}) (Ev a k v l))
 | [],es,i,b=>by
  rw[show es= []from b];exact⟨λ_=>⟨_,[],rfl,g,h,rfl⟩,λj c=>by cases c⟩
 |x::l,_,i,⟨e,u,t,n,o,r⟩=>by
  subst t;simp only[P9,Ev];cases f:GR a k x.1 with
  |true=>
   refine⟨λb=>by simp at b,λj c=>?_⟩;simp only[qS,rF]at c;have:j=0:=ω
   subst this;exact⟨_,_,rfl,g,h,r⟩
  |false=>
   simp only[rI];have c:=nT (cl:=cl) g h (i:=i+1) r;refine⟨λb=>⟨e,_,rfl,n,o,c.1 b⟩,λj s=>?_⟩;cases j with
   |zero=>
    exfalso;have:∀(l:List (a.den×d)) (i j:Nat),P9 a k l i=some j->i<=j:=by
     intro l
     induction l with
     |nil=>intro i j b;cases b
     |cons y l c=>
      intro i j b;unfold P9 at b;cases f:GR a k y.1 with
      |true=>simp[f]at b;omega
      |false=>simp[f]at b;have:=c _ _ b;omega
    have:=this _ _ _ s;omega
   |succ j=>exact⟨e,_,rfl,n,o,c.2 j (by rw[s];congr 1;omega)⟩
def Ki (f:MapEntry->MapEntry) (a:∀e,(f e).born=e.born):∀(l:List MapEntry) (j:Nat),(l.modify j f).map (·.born)=l.map (·.born)
 | [],j=>by cases j<;>rfl
 |x::l,0=>by simp[a]
 |x::l,j+1=>by simp[Ki f a l j]
def fP (h:C3 za w0 st E w Z B) (aq:G7 cx.P cx.tys=true) {T:TypeId} {m x y:Operand} (f:PV cx st T m x y=some st'):
 ∃w',Gw.KM cx.P E ty (.mapUpdate T m x y) w w'/\Gw.KM cx.P E ty (.insert T m x y) w w'/\∃Z' B',C3 za w0 st' E w' Z' B':=by
 simp only[PV,qH,bind_some]at f;obtain⟨ti,ap,az,⟨aw,an,ae⟩,b5,N,b6,ao,f⟩:=f;obtain⟨Z1,r⟩:=h.settleO y;split at f
 . rename_i z g A D k aa;simp only[bind_some]at f;obtain⟨l,c,key,ag,Q,au,f⟩:=f;cases f;obtain⟨a6,J,_,_⟩:=Wd (B9 aq ap) aa;have ad:=r.c1 (F2 E) (bind_some.2 ⟨aw,an,ae⟩);have s:=Ex (r.ev (F2 E) N).1 ag;have av:=Ex (r.ev (F2 E) ao).1 au;have M:=IE J;have a1:live ((settleO st y).L k):=by
    simp only[mapM]at c;cases j:(settleO st y).L k<;>rw[j]at c<;>simp at c<;>trivial
   have a9:∃b d cl,B k= .map (some b)/\up za w0 k b/\¬Z1 b/\w.heap[b]? =some (.map d cl)/\MOk d cl/\La w Z1 z g A D d.toList l:=by
    simp only[mapM]at c;have:=r.locs k;cases j:(settleO st y).L k with
    |map b3 b4 b7 b8 ak=>
     rw[j]at c this;simp only at c;split at c
     . rename_i I;cases I;cases c;exact this
     cases c
    | _=>rw[j]at c;simp at c
   obtain⟨b,d,cl,F,ar,a3,G,t,H⟩:=a9;have a2:Gw.ev E m= .map (some b):=(show Gw.ev E m=B k from ad.1).trans F;have ai:b<w.heap.size:=(rV.1 G).1;have X:=λem=>Ru J s w em
   have Y:=Zt J s w H;have a0:(getObj b).run cx.P w= .ok (.map d cl) w:=by simp[getObj,Sem.run,G]
   have a5:∀o,(setObj b o).run cx.P w= .ok () {w with heap:=w.heap.setIfInBounds b o} :=λo=>by simp[setObj,Sem.run,G]
   have W:∀o,VX b w {w with heap:=w.heap.setIfInBounds b o} :=λo=>⟨rfl,rfl,⟨rfl,qV _⟩,by simp,λq j=>by simp[tJ,Ne.symm j]⟩
   have aj:∀o,({w with heap:=w.heap.setIfInBounds b o} :World).heap[b]? =some o:=λo=>by simp[tJ,ai]
   have fin:∀ents' cl',MOk ents' cl'->La w Z1 z g A D ents'.toList (Ev g key Q l)->∃Z' B',C3 za w0 ((settleO st y).setL k (.map z g A D (Ev g key Q l))) E {w with heap:=w.heap.setIfInBounds b (.map ents' cl')} Z' B':=λents' cl' hmo' he'=>by
    have ak:O6 Z1 w {w with heap:=w.heap.setIfInBounds b (.map ents' cl')} :=λR O=>(W _).2.2.2.2 R (λI=>a3 (I▸O))
    exact⟨Z1,B,r.chg a1 (B4.of a1 (by rw[F];rfl)) (W _) (lc:= .map z g A D (Ev g key Q l)) ⟨b,ents',cl',F,ar,a3,aj _,hmo',he'.mono (λ_=>id) ak⟩ trivial (λ_ I=> .inl I)⟩
   have a4:=nT (cl:=cl) (kv:=Gw.ev E x) (vv:=Gw.ev E y) s av (i:=0) H;rcases DJ (k:=key) (i:=0) H with⟨n,_⟩ | ⟨v,a7,b9,n,U,b0,b1,V,a8⟩
   . have u:(Instr.mapUpdate T (Gw.ev E m) (Gw.ev E x) (Gw.ev E y)).run cx.P w= .ok () {w with heap:=w.heap.setIfInBounds b (.map (d.push {key:=Gw.ev E x,val:=Gw.ev E y,born:=cl}) (cl+1))} :=by
      unfold Instr.mapUpdate;simp only[Sem.run_bind,run_underlying a6,Result.andThen_ok,a2,a0,X,Y,n,g2a,a5]
     refine⟨_,λ_ _ _ _=>?_,λ_ _ _ _=>?_,fin _ (cl+1) ⟨λx a=>?_,?_⟩ (by rw[g1o];exact a4.1 n)⟩
     . simp[execOp,u]
     . simp[execOp,u]
     . rw[g1o,qU]at a;rcases a with a|a
       . have:=t.1 x a;omega
       simp at a;subst a;exact rR _
     rw[g1o,vY,sZ];refine⟨t.2,by simp,λay ab b ac=>?_⟩;simp at ac;obtain⟨x,a,rfl⟩:=tT.1 ab;have:=t.1 x a;omega
   have ah:=(VC M).1 a8;rw[<-ah]at V;have N:=B3x M V s;have af:d[v]? =some a7:=by simpa using U
   have am:=B3w M s;have u:(Instr.mapUpdate T (Gw.ev E m) (Gw.ev E x) (Gw.ev E y)).run cx.P w= .ok () {w with heap:=w.heap.setIfInBounds b (.map (d.modify v λe=> {e with key:=Gw.ev E x,val:=Gw.ev E y}) cl)} :=by
    have I:P9 g key l 0=some v:=by rw[n,sD]
    unfold Instr.mapUpdate;simp only[Sem.run_bind,run_underlying a6,Result.andThen_ok,a2,a0,X,Y,I,wE,U,xC,af,wF,N];simp[Instr.keyThatStays,am,a5]
   refine⟨_,λ_ _ _ _=>?_,λ_ _ _ _=>?_,fin _ cl ⟨λR a=>?_,?_⟩ (by rw[g0v];exact a4.2 v n)⟩
   . simp[execOp,u]
   . simp[execOp,u]
   . rw[g0v]at a;have:R.born∈(d.toList.modify v λe=> {e with key:=Gw.ev E x,val:=Gw.ev E y}).map (·.born):=vS a;rw[Ki (λe:MapEntry=> {e with key:=Gw.ev E x,val:=Gw.ev E y}) (λ_=>rfl)]at this;obtain⟨ax,O,b2⟩:=tT.1 this;have:=t.1 ax O;omega
   rw[g0v,Ki (λe:MapEntry=> {e with key:=Gw.ev E x,val:=Gw.ev E y}) (λ_=>rfl)];exact t.2
 cases f
def VJ {c d:Bool} {a b:Ty} {q:Nat} {es:List (a.den×b.den)} (h:mapM st c a d b q=some es):st.L q= .map c a d b es:=by
 unfold mapM at h;split at h
 . rename_i g;split at h
   . rename_i f;cases f;cases h;exact g
   cases h
 cases h
def A8o (h:C3 za w0 st E w Z B) {T:TypeId} {m s y:Operand} (a:XN st m s y=some st'):∃w',Gw.KM cx.P E ty (.entryStore T m s y) w w'/\∃Z' B',C3 za w0 st' E w' Z' B':=by unfold XN at a;cases a
def A9a (h:C3 za w0 st E w Z B) (f:G7 cx.P cx.tys=true) {T:TypeId} {m x:Operand} (a:YI cx st d T m x=some st') (c:k st') (b:E1 all ⟨some d, .mapEntry T m x,ty,pos,aft,g⟩ E=true):K4 cx.P all ⟨some d, .mapEntry T m x,ty,pos,aft,g⟩ (eC za w0 w true k) E w:=by unfold YI at a;cases a
def WZ (cx:Cx) (st:St) (T:TypeId) (x:Operand):Option St:=none
def A8c {ty:TypeId} {st':St} (h:C3 za w0 st E w Z B) (b:G7 cx.P cx.tys=true) {T:TypeId} {x:Operand} (a:WZ cx st T x=some st'):∃v w',Gw.E2 cx.P E ty (.call ⟨.builtin .clear, #[x], #[T]⟩) w v w'/\C3 za w0 st' E w' Z B:=by unfold WZ at a;cases a
end
end Go.Vc
