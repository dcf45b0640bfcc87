/- Part. -/
import Derived.Laws.CopyRow
import Derived.Test.YtiflhbllbgajeaaGreatKHA
set_option linter.all false
namespace Go.Vc
open Go Go.RowKit Go.Gw
open Go.IntKind (i64)
section
variable {za:Zn} {w0 w:World} {Z:Nat->Prop} {B:Nat->Value} {st:St} {E:F9} {P:Program}
def A0x (w:World) (Z:Nat->Prop) (B:Nat->Value):List (Nat×List C)->List (Nat×Value)->Prop
 | [],a=>a= []
 | (i,b)::r,c=>∃v a,c=(i,v)::a/\Dm w Z B b v.cells.toList/\A0x w Z B r a
def fG {place:Nat->Option (Nat×Nat)} :∀ {b:List (Nat×List C)} {a:List (Nat×Value)} {cs cs':List C} {vs:Array Value},A0x w Z B b a->Dm w Z B cs vs.toList->Yy place cs b=some cs'->∃d,Instr.fill place vs a=some d/\Dm w Z B cs' d.toList
 | [],_,cs,cs',vs,c,h,b=>by
  rw[show _= _ from c];simp only[Yy,rC]at b;subst b;exact⟨vs,rfl,h⟩
 | (c,g)::r,_,cs,cs',vs,⟨v,a,e,i,j⟩,h,b=>by
  subst e;simp only[Yy]at b;cases f:place c with
  |none=>simp[f]at b
  |some q=>
   obtain⟨a,sz⟩:=q;simp only[f]at b;cases c:Nat.beq g.length sz&&Nat.ble (a+sz) cs.length with
   |false=>simp[c]at b
   |true=>
    simp only[c,qR]at b;simp only[qC]at c;have k:g.length=sz:=qE c.1;have l:a+sz<=cs.length:=qQ c.2;have n:v.cells.size=sz:=by rw[<-k,i.len];simp
    have c:cs.length=vs.size:=by rw[h.len];simp
    have c:=Vm a v.cells.toList 0 vs (by simp;omega);simp only[tB]at c;generalize k:(v.cells.toList.zipIdx 0).foldl (fun cs (x:Value×Nat)=>cs.setIfInBounds (a+x.2) x.1) vs=o at c;have l:Dm w Z B (cs.take a++g++cs.drop (a+sz)) o.toList:=by
     rw[c];have c:v.cells.toList.length=sz:=by simpa using n
     rw[c];exact((h.take a).append i).append (h.drop (a+sz))
    obtain⟨d,a,c⟩:=fG j l b;refine⟨d, ?_,c⟩;unfold Instr.fill;simp only[f];rw[qL (by simp;omega)];rw[<-a, <-k, <-g3i];simp
def NE {place:Nat->Option (Nat×Nat)} {Q:C->Prop} :∀ {a:List (Nat×List C)} {cs cs':List C},(∀x∈a,∀c∈x.2,Q c)->(∀c∈cs,Q c)->Yy place cs a=some cs'->∀c∈cs',Q c
 | [],cs,cs',_,h,a=>by
  simp only[Yy,rC]at a;subst a;exact h
 | (i,f)::r,cs,cs',d,h,a=>by
  simp only[Yy]at a;cases b:place i with
  |none=>simp[b]at a
  |some q=>
   simp only[b]at a;cases b:Nat.beq f.length q.2&&Nat.ble (q.1+q.2) cs.length with
   |false=>simp[b]at a
   |true=>
    simp only[b,qR]at a;refine NE (fun x b=>d x (qJ _ b)) ?_ a;intro c a;simp only[qX]at a;rcases a with(a|a) |a
    . exact h c (rX a)
    . exact d (i,f) (by simp) c a
    . exact h c (vD a)
def Ky (st:St) (ctx:Kj):List (Nat×Operand)->Option (List (Nat×List C))
 | []=>some []
 | (i,x)::r=>match st.ev ctx x with
  |some s=>bif s.cs.all Fc then(Ky st ctx r).map fun l=>(i,s.cs)::l else none
  |none=>none
def RS.cells (h:B7 za w0 st E w Z B) {s:SV} {v:Value} (a:RS w Z B s v) (f:s.cs.all Fc=true):Dm w Z B s.cs v.cells.toList:=by
 obtain⟨d,b⟩:=s;cases d with
 |true=>obtain⟨d,e,a⟩:=a;subst e;exact a
 |false=>
  have a:Dm w Z B b [v]:=a
  match b,a with
  | [c],d=>
   obtain⟨u,g,e,a,b⟩:=d;cases e;have d:=RC.one h (by simpa using f) a;have:v.cells= #[v]:=by cases v<;>simp[Value.cells,Value.oneCell']at d⊢
   rw[this];exact⟨v,[],rfl,a,b⟩
  | [],a=>cases a
  |c::a::r,b=>obtain⟨u,f,e,d,⟨_,_,a,_⟩⟩:=b;cases e;cases a
def Lx (h:B7 za w0 st E w Z B) {ctx:Kj} (g:P8 E ctx):∀ {a:List (Nat×Operand)} {l:List (Nat×List C)},Ky st ctx a=some l->A0x w Z B l (a.map fun x=>(x.1,Gw.ev E x.2))/\∀x∈l,∀c∈x.2,Ch st.nx c
 | [],l,a=>by cases a;exact⟨rfl,by simp⟩
 | (i,x)::r,l,a=>by
  simp only[Ky]at a;cases f:st.ev ctx x with
  |none=>simp[f]at a
  |some s=>
   simp only[f]at a;cases b:s.cs.all Fc with
   |false=>simp only[b,rD]at a;cases a
   |true=>
    simp only[b,qR]at a;cases d:Ky st ctx r with
    |none=>simp[d]at a
    |some i=>
     simp[d]at a;subst a;obtain⟨i,j⟩:=h.ev g f;obtain⟨f,k⟩:=Lx h g d;refine⟨⟨Gw.ev E x,_,rfl,RS.cells h i b,f⟩,fun y a=> ?_⟩;rcases qG.1 a with rfl|a
     . exact j
     . exact k y a
def Ki (t:Ty):List C:=(Dl t).map Ka
def Gb {T:TypeId} {t:Ty} (h:Qu P T t=true):∃z,Ho P T=some z/\z.cells.toList=Dl t:=by
 unfold Qu at h;split at h
 . rename_i z a;split at h
   . rename_i b;exact⟨z,a,by rw[iM b];simp⟩
   . cases h
 . cases h
def A7r (h:B7 za w0 st E w Z B) {ctx:Kj} (g:P8 E ctx) {T ty:TypeId} {t:Ty} {a:List (Nat×Operand)} {l:List (Nat×List C)} {cs:List C} {b:List (Nat×Nat)} (d:Qu P T t=true) (k:DR P T=some b)
 (j:Ky st ctx a=some l) (c:Yy (fun i=>b[i]?) (Ki t) l=some cs):Ye P st E w Z B ty (.build T a.toArray) (.one ⟨true,cs⟩):=by
 obtain⟨z,o,r⟩:=Gb d;obtain⟨d,f⟩:=Lx h g j;have b:=Cm (w:=w) (Z:=Z) (B:=B) (n:=st.nx) (Dl t);obtain⟨a,g,j⟩:=fG (vs:=z.cells) d (by rw[r];exact b.1) c;exact⟨.agg a,fun d _=>B6j a o k g,fun _=>⟨a.toList,by simp,j⟩,NE f b.2 c⟩
def eP (h:B7 za w0 st E w Z B) {ctx:Kj} (b:P8 E ctx) {T ty e:TypeId} {t:Ty} {len sz:Nat} {a:List (Nat×Operand)} {l:List (Nat×List C)} {cs:List C} (d:Qu P T t=true) (k:P.underlying T=some (.array len e)) (o:Sv P e sz=true)
 (g:Ky st ctx a=some l) (c:Yy (fun i=>some (i*sz,sz)) (Ki t) l=some cs):Ye P st E w Z B ty (.build T a.toArray) (.one ⟨true,cs⟩):=by
 obtain⟨z,r,s⟩:=Gb d;obtain⟨d,f⟩:=Lx h b g;have b:=Cm (w:=w) (Z:=Z) (B:=B) (n:=st.nx) (Dl t);obtain⟨a,g,j⟩:=fG (vs:=z.cells) d (by rw[s];exact b.1) c;exact⟨.agg a,fun d _=>nG a r k o g,fun _=>⟨a.toList,by simp,j⟩,NE f b.2 c⟩
def A3n:List SV->Option (List Nat)
 | []=>some []
 | ⟨false,[.box k 0]⟩::r=>(A3n r).map (k:: ·)
 | _=>none
def evL (st:St) (ctx:Kj):List Operand->Option (List SV)
 | []=>some []
 |x::r=>match st.ev ctx x with
  |some s=>(evL st ctx r).map (s:: ·)
  |none=>none
def UT (h:B7 za w0 st E w Z B) {ctx:Kj} (d:P8 E ctx):∀ {xs:List Operand} {ss:List SV},evL st ctx xs=some ss->Qv w Z B ss (xs.map (Gw.ev E))/\∀s∈ss,Le st.nx s
 | [],ss,a=>by cases a;exact⟨rfl,by simp⟩
 |x::r,ss,a=>by
  simp only[evL]at a;cases c:st.ev ctx x with
  |none=>simp[c]at a
  |some s=>
   simp only[c]at a;cases b:evL st ctx r with
   |none=>simp[b]at a
   |some l=>
    simp[b]at a;subst a;obtain⟨f,g⟩:=h.ev d c;obtain⟨c,i⟩:=UT h d b;refine⟨⟨_,_,rfl,f,c⟩,fun y a=> ?_⟩;rcases qG.1 a with rfl|a
    . exact g
    . exact i y a
def A1f {n:Nat} :∀ {ss:List SV} {b:List Nat} {vs:List Value},Qv w Z B ss vs->(∀s∈ss,Le n s)->A3n ss=some b->vs=b.map B/\∀k∈b,k<n
 | [],b,vs,h,_,a=>by cases a;exact⟨h,by simp⟩
 |s::r,b,vs,⟨v,g,e,d,f⟩,c,a=>by
  unfold A3n at a;split at a
  . rename_i b;cases b
  . rename_i k g b;cases b;cases b:A3n r with
    |none=>simp[b]at a
    |some l=>
     simp[b]at a;subst a;obtain⟨g,h⟩:=A1f f (fun s hs=>c s (qJ _ hs)) b;obtain⟨_,_,b,⟨j,f,i⟩,_⟩:=d;cases b;have d:=c ⟨false,[.box k 0]⟩ (by simp) (.box k 0) (by simp);refine⟨by rw[e,g,i, <-f];rfl,fun q b=> ?_⟩;rcases qG.1 b with rfl|b
     . exact d
     . exact h q b
  . cases a
def B8z (h:B7 za w0 st E w Z B) {ctx:Kj} (g:P8 E ctx) {ty:TypeId} {f:FuncId} {a:List Operand} {ss:List SV} {b:List Nat} (c:evL st ctx a=some ss) (d:A3n ss=some b):
 Ye P st E w Z B ty (.makeFunc (.func f) #[] a.toArray) (.one ⟨false,[.fn f b]⟩):=by
 obtain⟨a,b⟩:=UT h g c;obtain⟨c,g⟩:=A1f a b d;exact Im (fun a _=>C4a c) rfl g
def B1k (e:Bool):C->C->Option C
 | .val t x, .val a y=>if h:a=t then some (.val t (I9 e x (h▸y)))else none
 | _,_=>none
def B1l {e:Bool} {c1 a c:C} {v1 v2:Value} (h:B1k e c1 a=some c) (b:e=true->RC w Z B c1 v1) (d:e=false->RC w Z B a v2):RC w Z B c (bif e then v1 else v2)/\∀n,Ch n c:=by
 unfold B1k at h;split at h
 . split at h
   . rename_i t x f y a;subst a;cases h;refine⟨?_,fun _=>trivial⟩;cases e with
     |true=>exact b rfl
     |false=>exact d rfl
   . cases h
 . cases h
end
def Rn:Ty->Bool
 | .ptr _=>false
 | .pair a b=>Rn a&&Rn b
 | _=>true
def MB {w:World} {Z:Nat->Prop} :∀ {t:Ty},Rn t=true->C4 t w Z (Dl t) t.dflt
 | .int k,_=>⟨rfl,kY k⟩
 | .bool,_=>rfl
 | .str,_=>rfl
 | .unit,_=>rfl
 | .pair a b,h=>by
  simp only[Rn,qC]at h;exact⟨_,_,rfl,MB h.1,MB h.2⟩
 | .sl _,_=>⟨none,0,rfl,qZ _,rM _,fun _=>rfl, .inl rfl⟩
 | .ptr _,h=>by cases h
 | .mp _ _ _ _,_=> .inl ⟨rfl,rfl⟩
def B4n (f:St) (c:Bool) (a:Ty) (d:Bool) (b:Ty):C->Option (List (a.den×b.den))
 | .mp k=>match f.L k with
  | .map f g h i j=>if k:Ty.mp f g h i=Ty.mp c a d b then some (k▸(show(Ty.mp f g h i).den from j):(Ty.mp c a d b).den)else none
  | .mapE f g h i j _ _=>if k:Ty.mp f g h i=Ty.mp c a d b then some (k▸(show(Ty.mp f g h i).den from j):(Ty.mp c a d b).den)else none
  | _=>none
 | .val t f=>if h:t=Ty.mp c a d b then some (h▸f:(Ty.mp c a d b).den)else none
 | .raw (.map none)=>some []
 | _=>none
def B4p (a:St) (ctx:Kj) (x:Operand):Option (Option Prop×DV):=
 match a.ev ctx x with
 |some s=>some (none, .one s)
 |none=>match x with
  | .tmp t=>match a.S t with
   | .tup a=>some (none, .tup a)
   | _=>none
  | _=>none
def B9i (a:St) (b:Bool):Operand->Kj
 | .tmp t=>gctx a 20 t b
 | _=> []
def one1 (c:C):DV:= .one ⟨false,[c]⟩
def pW (d:St) (ctx:Kj) (c a b:Operand):Option (Option Prop×DV):=do
 let e<-(d.ev ctx c).bind PD
 let f<-(d.ev (B9i d true c++ctx) a).bind c1
 let g<-(d.ev (B9i d false c++ctx) b).bind c1
 (B1k e f g).map fun c=>(none,one1 c)
def B2o (a:St) (ctx:Kj) (op:UnOp) (x:Operand):Option (Option Prop×DV):=do
 let c<-(a.ev ctx x).bind c1
 (unC op c).map fun c=>(none,one1 c)
def fR:C->Bool
 | .val .bool _=>true
 | _=>false
def oI (cx:Cx) (a:St) (ctx:Kj) (op:BinOp) (T:TypeId) (x y:Operand):Option (Option Prop×DV):=do
 let b<-a.ev ctx x
 let c<-a.ev ctx y
 match c1 b,c1 c with
 |some a,some d=>bif fR a&& !(isB cx.P T)then none else(B7v op a d).map fun r=>(r.1,one1 r.2)
 | _,_=>do
  let ti<-cx.ti T
  let a<-Rx true ti.ty b
  let b<-Rx true ti.ty c
  bif ti.eq&&ti.agg then(match op with
   | .eql=>some (none,one1 (.val .bool (FV ti.ty a b)))
   | .neq=>some (none,one1 (.val .bool (!(FV ti.ty a b))))
   | _=>none)else none
def NC (a:St) (x:Operand) (i:Nat):Option (Option Prop×DV):=
 match x with
 | .tmp t=>match a.S t with
  | .tup a=>(a[i]?).map fun s=>(none, .one s)
  | _=>none
 | _=>none
def Yw (cx:Cx) (a:St) (ctx:Kj) (T:TypeId) (x:Operand) (f:Nat):Option (Option Prop×DV):=do
 let ti<-cx.ti T
 let q<-ti.fields[f]?
 let c<-(a.ev ctx x).bind c1
 (faC q.1 c).map fun c=>(none,one1 c)
def fF (cx:Cx) (a:St) (ctx:Kj) (T:TypeId) (x:Operand) (f:Nat):Option (Option Prop×DV):=do
 let ti<-cx.ti T
 let q<-ti.fields[f]?
 let s<-a.ev ctx x
 bif s.agg then(cut q.1 q.2.1 s.cs).map fun a=>(none, .one ⟨q.2.2,a⟩)else none
def pE (cx:Cx) (a:St) (ctx:Kj) (T:TypeId) (x:Operand):Option (Option Prop×DV):=do
 let ti<-cx.ti T
 let c<-(a.ev ctx x).bind c1
 (B0a a ti.ty.size c).map fun b=>(none, .one ⟨ti.agg,b⟩)
def C1o (cx:Cx) (a:St) (ctx:Kj) (ti:TI) (x ix:Operand):Option (Option Prop×DV):=do
 let b<-cx.ti ti.elem
 let c<-(a.ev ctx x).bind c1
 let i<-(a.ev ctx ix).bind fO
 (faC (i.toNat*b.ty.size) c).map fun a=>(some (0<=i/\i<(ti.arr:Int)),one1 a)
def A7c (u:Ty):Nat->Ty
 |0=> .unit
 |1=>u
 |n+2=> .pair u (A7c u (n+1))
def selA (u:Ty):(n:Nat)->(A7c u n).den->Int->u.den
 |0,_,_=>u.dflt
 |1,x,_=>x
 |n+2,x,i=>I9 (decide (i=0)) x.1 (selA u (n+1) x.2 (i-1))
def C1q (cx:Cx) (b:St) (ctx:Kj) (ti:TI) (x ix:Operand):Option (Option Prop×DV):=do
 let a<-cx.ti ti.elem
 let c<-(b.ev ctx x).bind c1
 let i<-(b.ev ctx ix).bind fO
 match c with
 | .pf t y 0=>if h:t=A7c a.ty ti.arr then some (some (0<=i/\i<(ti.arr:Int)),one1 (.pf a.ty (selA a.ty ti.arr (h▸y) i) 0))else none
 | _=>none
def A1q:Operand->Bool
 | .const _=>true
 | _=>false
def C1p (cx:Cx) (a:St) (ctx:Kj) (T:TypeId) (x:Operand):Option (Option Prop×DV):=do
 let ti<-cx.ti T
 let c<-(a.ev ctx x).bind c1
 match ti.ty,c with
 | .sl t, .raw (.slice none 0 0)=>some (some False,one1 (.pf t t.dflt 0))
 | _,_=>none
def B8m (cx:Cx) (a:St) (ctx:Kj) (T:TypeId) (x ix:Operand):Option (Option Prop×DV):=do
 let ti<-cx.ti T
 let c<-(a.ev ctx x).bind c1
 let i<-(a.ev ctx ix).bind fO
 let r<-B8l a i c
 match ti.ty,r.2 with
 | .sl t, .pf a _ _=>bif decide (t=a)then some (r.1,one1 r.2)else none
 | .sl t, .elp _ sz _ _=>bif Nat.beq t.size sz then some (r.1,one1 r.2)else none
 | _,_=>none
def A9h (cx:Cx) (a:St) (ctx:Kj) (T:TypeId) (x ix:Operand):Option (Option Prop×DV):=
 match cx.ti T with
 |some ti=>bif Nat.beq ti.arr 0 then(match C1p cx a ctx T x with
  |some r=>some r
  |none=>B8m cx a ctx T x ix)else(bif A1q ix then C1o cx a ctx ti x ix else C1q cx a ctx ti x ix)
 |none=>none
def C1y:C->Bool
 | .box _ _=>true
 | .elp _ _ _ _=>true
 | .pf _ _ _=>true
 | .fn _ _=>true
 | .fv _ _ _ _ _ _=>true
 | _=>false
def B0r (a:St) (ctx:Kj) (x:Operand):Option (Option Prop×DV):=do
 let c<-(a.ev ctx x).bind c1
 bif C1y c then some (none,one1 c)else none
def B4u (a:St) (ctx:Kj):Option Operand->Option (Option Int)
 |none=>some none
 |some o=>((a.ev ctx o).bind fO).map some
def iC (cx:Cx) (a:St) (ctx:Kj) (T:TypeId) (x:Operand) (lo b:Option Operand):Option (Option Prop×DV):=do
 let ti<-cx.ti T
 let c<-(a.ev ctx x).bind c1
 let l<-B4u a ctx lo
 let h<-B4u a ctx b
 let r<-A0d a l h c
 match ti.ty,r.2 with
 | .sl t, .val (.sl a) _=>bif decide (t=a)then some (r.1,one1 r.2)else none
 | .sl t, .win _ sz _ _=>bif Nat.beq t.size sz then some (r.1,one1 r.2)else none
 | _,_=>none
def oO (cx:Cx) (a:St) (ctx:Kj) (T T':TypeId) (x:Operand):Option (Option Prop×DV):=do
 let ti<-cx.ti T
 let b<-cx.ti T'
 let c<-(a.ev ctx x).bind c1
 match ti.ty,b.ty,c with
 | .int _, .int a, .val (.int _) b=>some (none,one1 (.val (.int a) (a.wrap b)))
 | _,_,_=>none
def eO (cx:Cx) (b:St) (ctx:Kj) (T:TypeId) (a:List (Nat×Operand)):Option (Option Prop×DV):=do
 let ti<-cx.ti T
 let l<-Ky b ctx a
 bif ti.fields.isEmpty then(do
  let b<-cx.ti ti.elem
  bif Nat.beq ti.arr 0 then none else(Yy (fun i=>some (i*b.ty.size,b.ty.size)) (Ki ti.ty) l).map fun a=>(none, .one ⟨true,a⟩))
 else(Yy (fun i=>(ti.fields.map fun x=>(x.1,x.2.1))[i]?) (Ki ti.ty) l).map fun a=>(none, .one ⟨true,a⟩)
def GY (s:ByteArray) (i:Int):Int:=((s.data.toList.getD i.toNat 0).toNat:Int)
def VF (a:St) (ctx:Kj) (x ix:Operand):Option (Option Prop×DV):=do
 let c<-(a.ev ctx x).bind c1
 let i<-(a.ev ctx ix).bind fO
 match c with
 | .val .str s=>some (some (0<=i/\i<(s.data.toList.length:Int)),one1 (.val (.int .u8) (GY s i)))
 | _=>none
def VE (cx:Cx) (a:St) (ctx:Kj) (T:TypeId) (x ix:Operand):Option (Option Prop×DV):=none
def fN (cx:Cx) (a:St) (ctx:Kj) (T:TypeId) (x ix:Operand):Option (Option Prop×DV):=
 match((cx.ti T).map fun t:TI=>t.ty:Option Ty)with
 |some .str=>VF a ctx x ix
 | _=>VE cx a ctx T x ix
def C1t:C->Bool
 | .mp _=>true
 | _=>false
def B8o:Ty->Bool
 | .sl _=>true
 | _=>false
def VO (cx:Cx) (f:St) (ctx:Kj) (T:TypeId) (x ix:Operand) (h:Bool):Option (Option Prop×DV):=do
 let ti<-cx.ti T
 let g<-(f.ev ctx x).bind c1
 let j<-f.ev ctx ix
 match ti.ty with
 | .mp i b d a=>do
  let c<-B4n f i b d a g
  let k<-Rx i b j
  bif ti.rows&&C1t g&&B8o a&& !h&& !d then some (some (K9 b k c=none),one1 (.raw (.slice none 0 0)))else
  bif Rn a then some (none,bif h then .tup [⟨d,explode a ((K9 b k c).getD a.dflt)⟩,⟨false,[.val .bool (K9 b k c).isSome]⟩]else .one ⟨d,explode a ((K9 b k c).getD a.dflt)⟩)else none
 | _=>none
def B0m (c:St) (ctx:Kj) (fn:Fn) (first a:List Operand):Option (Option Prop×DV):=
 match fn,first with
 | .func f,[]=>do
  let b<-evL c ctx a
  let a<-A3n b
  some (none,one1 (.fn f a))
 | _,_=>none
def MW (cx:Cx) (a:St) (ctx:Kj) (b:Builtin) (args:List Operand) (ts:List TypeId):Option (Option Prop×DV):=
 match b,args,ts with
 | .len,[x],[T]=>do
  let ti<-cx.ti T
  let c<-(a.ev ctx x).bind c1
  let n<-B8t a c
  match ti.ty,c with
  | _, .mp _=>none
  | .sl _,_=>some (none,one1 (.val (.int .i64) n))
  | _,_=>none
 | .max,[x,y],_=>do
  match<-(a.ev ctx x).bind c1, <-(a.ev ctx y).bind c1 with
  | .val (.int k) c, .val (.int d) b=>bif decide (k=d)then some (none,one1 (.val (.int k) (max c b)))else none
  | _,_=>none
 | .min,[x,y],_=>do
  match<-(a.ev ctx x).bind c1, <-(a.ev ctx y).bind c1 with
  | .val (.int k) c, .val (.int d) b=>bif decide (k=d)then some (none,one1 (.val (.int k) (min c b)))else none
  | _,_=>none
 | .max,[x,y,z],_=>do
  match<-(a.ev ctx x).bind c1, <-(a.ev ctx y).bind c1, <-(a.ev ctx z).bind c1 with
  | .val (.int k) a, .val (.int d) b, .val (.int f) c=>bif decide (k=d)&&decide (k=f)then some (none,one1 (.val (.int k) (max (max a b) c)))else none
  | _,_,_=>none
 | _,_,_=>none
def Zy (cx:Cx) (a:St) (ctx:Kj):Op->Option (Option Prop×DV)
 | .move x=>B4p a ctx x
 | .assign x=>B4p a ctx x
 | .pick d b c=>pW a ctx d b c
 | .unOp b _ x=>B2o a ctx b x
 | .binOp b T x y _=>oI cx a ctx b T x y
 | .extract x i=>NC a x i
 | .fieldAddr T x f=>Yw cx a ctx T x f
 | .field T x f=>fF cx a ctx T x f
 | .load T x=>pE cx a ctx T x
 | .indexAddr T x i=>A9h cx a ctx T x i
 | .index T x i=>fN cx a ctx T x i
 | .lookup T x i b=>VO cx a ctx T x i b
 | .slice T x c b none=>iC cx a ctx T x c b
 | .convert T T' x=>oO cx a ctx T T' x
 | .build T b=>eO cx a ctx T b.toList
 | .nilCheck x=>B0r a ctx x
 | .makeFunc fn first b=>B0m a ctx fn first.toList b.toList
 | .call ⟨.builtin c,b,d⟩=>MW cx a ctx c b.toList d.toList
 | _=>none
section
variable {za:Zn} {w0 w:World} {Z:Nat->Prop} {B:Nat->Value} {st:St} {E:F9} {cx:Cx}
def bind_some {c d:Type} {x:Option c} {f:c->Option d} {b:d} :x.bind f=some b↔∃a,x=some a/\f a=some b:=g1o
def B7.tup (h:B7 za w0 st E w Z B) {t:Tmp} {vs:List SV} (c:st.S t= .tup vs):∃us:List Value,E t= .tuple us.toArray/\Qv w Z B vs us/\∀s∈vs,Le st.nx s:=by
 have b:=h.slots t;have a:=h.refs t;rw[c]at b a;obtain⟨us,e,c⟩:=b;exact⟨us,e,c,a⟩
def Qv.get:∀ {ss:List SV} {vs:List Value} {i:Nat} {s:SV},Qv w Z B ss vs->ss[i]? =some s->∃v,vs[i]? =some v/\RS w Z B s v
 | [],_,_,_,_,a=>by simp at a
 |s'::ss,_,i,s,⟨v,d,e,b,c⟩,a=>by
  cases i with
  |zero=>simp at a;subst a;exact⟨v,by rw[e];rfl,b⟩
  |succ i=>simp at a;obtain⟨u,b,d⟩:=Qv.get c a;exact⟨u,by rw[e];simpa using b,d⟩
def O2 {P:Program} {T:TypeId} {ti:TI} (h:Vp P T ti=true):Sv P T ti.ty.size=true/\(ti.agg=true/\iZ P T ti.ty.size=true\/ti.agg=false/\Jb P T=true/\ti.ty.size=1)/\Qu P T ti.ty=true:=by
 simp only[Vp,qC]at h;obtain⟨⟨⟨⟨⟨⟨b,a⟩,c⟩,_⟩,_⟩,_⟩,_⟩:=h;refine⟨b, ?_,c⟩;cases b:ti.agg with
 |true=>rw[b]at a;exact .inl ⟨rfl,a⟩
 |false=>simp only[b,rD,qC]at a;exact .inr ⟨rfl,a.1,qE a.2⟩
def EA {P:Program} {T:TypeId} {ti:TI} {t:Ty} (h:Vp P T ti=true) (b:ti.ty= .sl t):Hg P T ti.elem t.size=true/\Qu P ti.elem t=true/\∃i,P.info? ti.elem=some i/\i.bytes=ti.bytes:=by
 simp only[Vp,qC]at h;obtain⟨⟨⟨⟨_,a⟩,_⟩,_⟩,_⟩:=h;rw[b]at a;simp only[qC]at a;refine⟨a.1.1,a.1.2, ?_⟩;cases b:P.info? ti.elem with
 |none=>simp[b]at a
 |some i=>simp only[b]at a;exact⟨i,rfl,qE a.2⟩
def nB {P:Program} {T:TypeId} {ti:TI} {k:IntKind} (h:Vp P T ti=true) (b:ti.ty= .int k):B4e P T k=true:=by
 simp only[Vp,qC]at h;obtain⟨⟨⟨⟨_,a⟩,_⟩,_⟩,_⟩:=h;rw[b]at a;exact a
def AX {P:Program} {T:TypeId} {ti:TI} (h:Vp P T ti=true) (b:ti.fields.isEmpty=false):Yx P T 0 ti.fields=true/\DR P T=some (ti.fields.map fun x=>(x.1,x.2.1)):=by
 simp only[Vp,qC]at h;obtain⟨⟨⟨_,a⟩,_⟩,_⟩:=h;simp only[b,rD,qC]at a;refine⟨a.1, ?_⟩;cases b:DR P T with
 |none=>simp[b]at a
 |some c=>simp only[b,rR]at a;rw[a.2]
def XV {P:Program} {T:TypeId} {ti:TI} (h:Vp P T ti=true) (b:Nat.beq ti.arr 0=false):P.underlying T=some (.array ti.arr ti.elem):=by
 simp only[Vp,qC]at h;obtain⟨⟨_,a⟩,_⟩:=h;simp only[b,rD]at a;split at a
 . rename_i n e b;simp only[qC]at a;rw[b,qE a.1,qE a.2]
 . cases a
def Vq {P:Program} {T:TypeId} {ti:TI} {a c:Bool} {b d:Ty} (h:Vp P T ti=true) (f:ti.ty= .mp a b c d):P.underlying T=some (.map ti.key ti.elem)/\ES P ti.key a b=true/\Qu P ti.elem d=true/\MA P ti.elem c=true:=by
 simp only[Vp,qC]at h;obtain⟨⟨⟨⟨_,b⟩,_⟩,_⟩,_⟩:=h;rw[f]at b;simp only[qC]at b;obtain⟨⟨⟨a,c⟩,d⟩,f⟩:=b;refine⟨?_,c,d,f⟩;split at a
 . rename_i k e b;simp only[qC]at a;rw[b,qE a.1,qE a.2]
 . cases a
def B6g {P:Program} {T:TypeId} {ti:TI} (h:Vp P T ti=true) (a:ti.eq=true):ES P T ti.agg ti.ty=true:=by
 simp only[Vp,qC]at h;have:=h.2;rw[a]at this;exact this
def Ug {P:Program} {T:TypeId} :∀ {l:List (Nat×Nat×Bool)} {a f:Nat} {q:Nat×Nat×Bool},Yx P T a l=true->l[f]? =some q->ND P T (a+f) q.1=true/\oS P T (a+f) q.2.1 q.2.2=true
 | [],_,_,_,_,b=>by simp at b
 | (d,sz,c)::l,a,f,q,h,b=>by
  simp only[Yx,qC]at h;cases f with
  |zero=>simp at b;subst b;exact h.1
  |succ f=>
   simp at b;have:=Ug h.2 b;rw[show a+1+f=a+(f+1)from by omega]at this;exact this
def Jf {b:Type} {l:List b} {i:Nat} {a:b} (h:l[i]? =some a):l.isEmpty=false:=by
 cases l with
 |nil=>simp at h
 |cons _ _=>rfl
end
section
variable {za:Zn} {w0 w:World} {Z:Nat->Prop} {B:Nat->Value} {st:St} {E:F9} {cx:Cx} {ctx:Kj} {ty:TypeId} {φ:Option Prop} {d:DV}
def A2b (h:B7 za w0 st E w Z B) (g:P8 E ctx) {x:Operand} (a:B4p st ctx x=some (φ,d)):Ye cx.P st E w Z B ty (.move x) d/\Ye cx.P st E w Z B ty (.assign x) d:=by
 unfold B4p at a;cases b:st.ev ctx x with
 |some s=>
  rw[b]at a;cases a;obtain⟨c,f⟩:=h.ev g b;exact⟨⟨_,fun g _=>B2v,fun _=>c,f⟩,⟨_,fun g _=>nF,fun _=>c,f⟩⟩
 |none=>
  rw[b]at a;cases x with
  |tmp t=>
   simp only at a;cases b:st.S t with
   |tup c=>
    rw[b]at a;cases a;obtain⟨g,e,c,f⟩:=h.tup b;exact⟨⟨_,fun i _=>B2v,fun _=>⟨g,e,c⟩,f⟩,⟨_,fun i _=>nF,fun _=>⟨g,e,c⟩,f⟩⟩
   |one _=>rw[b]at a;cases a
   |cnd _ _ _=>rw[b]at a;cases a
   |dead=>rw[b]at a;cases a
  |const _=>cases a
  |global _=>cases a
  |func _=>cases a
def B7.c1 (h:B7 za w0 st E w Z B) (f:P8 E ctx) {x:Operand} {c:C} (b:(st.ev ctx x).bind Vc.c1=some c):RC w Z B c (Gw.ev E x)/\Ch st.nx c:=by
 obtain⟨s,g,a⟩:=bind_some.1 b;obtain⟨b,d⟩:=h.ev f g;exact jS b d a
def B7.int (h:B7 za w0 st E w Z B) (b:P8 E ctx) {x:Operand} {n:Int} (d:(st.ev ctx x).bind fO=some n):∃k,Gw.ev E x= .int k n/\NH k n:=by
 obtain⟨s,c,a⟩:=bind_some.1 d;exact B4d (h.ev b c).1 a
def A5d (h:B7 za w0 st E w Z B) (i:P8 E ctx) {c a b:Operand} (f:pW st ctx c a b=some (φ,d)):Ye cx.P st E w Z B ty (.pick c a b) d:=by
 simp only[pW,qH,bind_some,qK]at f;obtain⟨e,⟨y,s,g⟩,u,⟨z,k,n⟩,v,⟨A,l,o⟩,x,r,j⟩:=f;cases j;have j:Gw.ev E c= .bool e:=Re (h.ev i s).1 g;have g:∀q,e=q->P8 E (B9i st q c++ctx):=fun q hq t b f=>by
  rcases qX.1 f with f|f
  . cases c with
    |tmp s=>exact h.gctx (by rw[<-hq];exact j) t b f
    |const _=>cases f
    |global _=>cases f
    |func _=>cases f
  . exact i t b f
 have f:=B1l (w:=w) (Z:=Z) (B:=B) (v1:=Gw.ev E a) (v2:=Gw.ev E b) r (fun q=>(jS (h.ev (g true q) k).1 (h.ev (g true q) k).2 n).1) (fun q=>(jS (h.ev (g false q) l).1 (h.ev (g false q) l).2 o).1);exact Im (fun g _=>C0i j) f.1 (f.2 _)
def B2p (h:B7 za w0 st E w Z B) (b:P8 E ctx) {op:UnOp} {T:TypeId} {x:Operand} (a:B2o st ctx op x=some (φ,d)):Ye cx.P st E w Z B ty (.unOp op T x) d:=by
 simp only[B2o,qH,bind_some,qK]at a;obtain⟨j,⟨s,i,c⟩,r,g,f⟩:=a;cases f;exact C3u (h.c1 b (bind_some.2 ⟨s,i,c⟩)).1 g
def C3x {P:Program} {T T' ty:TypeId} {x y:Operand} {a:Ty} {u v:a.den} (b:ES P T true a=true) (c:Bb true a w Z (Gw.ev E x) u) (d:Bb true a w Z (Gw.ev E y) v) (w':World):Gw.E7 P E ty (.binOp .eql T x y T') w' (.bool (FV a u v)) w'/\Gw.E7 P E ty (.binOp .neq T x y T') w' (.bool (!(FV a u v))) w':=by
 have f:=bZ b c d w';have i:P.eqGuardType P.depth T=false:=by simp only[ES,qC,rP]at b;exact b.1.2
 obtain⟨g,b,_⟩:=c;obtain⟨h,c,_⟩:=d;rw[b,c]at f;refine⟨fun _ _ _ _=> ?_,fun _ _ _ _=> ?_⟩
 . have d:(eqGuard .eql T x y (.agg g.toArray) (.agg h.toArray)).run P w'= .ok () w':=run_eqGuard_agg w' _ _ _ _ _ _ i;simp only[execOp,b,c];simp[d,run_eql_struct,f,Result.andThen]
 . have d:(eqGuard .neq T x y (.agg g.toArray) (.agg h.toArray)).run P w'= .ok () w':=run_eqGuard_agg w' _ _ _ _ _ _ i;simp only[execOp,b,c];simp[d,run_neq_struct,f,Result.andThen]
def A3k (h:B7 za w0 st E w Z B) (u:H3 cx.P cx.tys=true) (b:P8 E ctx) {op:BinOp} {T T':TypeId} {x y:Operand} (a:oI cx st ctx op T x y=some (φ,d)) (A:PS φ):Ye cx.P st E w Z B ty (.binOp op T x y T') d:=by
 simp only[oI,qH,bind_some]at a;obtain⟨g,c,i,f,a⟩:=a;obtain⟨k,o⟩:=h.ev b c;obtain⟨l,c⟩:=h.ev b f;split at a
 . rename_i g n i j;have v:=(jS k o i).1;have z:=(jS l c j).1;cases b:fR g&& !(isB cx.P T)with
   |true=>simp[b]at a
   |false=>
    simp only[b,rD,qK]at a;obtain⟨r,t,c⟩:=a;cases c;have s:isB cx.P T=true\/∀e,g≠ .val .bool e:=by
     cases f:isB cx.P T with
     |true=>exact .inl rfl
     |false=>
      right;intro e c;subst c;simp[fR,f]at b
    obtain⟨b,o,r,f⟩:=B3k (P:=cx.P) (ty:=ty) (T':=T') t A v z s;exact Im (fun b _=>o b) r (f _)
 . simp only[bind_some]at a;obtain⟨ti,o,g,i,n,j,a⟩:=a;obtain⟨c,a⟩:(ti.eq&&ti.agg)=true/\ _:=by
    cases g:(ti.eq&&ti.agg)with
    |false=>simp[g]at a
    |true=>simp only[g,qR]at a;exact⟨rfl,a⟩
   simp only[qC]at c;have f:=B6g (B8 u o) c.1;rw[c.2]at f;have c:=fun b=>C3x (P:=cx.P) (ty:=ty) (T':=T') f (Ej k i) (Ej l j) b
   split at a
   . cases a;exact Im (fun b _=>(c b).1) rfl trivial
   . cases a;exact Im (fun b _=>(c b).2) rfl trivial
   . cases a
def fE (h:B7 za w0 st E w Z B) {x:Operand} {i:Nat} (a:NC st x i=some (φ,d)):Ye cx.P st E w Z B ty (.extract x i) d:=by
 unfold NC at a;split at a
 . rename_i t;split at a
   . rename_i vs g;simp only[qK]at a;obtain⟨s,b,c⟩:=a;cases c;obtain⟨k,e,c,f⟩:=h.tup g;obtain⟨v,g,j⟩:=Qv.get c b;exact⟨v,fun c _=>A6i (vs:=k.toArray) e (by simpa using g),fun _=>j,f s (sR b)⟩
   . cases a
 . cases a
def UW (h:B7 za w0 st E w Z B) (n:H3 cx.P cx.tys=true) (g:P8 E ctx) {T:TypeId} {x:Operand} {f:Nat} (a:Yw cx st ctx T x f=some (φ,d)):Ye cx.P st E w Z B ty (.fieldAddr T x f) d:=by
 simp only[Yw,qH,bind_some,qK]at a;obtain⟨ti,l,q,b,o,⟨s,k,i⟩,r,j,c⟩:=a;cases c;have c:=AX (B8 n l) (Jf b);have a:=Ug c.1 b;rw[sE]at a;have b:=h.c1 g (bind_some.2 ⟨s,k,i⟩);exact C1d a.1 b.1 b.2 j
def oT (h:B7 za w0 st E w Z B) (Q:H3 cx.P cx.tys=true) (i:P8 E ctx) {T:TypeId} {x:Operand} {f:Nat} (c:fF cx st ctx T x f=some (φ,d)):Ye cx.P st E w Z B ty (.field T x f) d:=by
 simp only[fF,qH,bind_some]at c;obtain⟨ti,O,q,y,V,M,c⟩:=c;obtain⟨D,r⟩:=h.ev i M;have F:=AX (B8 Q O) (Jf y);have s:=Ug F.1 y;rw[sE]at s;obtain⟨W,Y⟩:=V;cases W with
 |false=>simp at c
 |true=>
  simp only[qR,qK]at c;obtain⟨a0,G,H⟩:=c;cases H;obtain⟨k,e,R⟩:=D;obtain⟨g,t,u⟩:=UK R G;obtain⟨b,a⟩:=s;unfold ND at b;unfold oS at a;split at b
  . rename_i a1 n;simp only[n]at a;split at b
    . rename_i j l;simp only[l]at a;simp only[qC,g0x]at b;obtain⟨a2,sz,z⟩:=q;simp only at b a g t;obtain⟨J,_⟩:=b;subst J;cases z with
      |true=>
       simp only[qR]at a;refine⟨.agg ((k.drop j.offset).take sz).toArray,fun I _ _ _ _ _=> ?_,fun _=>⟨_,rfl,g⟩,fun o i=>r o (u o i)⟩;obtain⟨v,A⟩:=Qf (P:=cx.P) (w:=I) a;simp only[execOp,e];simp[Instr.field,run_underlying n,l,asAgg,part,v,A,go_sem]
      |false=>
       simp only[rD,qC]at a;have N:=qE a.2;subst N
       match U:(k.drop j.offset).take 1,g,t with
       | [v],g,_=>
        have I:k[j.offset]? =some v:=by
         have:((k.drop j.offset).take 1)[0]? =some v:=by rw[U];rfl
         simpa using this
        refine⟨v,fun X _ _ _ _ _=> ?_,fun _=>g,fun o i=>r o (u o i)⟩;have A:=Iq (P:=cx.P) (w:=X) a.1;simp only[execOp,e];simp[Instr.field,run_underlying n,l,asAgg,part,A,I,go_sem]
    . cases b
  . cases b
def A4r (h:B7 za w0 st E w Z B) (k:H3 cx.P cx.tys=true) (b:P8 E ctx) {T:TypeId} {x:Operand} (a:pE cx st ctx T x=some (φ,d)):Ye cx.P st E w Z B ty (.load T x) d:=by
 simp only[pE,qH,bind_some,qK]at a;obtain⟨ti,j,l,⟨s,i,c⟩,r,g,f⟩:=a;cases f;obtain⟨f,a,_⟩:=O2 (B8 k j);refine B4m h (h.c1 b (bind_some.2 ⟨s,i,c⟩)).1 g ?_;rcases a with⟨b,a⟩ | ⟨b,a,c⟩
 . exact .inl ⟨b,a⟩
 . exact .inr ⟨b,a,c⟩
def B4b (h:B7 za w0 st E w Z B) (l:H3 cx.P cx.tys=true) (b:P8 E ctx) {T:TypeId} {x ix:Operand} (a:B8m cx st ctx T x ix=some (φ,d)) (n:PS φ):Ye cx.P st E w Z B ty (.indexAddr T x ix) d:=by
 simp only[B8m,qH,bind_some]at a;obtain⟨ti,k,c,⟨s,i,f⟩,u,⟨t,o,g⟩,r,j,a⟩:=a;have c:=h.c1 b (bind_some.2 ⟨s,i,f⟩);obtain⟨f,i,_⟩:=h.int b (bind_some.2 ⟨t,o,g⟩);obtain⟨f,b⟩:=r;simp only at a;split at a
 . rename_i t f y v g;cases b:decide (t=f)with
   |false=>simp[b]at a
   |true=>
    simp only[b,qR]at a;cases a;have:=qA b;subst this;have r:=EA (B8 l k) g;refine A9j h c.1 i j n (e:=ti.elem) (fun s u=> ?_) c.2;rcases u with⟨y,z,f,o⟩ | ⟨_,_,f⟩
    . cases f;subst o;exact r.1
    . cases f
 . rename_i t o sz f v g;cases b:Nat.beq t.size sz with
   |false=>simp[b]at a
   |true=>
    simp only[b,qR]at a;cases a;have:=qE b;have f:=EA (B8 l k) g;refine A9j h c.1 i j n (e:=ti.elem) (fun s g=> ?_) c.2;rcases g with⟨i,j,b,c⟩ | ⟨_,_,b⟩
    . cases b
    . cases b;rw[<-this];exact f.1
 . cases a
def iL {P:Program} {T e ty:TypeId} {x ix:Operand} {d:IntKind} {i:Int} {b o n sz:Nat} (h:Gw.ev E x= .pointer (some ⟨b,o,none⟩)) (f:Gw.ev E ix= .int d i) (g:P.underlying T=some (.array n e)) (j:Sv P e sz=true) (a:0<=i) (c:i<(n:Int)) (w:World):
 Gw.E7 P E ty (.indexAddr T x ix) w (.pointer (some ⟨b,o+i.toNat*sz,none⟩)) w:=fun _ _ _ _=>by
 have d:=Gw.Fj (P:=P) (w:=w) j;simp[execOp,h,f,Instr.indexAt,asIntOf,run_underlying g,Instr.sureAddr,a,c,d,go_sem,K5]
def C4.selA {u:Ty} :∀ {n:Nat} {a:List Value} {x:(A7c u n).den} {i:Int},0<=i->i<(n:Int)->C4 (A7c u n) w Z a x->C4 u w Z ((a.drop (i.toNat*u.size)).take u.size) (Vc.selA u n x i)
 |0,_,_,i,b,c,_=>by omega
 |1,a,x,i,b,c,h=>by
  have:i.toNat=0:=by omega
  rw[this,xX,tW,qV (by rw[C4.length h];exact qZ _)];exact h
 |n+2,a,x,i,f,g,⟨c1,c,e,b,d⟩=>by
  subst e;have c:=C4.length b;simp only[Vc.selA];by_cases a:i=0
  . subst a;simp only[g3a,I9,qR];rw[show(0:Int).toNat=0 from rfl,xX,tW, <-c,g2q];exact b
  . simp only[a,zQ,I9,rD];have:=C4.selA (i:=i-1) (by omega) (by omega) d;have a:i.toNat*u.size=c1.length+(i-1).toNat*u.size:=by
     rw[c,show i.toNat=(i-1).toNat+1 from by omega,uJ,vV]
    rw[a, <-vP,g2o];exact this
def A9i (h:B7 za w0 st E w Z B) (o:H3 cx.P cx.tys=true) (l:P8 E ctx) {T:TypeId} {x ix:Operand} (a:A9h cx st ctx T x ix=some (φ,d)) (t:PS φ):Ye cx.P st E w Z B ty (.indexAddr T x ix) d:=by
 unfold A9h at a;split at a
 . rename_i ti O;cases s:Nat.beq ti.arr 0 with
   |true=>
    simp only[s,qR]at a;split at a
    . rename_i r b;cases a;simp only[C1p,qH,bind_some]at b;obtain⟨_,_,c,_,b⟩:=b;split at b
      . cases b;exact t.elim
      . cases b
    . exact B4b h o l a t
   |false=>
    simp only[s,rD]at a;cases u:A1q ix with
    |false=>
     simp only[u,rD,C1q,qH,bind_some]at a;obtain⟨M,F,R,⟨I,A,y⟩,Q,⟨J,D,z⟩,a⟩:=a;have r:=h.c1 l (bind_some.2 ⟨I,A,y⟩);obtain⟨U,j,_⟩:=h.int l (bind_some.2 ⟨J,D,z⟩);have k:=XV (B8 o O) s;have n:=(O2 (B8 o F)).1;split at a
     . rename_i b c;split at a
       . rename_i b;subst b;cases a;obtain⟨g,i⟩:=t;obtain⟨b,H,N,e,G,v,c⟩:=r.1;exact Im (fun f _=>iL e j k n g i f) ⟨b,H+0+Q.toNat*M.ty.size,_,rfl,G,S4 v _ M.ty.size,c.selA g i⟩ trivial
       . cases a
     . cases a
    |true=>
    simp only[u,qR]at a;simp only[C1o,qH,bind_some,qK]at a;obtain⟨M,F,R,⟨I,A,y⟩,Q,⟨J,D,z⟩,V,u,a⟩:=a;cases a;have r:=h.c1 l (bind_some.2 ⟨I,A,y⟩);obtain⟨U,j,_⟩:=h.int l (bind_some.2 ⟨J,D,z⟩);have k:=XV (B8 o O) s;have n:=(O2 (B8 o F)).1;obtain⟨g,i⟩:=t;have c:=r.1;have l:=r.2;unfold faC at u;split at u<;>cases u
    . obtain⟨b,e,o⟩:=c;exact Im (fun f _=>iL o j k n g i f) ⟨b,e,rfl⟩ l
    . obtain⟨b,m,r,e,s,o⟩:=c;exact Im (fun f _=>iL o j k n g i f) ⟨b,m,r,e,s,by rw[uG]⟩ l
    . obtain⟨b,H,N,e,G,v,c⟩:=c;exact Im (fun f _=>iL e j k n g i f) ⟨b,H,N,by rw[uG],G,v,c⟩ l
 . cases a
def B0s (h:B7 za w0 st E w Z B) (b:P8 E ctx) {x:Operand} (a:B0r st ctx x=some (φ,d)):Ye cx.P st E w Z B ty (.nilCheck x) d:=by
 simp only[B0r,qH,bind_some]at a;obtain⟨c,⟨s,i,g⟩,a⟩:=a;have f:=h.c1 b (bind_some.2 ⟨s,i,g⟩);cases b:C1y c with
 |false=>simp only[b,rD]at a;cases a
 |true=>
  simp only[b,qR]at a;cases a;have a:=f.1;refine Im (v:=Gw.ev E x) (fun g _ _ _ _ _=> ?_) a f.2;cases c with
  |box k c=>obtain⟨f,e,c⟩:=a;simp[execOp,c]
  |elp k sz i c=>obtain⟨f,m,g,e,i,c⟩:=a;simp[execOp,c]
  |pf t y c=>obtain⟨c,o,f,e,_⟩:=a;simp[execOp,e]
  |fn f c=>have c:Gw.ev E x= _:=a;simp[execOp,c]
  |fv _ _ _ _ _ _=>obtain⟨g,f,c,_⟩:=a;simp[execOp,c]
  | _=>cases b
def SS (h:B7 za w0 st E w Z B) (b:P8 E ctx) {o:Option Operand} {i:Option Int} (a:B4u st ctx o=some i):A6v E o i:=by
 unfold B4u at a;cases o with
 |none=>cases a;rfl
 |some o=>
  simp only[qK]at a;obtain⟨j,c,rfl⟩:=a;obtain⟨k,a,_⟩:=h.int b c;exact⟨k,j,rfl,a⟩
def A0e (h:B7 za w0 st E w Z B) (r:H3 cx.P cx.tys=true) (c:P8 E ctx) {T:TypeId} {x:Operand} {lo b:Option Operand} (a:iC cx st ctx T x lo b=some (φ,d)) (u:PS φ):Ye cx.P st E w Z B ty (.slice T x lo b none) d:=by
 simp only[iC,qH,bind_some]at a;obtain⟨ti,o,g,⟨s,f,b⟩,t,l,j,k,i,n,a⟩:=a;have g:=h.c1 c (bind_some.2 ⟨s,f,b⟩);obtain⟨j,b⟩:=i;simp only at a;split at a
 . rename_i t i y j;cases b:decide (t=i)with
   |false=>simp[b]at a
   |true=>
    simp only[b,qR]at a;cases a;have:=qA b;subst this;have v:=EA (B8 r o) j;refine mQ h (e:=ti.elem) g.1 n g.2 u (SS h c l) (SS h c k) (fun s f=> ?_);rcases f with⟨y,z,i,rfl⟩ | ⟨_,_,_,i⟩
    . cases i;exact v.1
    . cases i
 . rename_i t v sz y i j;cases b:Nat.beq t.size sz with
   |false=>simp[b]at a
   |true=>
    simp only[b,qR]at a;cases a;have:=qE b;subst this;have i:=EA (B8 r o) j;refine mQ h (e:=ti.elem) g.1 n g.2 u (SS h c l) (SS h c k) (fun s f=> ?_);rcases f with⟨c,g,b,rfl⟩ | ⟨_,_,_,b⟩
    . cases b
    . cases b;exact i.1
 . cases a
def A3x (h:B7 za w0 st E w Z B) (b:H3 cx.P cx.tys=true) (i:P8 E ctx) {T T':TypeId} {x:Operand} (a:oO cx st ctx T T' x=some (φ,d)):Ye cx.P st E w Z B ty (.convert T T' x) d:=by
 simp only[oO,qH,bind_some]at a;obtain⟨ti,l,y,n,r,⟨s,k,j⟩,a⟩:=a;have c:=h.c1 i (bind_some.2 ⟨s,k,j⟩);split at a
 . rename_i t u v o f g;cases a;exact B3p c.1 ⟨_,bW (nB (B8 b l) f)⟩ (nB (B8 b n) g)
 . cases a
def oK (h:B7 za w0 st E w Z B) (j:H3 cx.P cx.tys=true) (g:P8 E ctx) {T:TypeId} {b:List (Nat×Operand)} (a:eO cx st ctx T b=some (φ,d)):Ye cx.P st E w Z B ty (.build T b.toArray) d:=by
 simp only[eO,qH,bind_some]at a;obtain⟨ti,c,l,i,a⟩:=a;have b:=B8 j c;cases f:ti.fields.isEmpty with
 |true=>
  simp only[f,qR,bind_some]at a;obtain⟨c,n,a⟩:=a;cases c:Nat.beq ti.arr 0 with
  |true=>simp[c]at a
  |false=>
   simp only[c,rD,qK]at a;obtain⟨o,k,l⟩:=a;cases l;exact eP h g (O2 b).2.2 (XV b c) (O2 (B8 j n)).1 i k
 |false=>
  simp only[f,rD,qK]at a;obtain⟨k,c,j⟩:=a;cases j;exact A7r h g (O2 b).2.2 (AX b f).2 i c
def kZ (h:B7 za w0 st E w Z B) (c:H3 cx.P cx.tys=true) (b:P8 E ctx) {T:TypeId} {x ix:Operand} (a:VE cx st ctx T x ix=some (φ,d)) (f:PS φ):Ye cx.P st E w Z B ty (.index T x ix) d:=by unfold VE at a;cases a
def B2n {P:Program} {T:TypeId} {ti:TI} (h:Vp P T ti=true) (b:ti.ty= .str):P.underlying T=some .string:=by
 unfold Vp at h;simp only[qC]at h;have a:=h.1.1.1.2;rw[b]at a;simp only at a;split at a
 . assumption
 . cases a
def nH {P:Program} {E:Gw.F9} {w:World} {ty T:TypeId} {x ix:Operand} {s:ByteArray} {a:IntKind} {i:Int} (h:Gw.ev E x= .string s) (g:Gw.ev E ix= .int a i) (c:P.underlying T=some .string) (b:0<=i) (d:i<(s.data.toList.length:Int)):Gw.E7 P E ty (.index T x ix) w (.int .u8 (GY s i)) w:=fun _ _ _ _=>by
 have a:i.toNat<s.data.size:=by rw[<-sP];omega
 have f:s[i.toNat]? =some s.data[i.toNat]:=by
  have:s[i.toNat]? =s.data[i.toNat]?:=by
   rw[getElem?_def,getElem?_def];rfl
  rw[this,tX a]
 have d:GY s i=(s.data[i.toNat].toNat:Int):=by
  unfold GY;rw[qF,wC,tX a];rfl
 simp[execOp,h,g,Instr.index,asIntOf,run_underlying c,b,f,d,go_sem]
def lA (h:B7 za w0 st E w Z B) (b:P8 E ctx) {P:Program} {T:TypeId} {x ix:Operand} (f:P.underlying T=some .string) (a:VF st ctx x ix=some (φ,d)) (c:PS φ):Ye P st E w Z B ty (.index T x ix) d:=by
 simp only[VF,qH,bind_some]at a;obtain⟨j,⟨sv,l,g⟩,n,⟨o,k,i⟩,a⟩:=a;obtain⟨r,j,_⟩:=h.int b (bind_some.2 ⟨o,k,i⟩);split at a
 . rename_i s;cases a;have i:=(h.c1 b (bind_some.2 ⟨sv,l,g⟩)).1;have b:Gw.ev E x= .string s:=(List.cons.inj (show [Gw.ev E x]= [.string s]from i)).1;exact Im (fun g _=>nH b j f c.1 c.2) ⟨rfl,by
    have:=(s.data.toList.getD n.toNat 0).toNat_lt;unfold GY;constructor
    . exact qD _
    . show _ <=(255:Int);omega⟩ trivial
 . cases a
def oW (h:B7 za w0 st E w Z B) (g:H3 cx.P cx.tys=true) (f:P8 E ctx) {T:TypeId} {x ix:Operand} (a:fN cx st ctx T x ix=some (φ,d)) (i:PS φ):Ye cx.P st E w Z B ty (.index T x ix) d:=by
 unfold fN at a;split at a
 . rename_i b;cases c:cx.ti T with
   |none=>rw[c]at b;cases b
   |some ti=>
    rw[c]at b;exact lA h f (B2n (B8 g c) (xG b)) a i
 . exact kZ h g f a i
def A2a (h:B7 za w0 st E w Z B) {i j:Bool} {f g:Ty} {c:C} {v:Value} {es:List (f.den×g.den)} (k:RC w Z B c v) (a:B4n st i f j g c=some es):
 (v= .map none/\es= [])\/∃b d cl,v= .map (some b)/\b<w.heap.size/\w.heap[b]? =some (.map d cl)/\Qw w Z i f j g d.toList es:=by
 unfold B4n at a;split at a
 . rename_i o;split at a
   . rename_i r s t u n l;split at a
     . rename_i g;have i:=h.locs o;rw[l]at i;obtain⟨b,d,cl,e,_,_,f,_,j⟩:=i;cases g;cases a;exact .inr ⟨b,d,cl,(show v= _ from k).trans e,(rT.1 f).1,f,j⟩
     . cases a
   . rename_i r s t u n x q l;split at a
     . rename_i g;have i:=h.locs o;rw[l]at i;obtain⟨b,d,cl,e,_,_,f,⟨_,j⟩,_⟩:=i;cases g;cases a;exact .inr ⟨b,d,cl,(show v= _ from k).trans e,(rT.1 f).1,f,j⟩
     . cases a
   . cases a
 . rename_i t n;split at a
   . rename_i g;subst g;cases a;rcases k with⟨e,i⟩ | ⟨b,d,cl,e,f,g,_,j⟩
     . simp only[sI,vJ]at e;exact .inl ⟨e,i⟩
     . simp only[sI,vJ]at e;exact .inr ⟨b,d,cl,e,h.zlt b f,g,j⟩
   . cases a
 . cases a;exact .inl ⟨k.1,rfl⟩
 . cases a
def CW {a:Ty} {b:Type} {Rk:Value->a.den->Prop} {Rv:Value->b->Prop} {k:a.den} :∀ {l:List (a.den×b)} {es:List MapEntry} {i:Nat},R6 Rk Rv es l->(N4 a k l i=none/\K9 a k l=none)\/∃j e y,N4 a k l i=some (i+j)/\es[j]? =some e/\K9 a k l=some y/\Rv e.val y/\Rk e.key ((l[j]?).map (·.1) |>.getD k)/\FV a k ((l[j]?).map (·.1) |>.getD k)=true
 | [],_,_,_=> .inl ⟨rfl,rfl⟩
 |x::l,_,i,⟨e,f,d,b,c,h⟩=>by
  subst d;simp only[N4,K9];cases d:FV a k x.1 with
  |true=>exact .inr ⟨0,e,x.2,rfl,rfl,rfl,c,b,d⟩
  |false=>
   rcases CW (i:=i+1) h with⟨a,b⟩ | ⟨j,c,y,a,b,d,f,g⟩
   . exact .inl ⟨a,b⟩
   . exact .inr ⟨j+1,c,y,by rw[rD,a,uG,vV 1 j],by simpa using b,d,f,by simpa using g⟩
def nI {P:Program} {T:TypeId} {z:Value} (h:Ho P T=some z) (w':World):(zeroValue T).run P w'= .ok z w':=by
 unfold Ho at h;cases a:P.info? T with
 |none=>simp[a]at h
 |some i=>simp only[a,vT]at h;simp[zeroValue,typeInfo,a,h]
def lI (h:B7 za w0 st E w Z B) (F:H3 cx.P cx.tys=true) (j:P8 E ctx) {T:TypeId} {x ix:Operand} {g:Bool} (b:VO cx st ctx T x ix g=some (φ,d)) (O:PS φ):Ye cx.P st E w Z B ty (.lookup T x ix g) d:=by
 simp only[VO,qH,bind_some]at b;obtain⟨ti,z,A,⟨a0,G,a⟩,f,c,b⟩:=b;have v:=h.c1 j (bind_some.2 ⟨a0,G,a⟩);obtain⟨t,_⟩:=h.ev j c;split at b
 . rename_i a o n c r;simp only[bind_some]at b;obtain⟨es,D,k,u,b⟩:=b;have X:(∃Q,c= .sl Q/\g=false/\n=false/\φ=some (K9 o k es=none)/\d=one1 (.raw (.slice none 0 0)))\/(Rn c=true/\some (φ,d)=some ((none:Option Prop),bif g then DV.tup [⟨n,explode c ((K9 o k es).getD c.dflt)⟩,⟨false,[.val .bool (K9 o k es).isSome]⟩]else .one ⟨n,explode c ((K9 o k es).getD c.dflt)⟩)):=by
    cases a:ti.rows&&C1t A&&B8o c&& !g&& !n with
    |true=>
     simp only[a,qR]at b;cases b;simp only[qC,rP]at a;cases c<;>simp[B8o]at a;exact .inl ⟨_,rfl,a.1.2,a.2,rfl,rfl⟩
    |false=>
     simp only[a,rD]at b;cases a:Rn c with
     |false=>simp[a]at b
     |true=>simp only[a,qR]at b;exact .inr ⟨rfl,b.symm⟩
   have y:Rn c=true:=by
    rcases X with⟨Q,rfl,_⟩ | ⟨h,_⟩
    . rfl
    . exact h
   obtain⟨N,s,a,f⟩:=Vq (B8 F z) r;have r:=Ej t u;obtain⟨z,H,I⟩:=Gb a;have M:Bb n c w Z z c.dflt:=by
    have a:=MB (w:=w) (Z:=Z) y;rw[<-I]at a;unfold MA at f;rw[H]at f;cases z with
    |agg t=>cases n<;>simp at f;exact⟨t.toList,by simp,a⟩
    |tuple _=>simp at f
    | _=>cases n<;>simp at f<;>exact a
   have a3:∃u t,(∀a,R7 w a->(Instr.lookup T (Gw.ev E x) (Gw.ev E ix) g).run cx.P a= .ok (if g then .tuple #[u, .bool t]else u) a)/\Bb n c w Z u ((K9 o k es).getD c.dflt)/\t=(K9 o k es).isSome/\(t=false->u=z):=by
    rcases A2a h v.1 D with⟨e,n⟩ | ⟨y,U,R,e,Y,W,J⟩
    . refine⟨z,false,fun a _=> ?_,by rw[n];exact M,by rw[n];rfl,fun _=>rfl⟩;have n:=fun em=>Ri s r a em
      have v:=Zf (Rv:=fun _ (_:c.den)=>True) s r a (l:= []) (es:= []) rfl;unfold Instr.lookup;simp only[Sem.run_bind,run_underlying N,Result.andThen_ok,e,Sem.run_pure,n,v,N4,g1p,nI H]
    . rcases CW (k:=k) (i:=0) J with⟨D,F⟩ | ⟨c,a1,a4,D,F,V,a2,_⟩
      . refine⟨z,false,fun a c=> ?_,by rw[F];exact M,by rw[F];rfl,fun _=>rfl⟩;have n:=fun em=>Ri s r a em
        have v:=Zf s r a J;have M:(getObj y).run cx.P a= .ok (.map U R) a:=by simp[getObj,Sem.run,c.block y Y,W]
        unfold Instr.lookup;simp only[Sem.run_bind,run_underlying N,Result.andThen_ok,e,Sem.run_pure,M,n,v,D,g1p,nI H]
      . refine⟨a1.val,true,fun a c=> ?_,by rw[V];exact a2,by rw[V];rfl,fun V=>(by cases V)⟩;have n:=fun em=>Ri s r a em
        have v:=Zf s r a J;have M:(getObj y).run cx.P a= .ok (.map U R) a:=by simp[getObj,Sem.run,c.block y Y,W]
        rw[sE]at D;unfold Instr.lookup;simp only[Sem.run_bind,run_underlying N,Result.andThen_ok,e,Sem.run_pure,M,n,v,D,vT,F,vR]
   obtain⟨u,t,n,r,s,v⟩:=a3;rcases X with⟨Q,rfl,rfl,rfl,rfl,rfl⟩ | ⟨_,b⟩
   . have O:K9 o k es=none:=O;have o:u= .slice none 0 0:=by
      rw[v (by rw[s,O];rfl)];unfold MA at f;rw[H]at f;cases z with
      |agg v=>simp at f
      |tuple _=>simp at f
      |slice f v A=>simp[Dl,Value.cells]at I;obtain⟨rfl,rfl,rfl⟩:=I;rfl
      | _=>simp[Dl,Value.cells]at I
     refine⟨u,fun a c=>fun _ _ _ _=> ?_,fun E'=> ?_,fun A j=> ?_⟩
     . have:=n a (c rfl);simp at this;simp[execOp,this]
     . rw[o];exact⟨_,[],rfl,⟨rfl,rfl⟩,rfl⟩
     . simp at j;subst j;trivial
   cases g with
   |true=>
    simp only[qR]at b;cases b;refine⟨.tuple #[u, .bool t],fun a c=>fun _ _ _ _=> ?_,fun E'=>⟨[u, .bool t],rfl,u,_,rfl,Bb.explode r,_,_,rfl,⟨_,[],rfl,by rw[s];rfl,rfl⟩,rfl⟩,fun a0 G=> ?_⟩
    . simp[execOp,n a (c rfl)]
    . simp at G;rcases G with rfl|rfl
      . exact E2
      . intro A j;simp at j;subst j;trivial
   |false=>
    simp only[rD]at b;cases b;refine⟨u,fun a c=>fun _ _ _ _=> ?_,fun E'=>Bb.explode r,E2⟩;simp[execOp,n a (c rfl)]
 . cases b
def B0n (h:B7 za w0 st E w Z B) (c:P8 E ctx) {fn:Fn} {first b:List Operand} (a:B0m st ctx fn first b=some (φ,d)):Ye cx.P st E w Z B ty (.makeFunc fn first.toArray b.toArray) d:=by
 unfold B0m at a;split at a
 . simp only[qH,bind_some]at a;obtain⟨i,f,g,b,a⟩:=a;cases a;exact B8z h c f b
 . cases a
def Un {k:IntKind} {a b:Int} (c:NH k a) (d:NH k b):NH k (max a b)/\NH k (min a b):=by unfold NH at*;omega
def RC.int {k:IntKind} {a:Int} {v:Value} (h:RC w Z B (.val (.int k) a) v):v= .int k a/\NH k a:=by
 obtain⟨b,c⟩:=h;simp only[sI,vJ]at b;exact⟨b,c⟩
def eQ (h:B7 za w0 st E w Z B) (O:H3 cx.P cx.tys=true) (f:P8 E ctx) {b:Builtin} {args:List Operand} {ts:List TypeId} (a:MW cx st ctx b args ts=some (φ,d)):Ye cx.P st E w Z B ty (.call ⟨.builtin b,args.toArray,ts.toArray⟩) d:=by
 unfold MW at a;split at a
 . simp only[qH,bind_some]at a;obtain⟨ti,N,u,⟨s,j,i⟩,U,J,a⟩:=a;have g:=h.c1 f (bind_some.2 ⟨s,j,i⟩);split at a
   . cases a
   . rename_i V F I;cases a;refine B8u h g.1 J (EA (B8 O N) F).1 (fun k H=> ?_);subst H;exact I _ rfl
   . cases a
 . simp only[qH,bind_some]at a;obtain⟨u,⟨s,j,i⟩,x,⟨t,o,n⟩,a⟩:=a;have g:=h.c1 f (bind_some.2 ⟨s,j,i⟩);have l:=h.c1 f (bind_some.2 ⟨t,o,n⟩);split at a
   . rename_i k v r b;cases c:decide (k=r)with
     |false=>simp[c]at a
     |true=>
      simp only[c,qR]at a;cases a;have:=qA c;subst this;have y:=RC.int g.1;have z:=RC.int l.1;exact Im (fun A _=>C0f y.1 z.1) ⟨rfl,(Un y.2 z.2).1⟩ trivial
   . cases a
 . simp only[qH,bind_some]at a;obtain⟨u,⟨s,j,i⟩,x,⟨t,o,n⟩,a⟩:=a;have g:=h.c1 f (bind_some.2 ⟨s,j,i⟩);have l:=h.c1 f (bind_some.2 ⟨t,o,n⟩);split at a
   . rename_i k v r b;cases c:decide (k=r)with
     |false=>simp[c]at a
     |true=>
      simp only[c,qR]at a;cases a;have:=qA c;subst this;have y:=RC.int g.1;have z:=RC.int l.1;exact Im (fun A _=>C0h y.1 z.1) ⟨rfl,(Un y.2 z.2).2⟩ trivial
   . cases a
 . simp only[qH,bind_some]at a;obtain⟨u,⟨s,j,i⟩,x,⟨t,o,n⟩,T,⟨R,M,G⟩,a⟩:=a;have g:=h.c1 f (bind_some.2 ⟨s,j,i⟩);have l:=h.c1 f (bind_some.2 ⟨t,o,n⟩);have D:=h.c1 f (bind_some.2 ⟨R,M,G⟩);split at a
   . rename_i k v r b Q u;cases c:decide (k=r)&&decide (k=Q)with
     |false=>simp only[c,rD]at a;cases a
     |true=>
      simp only[c,qR]at a;cases a;simp only[qC,rR]at c;obtain⟨rfl,rfl⟩:=c;have y:=RC.int g.1;have z:=RC.int l.1;have A:=RC.int D.1;exact Im (fun W _=>C0g y.1 z.1 A.1) ⟨rfl,(Un (Un y.2 z.2).1 A.2).1⟩ trivial
   . cases a
 . cases a
def DT (h:B7 za w0 st E w Z B) (c:H3 cx.P cx.tys=true) (b:P8 E ctx) {op:Op} (a:Zy cx st ctx op=some (φ,d)) (f:PS φ):Ye cx.P st E w Z B ty op d:=by
 unfold Zy at a;split at a
 . exact(A2b h b a).1
 . exact(A2b h b a).2
 . exact A5d h b a
 . exact B2p h b a
 . exact A3k h c b a f
 . exact fE h a
 . exact UW h c b a
 . exact oT h c b a
 . exact A4r h c b a
 . exact A9i h c b a f
 . exact oW h c b a f
 . exact lI h c b a f
 . exact A0e h c b a f
 . exact A3x h c b a
 . rename_i T f;have:=oK (ty:=ty) h c b a;simpa using this
 . exact B0s h b a
 . have:=B0n (cx:=cx) (ty:=ty) h b a;simpa using this
 . have:=eQ (ty:=ty) h c b a;simpa using this
 . cases a
end
def B2f (sz:Nat) (lo a:Int):C->C
 | .val (.sl t) l=>bif Nat.beq sz t.size then .val (.sl t) ((l.take a.toNat).drop lo.toNat)else .dead
 | _=> .dead
def Za (k:Nat) (a:C):C->C
 | .win j sz d b=>bif Nat.beq j k then B2f sz d b a else .win j sz d b
 | .row j=>bif Nat.beq j k then a else .row j
 | .mp j=>bif Nat.beq j k then a else .mp j
 |c=>c
def fI (k:Nat) (a:C) (s:SV):SV:=⟨s.agg,s.cs.map (Za k a)⟩
def ER (k:Nat) (a:C):DV->DV
 | .one s=> .one (fI k a s)
 | .tup b=> .tup (b.map (fI k a))
 | .cnd t b s=> .cnd t b (fI k a s)
 | .dead=> .dead
def fH (k:Nat) (a:C):LC->LC
 | .box T b=> .box T (b.map (Za k a))
 |x=>x
def ZP (k:Nat):C->Bool
 | .win j _ _ _=>Nat.beq j k
 | .row j=>Nat.beq j k
 | .mp j=>Nat.beq j k
 | _=>false
def Vz (k:Nat):DV->Bool
 | .one s=>s.cs.any (ZP k)
 | .tup a=>a.any fun s=>s.cs.any (ZP k)
 | .cnd _ _ s=>s.cs.any (ZP k)
 | .dead=>false
def VB (k:Nat):LC->Bool
 | .box _ a=>a.any (ZP k)
 | _=>false
def mapV {a:Type} (p:a->Bool) (f:a->a) (g:Nat):List (Nat×Nat×a)->List (Nat×Nat×a)
 | []=> []
 | (s,x)::l=>(s,bif p x.2 then(g,f x.2)else x)::mapV p f g l
def CX {a:Type} (p:a->Bool) (f:a->a) (g:Nat) (d:Nat×a) (b:p d.2=false) (q:Nat):∀l:List (Nat×Nat×a),find d q (mapV p f g l)=bif p (find d q l).2 then(g,f (find d q l).2)else find d q l
 | []=>by simp[mapV,find,b]
 | (s,x)::l=>by
  simp only[mapV,find,CX p f g d b q l];cases Nat.beq s q<;>rfl
def Zd {k:Nat} {a:C} :∀ {cs:List C},cs.any (ZP k)=false->cs.map (Za k a)=cs
 | [],_=>rfl
 |c::cs,h=>by
  simp only[yB,rG]at h;rw[rZ,Zd h.2];congr 1;cases c with
  |row j=>simp only[ZP]at h;simp only[Za,h.1,rD]
  |mp j=>simp only[ZP]at h;simp only[Za,h.1,rD]
  |win j _ _ _=>simp only[ZP]at h;simp only[Za,h.1,rD]
  | _=>rfl
def NG {k:Nat} {a:C} {d:DV} (h:Vz k d=false):ER k a d=d:=by
 cases d with
 |one s=>simp only[ER,fI,Zd h]
 |cnd t b s=>simp only[ER,fI,Zd h]
 |dead=>rfl
 |tup a=>
  simp only[ER];congr 1;simp only[Vz]at h
  induction a with
  |nil=>rfl
  |cons s a b=>
   simp only[yB,rG]at h;rw[rZ,b h.2];congr 1;simp only[fI,Zd h.1]
def bU {k:Nat} {a:C} {l:LC} (h:VB k l=false):fH k a l=l:=by
 cases l with
 |box T a=>simp only[fH,Zd h]
 | _=>rfl
def St.freeze (a:St) (k:Nat) (b:C):St:=⟨mapV (Vz k) (ER k b) (a.ct+1) a.sl,mapV (VB k) (fH k b) (a.ct+1) (put k (a.ct+1, .none) a.lc),a.nx,a.ct+1,a.nm,a.fr.map (mapV (Vz k) (ER k b) (a.ct+1))⟩
def St.eS_freeze (a:St) (k:Nat) (b:C) (s:Nat):(a.freeze k b).eS s=bif Vz k (a.S s)then(a.ct+1,ER k b (a.S s))else a.eS s:=CX _ _ _ _ rfl _ _
def St.S_freeze (a:St) (k:Nat) (b:C) (s:Nat):(a.freeze k b).S s=ER k b (a.S s):=by
 show((a.freeze k b).eS s).2= _;rw[St.eS_freeze];cases h:Vz k (a.S s)with
 |true=>rfl
 |false=>exact(NG h).symm
def St.eL_freeze (a:St) (k:Nat) (b:C) (q:Nat):(a.freeze k b).eL q=bif VB k (if q=k then(a.ct+1,LC.none)else a.eL q).2 then(a.ct+1,fH k b (if q=k then(a.ct+1,LC.none)else a.eL q).2)else(if q=k then(a.ct+1,LC.none)else a.eL q):=by
 show find (0, .none) q (mapV (VB k) (fH k b) (a.ct+1) (put k (a.ct+1, .none) a.lc))= _;rw[CX _ _ _ _ rfl,Yz];rfl
def St.L_freeze (a:St) (k:Nat) (b:C) (q:Nat):(a.freeze k b).L q=fH k b (if q=k then .none else a.L q):=by
 show((a.freeze k b).eL q).2= _;rw[St.eL_freeze];have e:(if q=k then(a.ct+1,LC.none)else a.eL q).2=if q=k then LC.none else a.L q:=by split<;>rfl
 rw[e];cases h:VB k (if q=k then LC.none else a.L q)with
 |true=>rfl
 |false=>rw[rD,e];exact(bU h).symm
def bS {w:World} {v:Value} {b k:Nat} {a:C} {l:LC} :A9 w v (fH k a l) b↔A9 w v l b:=by cases l<;>exact yF
section
variable {za:Zn} {w0 w w':World} {Z:Nat->Prop} {B:Nat->Value} {st:St} {E:F9} {n:Nat}
section frz
variable {k:Nat} {c':C} (hc':∀v,v=B k->RC w Z B c' v) (hr':Ch n c')
include hc' in
theorem B3z {c:C} {v:Value} (h:RC w Z B c v):RC w Z B (Za k c' c) v:=by
 cases c with
 |row j=>
  simp only[Za];cases a:Nat.beq j k with
  |true=>have:=qE a;subst this;exact hc' v h
  |false=>exact h
 |mp j=>
  simp only[Za];cases a:Nat.beq j k with
  |true=>have:=qE a;subst this;exact hc' v h
  |false=>exact h
 |win j sz b a=>
  simp only[Za];cases a:Nat.beq j k with
  |true=>
   have:=qE a;subst this;have a:=hc' (B j) rfl;simp only[qR];unfold B2f;split
   . rename_i t l;cases b:Nat.beq sz t.size with
     |false=>trivial
     |true=>
      have:=qE b;subst this;obtain⟨j,n,l,g,s,t,b,d,f,o,r,i⟩:=h;rw[g]at a;rw[i];exact A2p a b d f
   . trivial
  |false=>exact h
 | _=>exact h
include hr' in
theorem A8s {c:C} (h:Ch n c):Ch n (Za k c' c):=by
 cases c with
 |row j=>
  simp only[Za];cases Nat.beq j k with
  |true=>exact hr'
  |false=>exact h
 |mp j=>
  simp only[Za];cases Nat.beq j k with
  |true=>exact hr'
  |false=>exact h
 |win j sz b a=>
  simp only[Za];cases Nat.beq j k with
  |true=>
   simp only[qR];unfold B2f;split
   . cases Nat.beq sz _ <;>trivial
   . trivial
  |false=>exact h
 | _=>exact h
include hc' in
theorem JR:∀ {cs:List C} {vs:List Value},Dm w Z B cs vs->Dm w Z B (cs.map (Za k c')) vs
 | [],_,h=>h
 | _:: _,_,⟨v,c,e,a,b⟩=>⟨v,c,e,B3z hc' a,JR b⟩
include hr' in
theorem CY {cs:List C} (h:∀c∈cs,Ch n c):∀c∈cs.map (Za k c'),Ch n c:=fun c d=>by
 obtain⟨a,b,rfl⟩:=tA.1 d;exact A8s hr' (h a b)
include hc' in
theorem fJ:∀ {s:SV} {v:Value},RS w Z B s v->RS w Z B (fI k c' s) v
 | ⟨true,_⟩,_,⟨a,e,h⟩=>⟨a,e,JR hc' h⟩
 | ⟨false,_⟩,_,h=>JR hc' h
include hc' in
theorem kR:∀ {ss:List SV} {vs:List Value},Qv w Z B ss vs->Qv w Z B (ss.map (fI k c')) vs
 | [],_,h=>h
 | _:: _,_,⟨v,c,e,a,b⟩=>⟨v,c,e,fJ hc' a,kR b⟩
include hc' in
theorem A1l:∀ {d:DV} {v:Value},RD w Z B E d v->RD w Z B E (ER k c' d) v
 | .one _,_,h=>fJ hc' h
 | .tup _,_,⟨a,e,h⟩=>⟨a,e,kR hc' h⟩
 | .cnd _ _ _,_,h=>h.imp (fun⟨a,b⟩=>⟨a,fJ hc' b⟩) id
 | .dead,_,_=>trivial
include hr' in
theorem kQ:∀ {d:DV},Ny n d->Ny n (ER k c' d)
 | .one _,h=>CY hr' h
 | .tup a,h=>fun s b=>by
  obtain⟨c,a,rfl⟩:=tA.1 b;exact CY hr' (h c a)
 | .cnd _ _ _,h=>CY hr' h
 | .dead,_=>trivial
theorem kS (s:Nat) (f:List (Nat×Nat×DV)) (g:Nat):(find (0, .dead) s (mapV (Vz k) (ER k c') g f)).2=ER k c' (find (0, .dead) s f).2:=by
 rw[CX _ _ _ _ rfl];cases h:Vz k (find (0,DV.dead) s f).2 with
 |true=>rfl
 |false=>exact(NG h).symm
include hc' in
theorem A1m {g:Nat} :∀ {es:List F9} {fr:List (List (Nat×Nat×DV))},RF w Z B es fr->RF w Z B es (fr.map (mapV (Vz k) (ER k c') g))
 | [],[],_=>trivial
 | _:: _,_:: _,⟨a,b⟩=>⟨fun s=>by rw[kS];exact A1l hc' (a s),A1m b⟩
 | [],_:: _,h=>h.elim
 | _:: _,[],h=>h.elim
include hr' in
theorem A8t {g:Nat} {fr:List (List (Nat×Nat×DV))} (h:iX n fr):iX n (fr.map (mapV (Vz k) (ER k c') g)):=fun f c s=>by
 obtain⟨a,b,rfl⟩:=tA.1 c;rw[kS];exact kQ hr' (h a b s)
include hr' in
theorem A8u:∀ {d:LC},Ld n d->Ld n (fH k c' d)
 | .box _ _,h=>CY hr' h
 | .none,_=>trivial
 | .row _ _ _,_=>trivial
 | .map _ _ _ _ _,_=>trivial
 | .rows _ _ _ _ _ _,h=>h
 | .al _,h=>h
 | .sbox _ _ _,h=>h
 | .iter _ _ _ _ _ _,h=>h
 | .mapE _ _ _ _ _ _ _,h=>h
 | .nest _ _ _ _ _ _,h=>h
 | .itM _ _ _ _ _ _ _ _,h=>h
end frz
def Ru {a e sz m:Nat} {v:Value} {xs:List Value} {b c:Nat} (f:w.ownsRow a e sz v m xs) (d:v= .slice (some ⟨b,0,none⟩) m c):J6 w ⟨b,0,none⟩ xs:=fun j u a=>by
 subst d;rcases f.2 with⟨c,_⟩ | ⟨j,h,i,c,_,d,_,_,_,g⟩
 . cases c
 . cases c;rw[K5,sE];simp only[World.cell?,d];rw[<-g,wE]at a;split at a
   . simpa using a
   . cases a
def Cd {t:Ty} {a e:Nat} {v:Value} {l:List t.den} {xs:List Value} (c:w.ownsRow a e t.size v l.length xs) (h:F8 (C4 t w Z) xs l) (k:∀b,v.ownBlock=some b->Z b):C4 (.sl t) w Z [v] l:=by
 rcases c.2 with⟨a,i⟩ | ⟨g,d,n,a,_,o,f,j,_⟩
 . have:l= []:=qO i;subst this;subst a;exact⟨none,0,rfl,qZ _,rM _,fun _=>rfl, .inl rfl⟩
 . exact⟨some ⟨g,0,none⟩,d,by rw[a],f,j,fun i=>(by cases i), .inr ⟨g,0,xs,rfl,k g (by rw[a];rfl),Ru c a,h⟩⟩
def Ze {t:Ty} {k e e':Nat} {ls:List (List t.den)} {al:List (Nat×Nat)} {d:Option Nat} {xs:List Value} (c:w.ownsRow 0 e 1 (B k) ls.length xs) {i b:Nat} {x:Value} (n:Kb d i=false) (a:xs[i]? =some x) (j:root x=some b):A9 w (B k) (.rows t e e' ls al d) b:=by
 refine .inr ?_;rcases c.2 with⟨d,o⟩ | ⟨h,f,g,d,_,l,s,_,u,r⟩
 . have:=c.1;rw[o]at this;have o:xs= []:=qO (by omega);rw[o]at a;cases a
 . have o:i<ls.length:=by have:=(sB.1 a).1;have s:=c.1;omega
   refine⟨h,_,f,g,e,i,x,d,l,o,n, ?_,j⟩;rw[<-r,rS (by omega)]at a;simpa using a
def UO {b:Type} {R:List Value->b->Prop} :∀ {l:List b} {cs:List Value},cs.length=l.length->(∀(i:Nat) (a:b) (x:Value),l[i]? =some a->cs[i]? =some x->R [x] a)->F8 R cs l
 | [],cs,h,_=>qO h
 |a::l,[],h,_=>by simp at h
 |a::l,x::cs,h,b=>⟨[x],cs,rfl,b 0 a x rfl rfl,UO (by simpa using h) fun i a x c d=>b (i+1) a x (by simpa using c) (by simpa using d)⟩
def XH {t:Ty} {e e' i b n:Nat} {v x:Value} {ls:List (List t.den)} {al:List (Nat×Nat)} {xs:List Value} (c:w.ownsRow 0 e 1 v n xs) (a:xs[i]? =some x) (j:root x=some b):A9 w v (.rows t e e' ls al none) b:=by
 refine .inr ?_;rcases c.2 with⟨d,l⟩ | ⟨h,f,g,d,_,k,r,_,s,o⟩
 . have:=c.1;rw[l]at this;have l:xs= []:=qO (by omega);rw[l]at a;cases a
 . have l:i<n:=by have:=(sB.1 a).1;have r:=c.1;omega
   refine⟨h,_,f,g,e,i,x,d,k,l,rfl, ?_,j⟩;rw[<-o,rS (by omega)]at a;simpa using a
def dA {Z':Nat->Prop} {t:Ty} {e e':Nat} {v:Value} {ls:List (List t.den)} {al:List (Nat×Nat)} (h:Kk w Z t e e' v ls) (l:∀b,Z b->Z' b) (f:∀b,A9 w v (.rows t e e' ls al none) b->Z' b):C4 (.sl (.sl t)) w Z' [v] ls:=by
 obtain⟨g,a,j,c,d⟩:=h;refine Cd (t:= .sl t) a (UO (by have:=a.1;omega) fun n o x k g=> ?_) (fun b c=>f b (.inl ((F3 a).trans c)));obtain⟨r,d,i⟩:=j n o x k g;exact Cd d (i.mono fun _ _=>C4.mono l (fun _ _=>rfl)) (fun b c=>f b (XH a g ((F3 d).trans c)))
def mI {U Z':Nat->Prop} {t:Ty} {k e e':Nat} {ls:List (List t.den)} {al:List (Nat×Nat)} (h:RL U w Z B k (.rows t e e' ls al none)) (c:∀b,Z b->Z' b) (a:∀b,A9 w (B k) (.rows t e e' ls al none) b->Z' b):C4 (.sl (.sl t)) w Z' [B k] ls:=dA h.rowsR c a
def Kk.wf {t:Ty} {e e':Nat} {v:Value} {ls:List (List t.den)} (h:Kk w Z t e e' v ls):(Ty.sl (Ty.sl t)).wf ls:=C4.wf (dA (al:= []) h (Z':=fun _=>True) (fun _ _=>trivial) (fun _ _=>trivial))
def B7.freeze (h:B7 za w0 st E w Z B) {k:Nat} {f:C} (a:st.nm<=k) (l:RC w (fun b=>Z b\/A9 w (B k) (st.L k) b) B f (B k)) (i:∀n,Ch n f):B7 za w0 (st.freeze k f) E w (fun b=>Z b\/A9 w (B k) (st.L k) b) B:=by
 have c:B7 za w0 (st.setL k .none) E w (fun b=>Z b\/A9 w (B k) (st.L k) b) B:=by
  refine(h.drop k).keep h.ext (qZ _) (fun _ _=>rfl) (fun _=> .inl) (fun b d=> ?_);rcases d with d|d
  . exact .inl d
  . obtain⟨g,j,_⟩:=(h.locs k).root d;refine .inr ⟨j, ?_,fun q a=> ?_⟩
    . rcases g with g|g
      . exact g.2
      . have:=h.nms.1;omega
    . rw[St.L_setL]at a;by_cases g:q=k
      . rw[qS g]at a;exact a.elim
      . rw[qL g]at a;exact h.disj q k b g a d
 have d:∀v,v=B k->RC w (fun b=>Z b\/A9 w (B k) (st.L k) b) B f v:=fun v hv=>by subst hv;exact l
 refine⟨c.ext,c.zlt,fun s=> ?_,fun q=> ?_,fun q x b u g j=> ?_,fun s=> ?_,fun q=> ?_,fun q a=> ?_,c.bone,c.zin,c.nms,c.bfix,⟨c.mrk.1,fun q b l f=>c.mrk.2 q b l (by rw[St.L_freeze,bS, <-St.L_setL]at f;exact f)⟩,A1m d c.frs,A8t (i _) c.frf⟩
 . rw[St.S_freeze];exact A1l d (c.slots s)
 . rw[St.L_freeze, <-St.L_setL];have:=c.locs q;cases a:(st.setL k .none).L q with
   |box T f=>
    rw[a]at this;obtain⟨b,y,f,l,o,r,t⟩:=this;exact⟨b,y,f,l,o,r,JR d t⟩
   |none=>trivial
   |row _ _ _=>rw[a]at this;exact this
   |map _ _ _ _ _=>rw[a]at this;exact this
   |rows _ _ _ _ _ _=>rw[a]at this;exact this
   |al _=>trivial
   |sbox _ _ _=>rw[a]at this;exact this
   |iter _ _ _ _ _ _=>rw[a]at this;exact this
   |mapE _ _ _ _ _ _ _=>rw[a]at this;exact this
   |nest _ _ _ _ _ _=>rw[a]at this;exact this
   |itM _ _ _ _ _ _ _ _=>rw[a]at this;exact this
 . rw[St.L_freeze,bS, <-St.L_setL]at g j;exact c.disj q x b u g j
 . rw[St.S_freeze];exact kQ (i _) (c.refs s)
 . rw[St.L_freeze, <-St.L_setL];exact A8u (i _) (c.refl q)
 . rw[St.L_freeze, <-St.L_setL,c.fresh q a];rfl
def fZ {f g:Bool} {c d:Ty} {b:Nat} {a:Array MapEntry} {cl:Nat} {es:List (c.den×d.den)} (h:w.heap[b]? =some (.map a cl)) (j:MOk a cl) (i:Qw w Z f c g d a.toList es) (k:Z b):C4 (.mp f c g d) w Z [.map (some b)] es:= .inr ⟨b,a,cl,rfl,k,h,j,i⟩
def settle:St->List C->St
 |st,[]=>st
 |st, .row k::a=>match st.L k with
  | .row t _ l=>settle (bif Nat.ble st.nm k then st.freeze k (.val (.sl t) l)else st) a
  | .rows t _ _ b _ none=>settle (bif Nat.ble st.nm k then st.freeze k (.val (.sl (.sl t)) b)else st) a
  | _=>settle st a
 |st, .win k _ _ _::a=>match st.L k with
  | .row t _ l=>settle (bif Nat.ble st.nm k then st.freeze k (.val (.sl t) l)else st) a
  | _=>settle st a
 |st, .mp k::a=>match st.L k with
  | .map c d f g b=>settle (bif Nat.ble st.nm k then st.freeze k (.val (.mp c d f g) b)else st) a
  | _=>settle st a
 |st,_::a=>settle st a
def B7.settle (h:B7 za w0 st E w Z B):∀cs:List C,∃Z',B7 za w0 (settle st cs) E w Z' B:=by
 intro cs
 induction cs generalizing st Z with
 |nil=>exact⟨Z,h⟩
 |cons c cs a=>
  cases c with
  |row k=>
   simp only[Vc.settle];cases b:st.L k with
   |row t e l=>
    cases g:Nat.ble st.nm k with
    |false=>exact a h
    |true=>
     have c:=h.locs k;rw[b]at c;obtain⟨j,d,f,i⟩:=c;have i:=F3 d;exact a (h.freeze (qQ g) (Cd d (f.mono fun _ _=>C4.mono (fun _=> .inl) (fun _ _=>rfl)) (fun d c=> .inr (by rw[b];exact i.trans c))) (fun _=>trivial))
   |rows t e d f al c=>
    cases c with
    |some _=>exact a h
    |none=>
     cases d:Nat.ble st.nm k with
     |false=>exact a h
     |true=>
      have c:=h.locs k;rw[b]at c;exact a (h.freeze (qQ d) (mI c (fun _=> .inl) fun d c=> .inr (by rw[b];exact c)) (fun _=>trivial))
   | _=>exact a h
  |win k _ _ _=>
   simp only[Vc.settle];cases c:st.L k with
   |row t e l=>
    cases g:Nat.ble st.nm k with
    |false=>exact a h
    |true=>
     have b:=h.locs k;rw[c]at b;obtain⟨j,d,f,i⟩:=b;have i:=F3 d;exact a (h.freeze (qQ g) (Cd d (f.mono fun _ _=>C4.mono (fun _=> .inl) (fun _ _=>rfl)) (fun d b=> .inr (by rw[c];exact i.trans b))) (fun _=>trivial))
   | _=>exact a h
  |mp k=>
   simp only[Vc.settle];cases c:st.L k with
   |map d f g i b=>
    cases i:Nat.ble st.nm k with
    |false=>exact a h
    |true=>
     have b:=h.locs k;rw[c]at b;obtain⟨j,l,k,e,_,_,d,g,f⟩:=b;exact a (h.freeze (qQ i) (by rw[e];exact fZ d g (f.mono (fun _=> .inl) (fun _ _=>rfl)) (.inr (by rw[c];rfl))) (fun _=>trivial))
   | _=>exact a h
  | _=>exact a h
def stillB (cx:Cx) (st:St) (k:Nat):St:=match st.L k with
 | .box T a=>bif Nat.ble st.nm k then(match cx.ti T with
  |some ti=>match(settle st a).L k with
   | .box _ b=>(match Mm ti.ty b with
    |some (x,[])=>((settle st a).setL k .none).setL k (.sbox k ti.ty x)
    | _=>st)
   | _=>st
  |none=>st)else st
 | _=>st
def B7.stillB (h:B7 za w0 st E w Z B) (cx:Cx) (k:Nat):∃Z',B7 za w0 (stillB cx st k) E w Z' B:=by
 unfold Vc.stillB;split
 . rename_i T b a;cases r:Nat.ble st.nm k with
   |false=>exact⟨Z,h⟩
   |true=>
    simp only[qR];split
    . rename_i ti a;obtain⟨Z1,a⟩:=h.settle b;split
      . rename_i T' c d;split
        . rename_i x s;have i:k<(Vc.settle st b).nx:=by
           by_cases c:k<(Vc.settle st b).nx
           . exact c
           . rw[a.fresh k (by omega)]at d;cases d
          have c:=a.locs k;rw[d]at c;obtain⟨f,u,e,g,n,j,l⟩:=c;have o:∀c,A9 w (B k) ((Vc.settle st b).L k) c↔c=f:=fun c=>by
           rw[d,e];simp only[A9,root,rC];exact eq_comm
          have n:B7 za w0 ((Vc.settle st b).setL k .none) E w (fun c=>Z1 c\/A9 w (B k) ((Vc.settle st b).L k) c) B:=by
           refine(a.drop k).keep a.ext (qZ _) (fun _ _=>rfl) (fun _=> .inl) (fun c b=> ?_);rcases b with b|b
           . exact .inl b
           . obtain⟨g,t,_⟩:=(a.locs k).root b;refine .inr ⟨t, ?_,fun q d=> ?_⟩
             . rcases g with g|g
               . exact g.2
               . have g:=a.nms.1;have g:=h.nms.1;have:=qQ r;omega
             . rw[St.L_setL]at d;by_cases g:q=k
               . rw[qS g]at d;exact d.elim
               . rw[qL g]at d;exact a.disj q k c g d b
          have a:=n.addL (k:=k) (lc:= .sbox k ti.ty x) i ⟨rfl,⟨f,0,u.toList,by rw[e], .inr ((o f).2 rfl),j.cellsAt,(Gx l s).mono (fun _=> .inl) (fun _ _=>rfl)⟩,f,e⟩ (fun _ _ _ hh=>hh.elim) i (fun _ _ hh=>hh.elim);exact⟨_,a⟩
        . exact⟨Z,h⟩
      . exact⟨Z,h⟩
    . exact⟨Z,h⟩
 . exact⟨Z,h⟩
def settleO (st:St) (x:Operand):St:=match st.ev [] x with
 |some s=>settle st s.cs
 |none=>st
def B7.settleO (h:B7 za w0 st E w Z B) (x:Operand):∃Z',B7 za w0 (settleO st x) E w Z' B:=by
 unfold Vc.settleO;split
 . exact h.settle _
 . exact⟨Z,h⟩
end
section
variable {P:Program} {all:List Oper} {E:F9} {w w':World} {next:F9->World->Prop} {d:Nat} {op:Op} {ty:TypeId} {pos:String} {aft:Array Edge} {g:Option (Nat×Bool)} {v:Value}
def U9 (b:Gw.E7 P E ty op w v w') (a:E5 all ⟨some d,op,ty,pos,aft,g⟩ E=true) (h:next (upd E d v) w'):I5 P all ⟨some d,op,ty,pos,aft,g⟩ next E w:=by
 unfold I5;rw[qS a,b];exact h
def A2y (b:Gw.E7 P E ty op w v w') (a:E5 all ⟨none,op,ty,pos,aft,g⟩ E=true) (h:next E w'):I5 P all ⟨none,op,ty,pos,aft,g⟩ next E w:=by
 unfold I5;rw[qS a,b];exact h
def AT (b:Gw.PC P E ty op w w') (a:E5 all ⟨none,op,ty,pos,aft,g⟩ E=true) (h:next E w'):I5 P all ⟨none,op,ty,pos,aft,g⟩ next E w:=by
 unfold I5;rw[qS a,b];exact h
def AS {f:FuncId} {args:List Value} {Φ:Value->World->Prop} (a:Gw.A6r P E ty op w f args) (b:Gw.aT P f args w Φ) (c:E5 all ⟨some d,op,ty,pos,aft,g⟩ E=true)
 (h:∀v w',Φ v w'->next (upd E d v) w'):I5 P all ⟨some d,op,ty,pos,aft,g⟩ next E w:=by
 unfold I5;rw[qS c,a];exact Calls.mono b fun _ _ ⟨v,a,hv⟩=>⟨v,a,h _ _ hv⟩
def Sy (a:E5 all ⟨some d,op,ty,pos,aft,g⟩ E=false) (h:next (upd E d undef) w):I5 P all ⟨some d,op,ty,pos,aft,g⟩ next E w:=by
 unfold I5;rw[qL (by rw[a];simp)];exact h
end
def wrB:Op->Bool
 | .store _ _ _=>true
 | .mapUpdate _ _ _ _=>true
 | .insert _ _ _ _=>true
 | .next _ _=>true
 | .mapEntry _ _ _=>true
 | .entryStore _ _ _ _=>true
 | .call ⟨.builtin .append,_,_⟩=>true
 | .call ⟨.builtin .copy,_,_⟩=>true
 | .call ⟨.builtin .delete,_,_⟩=>true
 | .call ⟨.builtin .clear,_,_⟩=>true
 | _=>false
def Nx (c:Zn) (b:World) (k:St->Prop) (E:F9) (w:World):Prop:=∃a Z B,B7 c b a E w Z B/\k a
def iW (b:Zn) (a w:World) (wr:Bool) (k:St->Prop) (E:F9) (w':World):Prop:=(wr=false->R7 w w')/\Nx b a k E w'
def Rw (t:Ty):Nat->List (Nat×List C)->Option (List t.den)
 | _,[]=>some []
 |i,(j,a)::r=>bif Nat.beq i j then(match Mm t a with
  |some (x,[])=>(Rw t (i+1) r).map (x:: ·)
  | _=>none)else none
def settleP:St->List (Nat×Operand)->St
 |a,[]=>a
 |a,(_,x)::r=>settleP (settleO a x) r
def fP (a:St) (x:Operand):Option Int:=(a.ev [] x).bind fO
def DD:Value->Bool
 | .slice none 0 0=>true
 | _=>false
def Uk {v:Value} (h:DD v=true):v= .slice none 0 0:=by
 unfold DD at h;split at h
 . rfl
 . cases h
def UP (a:St) (t:Ty):C->Option (List t.den)
 | .val (.sl b) l=>if h:b=t then some (h▸l)else none
 | .row k=>match a.L k with
  | .row b _ l=>if h:b=t then some (h▸l)else none
  | _=>none
 | .win k sz c b=>match a.L k with
  | .row a _ l=>if h:a=t then(bif Nat.beq sz a.size then some (h▸((l.take b.toNat).drop c.toNat))else none)else none
  | _=>none
 | .raw v=>bif DD v then some []else none
 | _=>none
def OH (a:St) (t:Ty) (e:TypeId):C->Option (List t.den)
 | .row k=>match a.L k with
  | .row c b l=>if h:c=t then(bif Nat.beq b e&&Nat.ble a.nm k then some (h▸l)else none)else none
  | _=>none
 | .raw v=>bif DD v then some []else none
 | _=>none
def boxS (a:St) (d:Tmp) (T:TypeId) (cs:List C):St:=(a.newL (.box T cs)).setS d (one1 (.box a.nx 0))
def rowS (a:St) (d:Tmp) (t:Ty) (e:TypeId) (l:List t.den):St:=(a.newL (.row t e l)).setS d (one1 (.row a.nx))
def B8x (a:St) (d:Tmp) (b:Bool) (c:Ty) (f:Bool) (g:Ty):St:=(a.newL (.map b c f g [])).setS d (one1 (.mp a.nx))
def B6z (a:St) (d:Tmp) (t:Ty) (e e':TypeId) (ls:List (List t.den)):St:=(a.newL (.rows t e e' ls [] none)).setS d (one1 (.row a.nx))
def VP (cx:Cx) (a:St) (d:Tmp) (ti:TI) (n:Nat):Option St:=match ti.ty with
 | .sl (.sl t)=>(cx.ti ti.elem).map fun b=>B6z a d t ti.elem b.elem (List.replicate n [])
 | _=>none
def B2e (c:Bool) (a:Ty) (d:Bool) (b:Ty):C->Option (List (a.den×b.den))
 | .val t f=>if h:t=Ty.mp c a d b then some (h▸f:(Ty.mp c a d b).den)else none
 | .raw (.map none)=>some []
 | _=>none
def A7b (a:St) (d:Tmp) (k:Nat) (t:Ty) (e e':TypeId) (ls:List (List t.den)) (al:List (Nat×Nat)) (i:Nat):St:=((a.newL (.al k)).setL k (.rows t e e' ls ((i,a.nx)::al) none)).setS d (one1 (.row a.nx))
def dropR (a:St):C->St
 | .row k=>a.setL k .none
 | _=>a
def gD (c:C):C->Bool
 | .win k _ _ _=>match c with
  | .row j=> !(Nat.beq j k)
  | _=>true
 | .row k=>match c with
  | .row j=> !(Nat.beq j k)
  | _=>true
 | _=>true
def slT:Ty->Option Ty
 | .sl t=>some t
 | _=>none
def B7j (cx:Cx) (a:St) (d:Tmp) (T:TypeId) (x y:Operand):Option (Option Prop×St):=do
 let ti<-cx.ti T
 let t<-slT ti.ty
 let b<-(a.ev [] x).bind c1
 let f<-(a.ev [] y).bind c1
 let l<-OH a t ti.elem b
 let c<-UP a t f
 bif gD b f&&Nat.ble 1 t.size then some (some ((l.length+c.length)*ti.bytes<=140737488355328/\l.length+c.length<=9223372036854775807),rowS (dropR a b) d t ti.elem (l++c))else none
def Lw {b:Type} (l a:List b):List b:=a.take l.length++l.drop a.length
def jZ (cx:Cx) (a:St) (d:Tmp) (T:TypeId) (x y:Operand):Option St:=do
 let ti<-cx.ti T
 let t<-slT ti.ty
 let c<-(a.ev [] x).bind c1
 let b<-(a.ev [] y).bind c1
 let f<-UP a t b
 match c with
 | .row k=>match a.L k with
  | .row c e l=>if h:c=t then(bif gD (.row k) b then some ((a.setL k (.row c e (Lw l (h▸f)))).setS d (one1 (.val (.int .i64) (min (f.length:Int) (l.length:Int)))))else none)else none
  | _=>none
 | _=>none
def cF (cx:Cx) (a:St) (d:Tmp) (T:TypeId) (x:Operand):Option St:=do
 let ti<-cx.ti T
 let c<-(a.ev [] x).bind c1
 match c with
 | .elp k sz i f=>match a.L k with
  | .rows t e b c al none=>bif Nat.beq sz 1&&Nat.beq f 0&& !ti.agg then some (A7b a d k t e b c al i)else none
  | _=>none
 | _=>none
def B3q (a:St):C->St
 | .row q=>match a.L q with
  | .al k=>match a.L k with
   | .rows t e b c al none=>match PM q al with
    |some i=>bif Nat.ble a.nm k&&Nat.ble a.nm q then(a.setL k (.rows t e b c [] (some i))).setL q (.row t b (c.getD i []))else a
    |none=>a
   | _=>a
  | _=>a
 | _=>a
def detO (a:St) (x:Operand):St:=match(a.ev [] x).bind c1 with
 |some c=>B3q a c
 |none=>a
def A8l (cx:Cx) (a:St) (d:Tmp):Op->Option (Option Prop×St)
 | .box T x=>do
  let s<-a.ev [] x
  bif s.cs.all Fc then some (none,boxS a d T s.cs)else none
 | .alloc T=>do
  let ti<-cx.ti T
  some (none,boxS a d T (Ki ti.ty))
 | .buildSlice T len b=>do
  let ti<-cx.ti T
  let t<-slT ti.ty
  let c:=settleP a b.toList
  let f<-Ky c [] b.toList
  let b<-Rw t 0 f
  bif Nat.beq b.length len&&Nat.ble (len*t.size) 16777216&&Nat.ble 1 t.size then some (none,rowS c d t ti.elem b)else none
 | .makeSlice T c b=>do
  let ti<-cx.ti T
  let t<-slT ti.ty
  let l<-fP a c
  let c<-fP a b
  bif ti.rows then(VP cx a d ti l.toNat).map fun b=>(some (0<=l/\l<=c/\(ti.bytes:Int)*c<=281474976710656/\c<=9223372036854775807),b)
  else bif Rn t then some (some (0<=l/\l<=c/\(ti.bytes:Int)*c<=281474976710656/\c<=9223372036854775807),rowS a d t ti.elem (List.replicate l.toNat t.dflt))else none
 | .call ⟨.builtin .append,b,c⟩=>match b.toList,c.toList with
  | [x,y],[T,T']=>bif Nat.beq T T' then B7j cx (detO a x) d T x y else none
  | _,_=>none
 | .makeMap T r=>do
  let ti<-cx.ti T
  match ti.ty,r with
  | .mp b c f g,none=>some (none,B8x a d b c f g)
  | .mp b c f g,some o=>(fP a o).map fun _=>(none,B8x a d b c f g)
  | _,_=>none
 | .call ⟨.builtin .len,b,c⟩=>match b.toList,c.toList with
  | [x],[T]=>do
   let ti<-cx.ti T
   match ti.ty with
   | .mp f g h i=>do
    let c<-(a.ev [] x).bind c1
    let b<-B4n a f g h i c
    some (some (b.length<=9223372036854775807),a.setS d (one1 (.val (.int .i64) (b.length:Int))))
   | _=>none
  | _,_=>none
 | .load T x=>(cF cx a d T x).map fun b=>(none,b)
 | .range T x=>do
  let ti<-cx.ti T
  match ti.ty with
  | .mp b c f g=>do
   let h<-((settleO a x).ev [] x).bind c1
   let i<-B2e b c f g h
   some (none,((settleO a x).newL (.iter b c f g i none)).setS d (one1 (.box (settleO a x).nx 0)))
  | _=>none
 | .entry x=>do
  let c<-(a.ev [] x).bind c1
  match c with
  | .box k f=>match a.L k with
   | .iter b c g h _ (some y)=>bif Nat.beq f 0 then some (none,a.setS d (.tup [⟨b,explode c y.1⟩,⟨g,explode h y.2⟩]))else none
   | _=>none
  | _=>none
 | .call ⟨.builtin .copy,b,c⟩=>match b.toList,c.toList with
  | [x,y],[T,_]=>(jZ cx a d T x y).map fun b=>(none,b)
  | _,_=>none
 | _=>none
section
variable {za:Zn} {w0 w w':World} {Z Z':Nat->Prop} {B:Nat->Value} {st st':St} {E:F9} {cx:Cx} {φ:Option Prop} {d:Tmp}
def R6.len {a b:Type} {Rk:Value->a->Prop} {Rv:Value->b->Prop} :∀ {l:List (a×b)} {es:List MapEntry},R6 Rk Rv es l->es.length=l.length
 | [],_,h=>by rw[show _= _ from h];rfl
 | _:: _,_,⟨e,c,b,_,_,a⟩=>by rw[b,rI,rI,R6.len a]
def Fb (h:B7 za w0 st E w Z B) {k:Nat} (a:live (st.L k)):k<st.nx:=by
 by_cases b:k<st.nx
 . exact b
 . rw[h.fresh k (by omega)]at a;exact a.elim
def Zu {a b e sz n:Nat} {v:Value} {xs:List Value} (h:w.ownsRow a e sz v n xs) (i:b<=a):w.ownsRow b e sz v n xs:=by
 refine⟨h.1, ?_⟩;rcases h.2 with h| ⟨g,a,b,c,d,f⟩
 . exact .inl h
 . exact .inr ⟨g,a,b,c,qY i d,f⟩
def pU {c a e sz n:Nat} {v:Value} {xs:List Value} (h:w.ownsRow c e sz v n xs) (i:∀b,v.ownBlock=some b->a<=b):w.ownsRow a e sz v n xs:=by
 refine⟨h.1, ?_⟩;rcases h.2 with h| ⟨g,c,d,a,j,f⟩
 . exact .inl h
 . exact .inr ⟨g,c,d,a,i g (by rw[a];rfl),f⟩
def B7.newBox (h:B7 za w0 st E w Z B) (d:Tmp) {T:TypeId} {cs:List C} {vs:Array Value} (o:Dm w Z B cs vs.toList) (i:∀c∈cs,Ch st.nx c):
 ∃B',B7 za w0 (boxS st d T cs) (upd E d (.pointer (some ⟨w.heap.size,0,none⟩))) (w.alloc (.cells vs T)) Z B':=by
 have f:R7 w (w.alloc (.cells vs T)):=R7.alloc w _;have j:=h.more (Z':=Z) f (fun _=>id) (fun _=> .inl);have g:∀b,Z b->b<w.heap.size:=h.zlt;have r:O3 Z w (w.alloc (.cells vs T)):=fun b a=>f.block b (g b a)
 have l:=j.new (v:= .pointer (some ⟨w.heap.size,0,none⟩)) (lc:= .box T cs) ⟨w.heap.size,vs,C2 _ _ _, .inl ⟨h.nms.2,h.ext.size⟩,fun hz=>absurd (g _ hz) (xO _),Li w vs T,
  Dm.mono (n:=st.nx) (fun _=>id) r (fun k g=>C3 _ _ _ _ (tT g)) i o⟩
  (fun k b a g=>by
   simp only[A9,root,rC]at a;have:=((h.locs k).root (h.ft f g)).2.1;omega)
  (fun c f=>(i c f).le (uT _)) rfl (fun b _ a=>by simp only[A9,root,rC]at a;have:=h.mrk.1;omega)
 refine⟨_,l.setS d (x:=one1 (.box st.nx 0)) ⟨_,[],rfl,⟨w.heap.size,C2 _ _ _,rfl⟩,rfl⟩ (fun c f=> ?_)⟩;simp at f;subst f;exact rU _
def B7.newRowE (h:B7 za w0 st E w' Z B) (d:Tmp) {t:Ty} {e:TypeId} {l:List t.den} {v:Value} {xs:List Value} (c:w'.ownsRow w0.heap.size e t.size v l.length xs) (j:F8 (C4 t w' Z) xs l) (f:∀b,v.ownBlock=some b->¬Z b/\∀k,¬A9 w' (B k) (st.L k) b) (n:∀b,za.k0<=st.nx->v.ownBlock=some b->za.b0<=b):
 B7 za w0 (rowS st d t e l) (upd E d v) w' Z (upd B st.nx v):=by
 have g:=F3 c;have o:v.oneCell'=true:=by rcases c.2 with⟨hv,_⟩ | ⟨_,_,_,hv,_⟩<;>rw[hv]<;>rfl
 have i:=h.new (v:=v) (lc:= .row t e l) ⟨xs,by rw[C2];exact Zu c (rM _),j,fun b a=>by rw[C2]at a;exact⟨.inl ⟨h.nms.2,(World.ownsRow.lt c b a).1⟩,(f b a).1⟩⟩
  (fun k b a c=>(f b (g.symm.trans a)).2 k c) trivial o (fun b j a=>n b j (g.symm.trans a))
 refine i.setS d (x:=one1 (.row st.nx)) ⟨_,[],rfl,(C2 _ _ _).symm,rfl⟩ (fun c a=> ?_);simp at a;subst a;exact rU _
def B7.newRow (h:B7 za w0 st E w' Z B) (d:Tmp) {t:Ty} {e:TypeId} {l:List t.den} {v:Value} {xs:List Value} (g:w'.ownsRow w0.heap.size e t.size v l.length xs) (a:F8 (C4 t w' Z) xs l) (f:∀b,v.ownBlock=some b->¬Z b/\∀k,¬A9 w' (B k) (st.L k) b) (c:∀b,za.k0<=st.nx->v.ownBlock=some b->za.b0<=b):
 ∃B',B7 za w0 (rowS st d t e l) (upd E d v) w' Z B':=⟨_,h.newRowE d g a f c⟩
def Zv {b d e e' sz n:Nat} {v:Value} {xs a:List Value} (h:w.ownsRow b e sz v n xs) (c:w.ownsRow d e' sz v n a):xs=a:=by
 rcases h.2 with⟨b,g⟩ | ⟨j,a,d,b,_,f,_,_,_,i⟩
 . have a:=h.1;have d:=c.1;rw[g,xX]at a d;rw[qO a,qO d]
 . rcases c.2 with⟨a,_⟩ | ⟨l,j,k,a,_,d,_,_,_,g⟩
   . rw[b]at a;cases a
   . rw[b]at a;cases a;rw[f]at d;cases d;rw[<-i, <-g]
def B7.newRows (h:B7 za w0 st E w' Z B) (d:Tmp) (t:Ty) {e:TypeId} (e':TypeId) {n:Nat} {v:Value} {xs:List Value} (f:w'.ownsRow w0.heap.size e 1 v n xs) (a:∀x∈xs,x= .slice none 0 0) (w:∀b,v.ownBlock=some b->¬Z b/\∀k,¬A9 w' (B k) (st.L k) b) (A:∀b,za.k0<=st.nx->v.ownBlock=some b->za.b0<=b):
 ∃B',B7 za w0 (B6z st d t e e' (List.replicate n [])) (upd E d v) w' Z B':=by
 have o:=F3 f;have F:v.oneCell'=true:=by rcases f.2 with⟨g,_⟩ | ⟨_,_,_,g,_⟩<;>rw[g]<;>rfl
 have r:∀(i:Nat) (x:Value),xs[i]? =some x->x= .slice none 0 0:=fun i x c=>a x (sR c)
 have s:∀b,A9 w' v (.rows t e e' (List.replicate n []) [] none) b->v.ownBlock=some b:=fun b a=>by
  rcases a with a| ⟨H,m,u,D,G,i,x,g,z,I,_,c,a⟩
  . exact o.symm.trans a
  . exfalso;rcases f.2 with⟨o,_⟩ | ⟨I,G,H,o,_,u,J,_,M,D⟩
    . rw[g]at o;cases o
    . rw[g]at o;cases o;rw[z]at u;cases u;have:xs[i]? =some x:=by rw[<-D,rS (by omega)];simpa using c
      rw[r i x this]at a;simp[root]at a
 have o:=h.new (v:=v) (lc:= .rows t e e' (List.replicate n []) [] none) ⟨xs,by rw[C2,rJ];exact Zu f (rM _),⟨fun p g=>(by cases g),fun i l x _ hl c=>⟨[], ?_, ?_⟩,fun i j x y b _ _ _ c _ a=> ?_⟩,fun i x b _ c a=> ?_,fun b a=> ?_⟩
  (fun k b a u=>(w b (s b a)).2 k u) (fun p g=>by cases g) F (fun b hk a=>A b hk (s b a))
 . refine⟨_,o.setS d (x:=one1 (.row st.nx)) ⟨_,[],rfl,(C2 _ _ _).symm,rfl⟩ (fun o g=> ?_)⟩;simp at g;subst g;exact rU _
 . have:=(zF.1 (sR hl)).2;subst this;exact⟨by simp, .inl ⟨r i x c,rfl⟩⟩
 . have:=(zF.1 (sR hl)).2;subst this;rfl
 . rw[r i x c]at a;simp[root]at a
 . rw[r i x c]at a;simp[root]at a
 . rw[C2]at a;have a:=s b a;have:=World.ownsRow.lt f b a;exact⟨.inl ⟨h.nms.2,this.1⟩,(w b a).1,this.2⟩
def B7.alias (h:B7 za w0 st E w Z B) (d:Tmp) {k:Nat} {t:Ty} {e e':TypeId} {ls:List (List t.den)} {al:List (Nat×Nat)} {i:Nat} {v:Value} {xs:List Value} (f:st.L k= .rows t e e' ls al none) (y:w.ownsRow 0 e 1 (B k) ls.length xs) (z:xs[i]? =some v) (c:v.oneCell'=true):
 ∃B',B7 za w0 (A7b st d k t e e' ls al i) (upd E d v) w Z B':=by
 have l:k<st.nx:=Fb h (by rw[f];trivial);have a:=h.new (v:=v) (lc:= .al k) trivial (fun _ _ b=>b.elim) trivial c (fun _ _ b=>b.elim);have c:(st.newL (.al k)).L k= .rows t e e' ls al none:=by rw[St.L_newL,qL (tT l),f]
 have g:=a.locs k;have j:=a.refl k;rw[c]at g j;have u:(upd B st.nx v) k=B k:=C3 _ _ _ _ (tT l);obtain⟨A,f,⟨l,n,o⟩,r,s⟩:=g;have g:xs=A:=Zv y (by rw[<-u];exact f);subst g;have g:=a.relc (k:=k) (lc:= .rows t e e' ls ((i,st.nx)::al) none) (by rw[c];trivial) ⟨xs,f,⟨fun p a=> ?_,n,o⟩,r,s⟩ (fun p a=> ?_) (fun f b=> .inr (by rw[c];exact b))
 . refine⟨_,g.setS d (x:=one1 (.row st.nx)) ⟨_,[],rfl,(C2 _ _ _).symm,rfl⟩ (fun c b=> ?_)⟩;simp at b;subst b;exact rU _
 . rcases qG.1 a with rfl|a
   . simp only[C2];exact z
   . exact l p a
 . rcases qG.1 a with rfl|a
   . exact rU _
   . exact j p a
def B7.newMap (h:B7 za w0 st E w Z B) (d:Tmp) (a:Bool) (f:Ty) (g:Bool) (i:Ty):
 ∃B',B7 za w0 (B8x st d a f g i) (upd E d (.map (some w.heap.size))) (w.alloc (.map #[] 0)) Z B':=by
 have c:R7 w (w.alloc (.map #[] 0)):=R7.alloc w _;have j:=h.more (Z':=Z) c (fun _=>id) (fun _=> .inl);have l:∀b,Z b->b<w.heap.size:=h.zlt;have k:=j.new (v:= .map (some w.heap.size)) (lc:= .map a f g i []) ⟨w.heap.size, #[],0,C2 _ _ _, .inl ⟨h.nms.2,h.ext.size⟩,fun hz=>absurd (l _ hz) (xO _),heap_alloc_new w _,⟨by simp,by simp⟩,rfl⟩
  (fun g b a f=>by
   simp only[A9,root,rC]at a;have:=((h.locs g).root (h.ft c f)).2.1;omega)
  trivial rfl (fun b _ a=>by simp only[A9,root,rC]at a;have:=h.mrk.1;omega)
 refine⟨_,k.setS d (x:=one1 (.mp st.nx)) ⟨_,[],rfl,(C2 _ _ _).symm,rfl⟩ (fun c a=> ?_)⟩;simp at a;subst a;exact rU _
def Ux {t:Ty} :∀ {i:Nat} {b:List (Nat×List C)} {a:List (Nat×Value)} {xs:List t.den},A0x w Z B b a->Rw t i b=some xs->a=((a.map (·.2)).zipIdx i).map (fun x=>(x.2,x.1))/\(∀v∈a.map (·.2),v.cells.size=t.size)/\xs.length=a.length/\F8 (C4 t w Z) ((a.map (·.2)).flatMap (·.cells.toList)) xs
 |i,[],a,xs,h,b=>by cases b;rw[show a= []from h];exact⟨rfl,by simp,rfl,rfl⟩
 |i,(j,d)::r,a,xs,⟨v,f,e,h,c⟩,b=>by
  simp only[Rw]at b;cases a:Nat.beq i j with
  |false=>simp[a]at b
  |true=>
   have d:=qE a;subst d;simp only[a,qR]at b;split at b
   . rename_i x j;simp only[qK]at b;obtain⟨a,k,rfl⟩:=b;obtain⟨a,d,f,g⟩:=Ux c k;have c:=Gx h j;subst e;refine⟨?_, ?_,by simp[f],⟨v.cells.toList,_,by simp,c,g⟩⟩
     . simp only[rZ,g1l];rw[<-a]
     . intro u a;simp only[rZ,qG]at a;rcases a with rfl|a
       . have:=C4.length c;simpa using this
       . exact d u (by simpa using a)
   . cases b
def B7.settleP (h:B7 za w0 st E w Z B):∀a:List (Nat×Operand),∃Z',B7 za w0 (settleP st a) E w Z' B:=by
 intro a
 induction a generalizing st Z with
 |nil=>exact⟨Z,h⟩
 |cons x a b=>
  obtain⟨Z1,a⟩:=h.settleO x.2;exact b a
def GL {P:Program} {T e ty:TypeId} {sz len:Nat} {c:List (Nat×Operand)} {z:Value} (vs:List Value) (f:Hg P T e sz=true) (n:Ho P e=some z) (h:len*sz<=16777216) (j:1<=sz) (a:z.cells.size=sz)
 (d:(c.map fun x=>(x.1,Gw.ev E x.2))=(vs.zipIdx 0).map fun x=>(x.2,x.1)) (l:∀v∈vs,v.cells.size=sz) (b:vs.length=len):
 ∃cs:Array Value,cs.toList=vs.flatMap (·.cells.toList)/\Gw.E7 P E ty (.buildSlice T len c.toArray) w (.slice (some ⟨w.heap.size,0,none⟩) len len) (w.alloc (.cells cs e)):=by
 by_cases a:len=0
 . subst a;have:vs= []:=qO b;subst this;refine⟨#[],rfl,fun _ _ _ _=> ?_⟩;obtain⟨k,i⟩:=Jp f;have g:=Gw.Fj (P:=P) (w:=w) i;have i:c= []:=by simpa using d
   subst i;simp only[execOp];unfold Instr.buildSlice;have a:Array.range 0= #[]:=by apply Array.ext<;>simp
   simp[run_underlying k,g,Instr.fill,newRow,a]
 . obtain⟨r,c,a,g⟩:=kL sz vs 0 ((Array.range (len*sz)).map (z.cells[· %z.cells.size]!)) l (by simp[b]);refine⟨r,by rw[a];simp[b], ?_⟩;have a:len*sz≠0:=by
    have:1<=len:=by omega
    have:=yL this j;omega
   exact iK r f n h (by rw[d];exact c) a
def TW {P:Program} {o:Nat} {t ty e:TypeId} {i:TypeInfo} {z:Value} {size:Nat} (k:P.underlying t=some (.slice e)) (f:P.info? e=some i) (A:i.zero=some z) (E:i.size=size) (M:z.cells.size=size) (J:0<size)
 {v:Value} {n:Nat} {xs:List Value} (d:w.ownsRow o e size v n xs) {ao:Option Addr} {m c:Nat} {news:List Value} (h:news.length=m*size) (G:∀a,ao=some a->J6 w a news) (b:ao=none->m=0/\c=0) (B:∀u∈news,u.oneCell'=true)
 (l:n+m<=9223372036854775807) (y:(n+m)*i.bytes<=140737488355328) (F:o<=w.heap.size):
 ∃l w',(Builtin.append_ #[t,t] ty #[v, .slice ao m c]).run P w= .ok l w'/\w'.ownsRow o e size l (n+m) (xs++news)/\w.grownBy w' v.ownBlock/\(l.ownBlock=v.ownBlock\/l.ownBlock=some w.heap.size)/\w.drawn<=w'.drawn:=by
 cases ao with
 |none=>
  obtain⟨rfl,rfl⟩:=b rfl;have b:news= []:=qO (by simpa using h);subst b;refine⟨v,w,run_append_owned_none (P:=P) w o t ty e i size k f v n xs d,by simpa using d,⟨rfl,rfl,rfl,qZ _,fun _ _ _=>rfl⟩, .inl rfl,qZ _⟩
 |some a=>
  by_cases b:m=0
  . subst b;have b:news= []:=qO (by simpa using h);subst b;have b:(Builtin.append_ #[t,t] ty #[v, .slice (some a) 0 c]).run P w= .ok v w:=by
     have s:(loadCells a 0).run P w= .ok #[] w:=by simpa using run_loadCells_list (P:=P) w a [] (by simp)
     rcases d.2 with⟨rfl,rfl⟩ | ⟨g,r,x,rfl,_,_,D,_⟩
     . simp[Builtin.append_,run_underlying k,sizeOf,typeInfo,f,Builtin.lenOf,Builtin.firstCells,s]
     . simp[Builtin.append_,run_underlying k,sizeOf,typeInfo,f,Builtin.lenOf,Builtin.firstCells,D,storeCells,s]
    exact⟨v,w,b,by simpa using d,⟨rfl,rfl,rfl,qZ _,fun _ _ _=>rfl⟩, .inl rfl,qZ _⟩
  . have H:n+m<=maxLen:=by simp only[maxLen];omega
    have s:=G a rfl;obtain⟨l,N,b,I,G,_⟩:=run_append_own (P:=P) w o t ty e i z size i.bytes k f A E rfl M J v n xs d a m c news h s B H y F;refine⟨l,N,b,I,G, ?_⟩;subst E;rcases d.2 with⟨rfl,rfl⟩ | ⟨o,r,x,rfl,_,F,D,_,E,_⟩
    . have D:m*i.bytes<=281474976710656:=by simp only[sE]at y;omega
      have l:=run_append_nil (P:=P) w t ty e i z k f A a m c news h s (by omega) (by omega) D;rw[l]at b;cases b;exact⟨.inr rfl,by simp[World.drawn_alloc,World.drawn_drew]<;>omega⟩
    . by_cases D:n+m<=r
      . have G:n*i.size+news.length<=x.size:=by rw[h,E, <-uN];exact rL _ D
        have l:=run_append_room (P:=P) w t ty e i k f o n r x F a m c news h s B D G;rw[l]at b;cases b;exact⟨.inl rfl,by simp<;>omega⟩
      . have x:∀j u,xs[j]? =some u->w.cell? ((⟨o,0,none⟩:Addr).add j)=some u:=d.cells (g:=o) rfl;have l:=run_append_grow (P:=P) w t ty e i z k f A ⟨o,0,none⟩ n r xs d.1 x a m c news h s (by omega) (by omega) (growslice_fits (by omega) y);rw[l]at b;cases b;exact⟨.inr rfl,by simp[World.drawn_alloc,World.drawn_drew]<;>omega⟩
def UR (h:B7 za w0 st E w Z B) {t:Ty} {c:C} {l:List t.den} {v:Value} (n:RC w Z B c v) (b:UP st t c=some l):
 ∃ao f k,v= .slice ao l.length f/\l.length<=f/\(ao=none->f=0)/\(∀a,ao=some a->J6 w a k)/\F8 (C4 t w Z) k l:=by
 unfold UP at b;split at b
 . rename_i d u;split at b
   . rename_i z;subst z;cases b;obtain⟨a,f,o,r,_,g,j⟩:=n;simp only[sI,vJ]at o;rcases j with j| ⟨x,A,k,i,I,s,y⟩
     . subst j;exact⟨a,f,[],o,r,g,fun _ _ M N G=>by simp at G,rfl⟩
     . subst i;exact⟨_,f,k,o,r,g,fun a i=>by cases i;exact s,y⟩
   . cases b
 . rename_i D;split at b
   . rename_i d J u H;split at b
     . rename_i z;subst z;cases b;have x:=h.locs D;rw[H]at x;obtain⟨A,r,y,_⟩:=x;have n:v=B D:=n;rcases r.2 with⟨s,g⟩ | ⟨F,f,o,s,_,_,k,_⟩
       . have:u= []:=qO g;subst this;exact⟨none,0,[],by rw[n,s];rfl,qZ _,fun _=>rfl,fun a i=>(by cases i),rfl⟩
       . exact⟨some ⟨F,0,none⟩,f,A,by rw[n,s],k,fun j=>(by cases j),fun a i=>by cases i;exact Ru r s,y⟩
     . cases b
   . cases b
 . rename_i D sz k o;split at b
   . rename_i d J u H;split at b
     . rename_i z;subst z;cases z:Nat.beq sz d.size with
       |false=>simp only[z,rD]at b;cases b
       |true=>
        simp only[z,qR]at b;cases b;have:=qE z;subst this;have x:=h.locs D;rw[H]at x;obtain⟨A,r,y,_⟩:=x;obtain⟨a,H,f,x,z,D,J,O,P,Q,R,s⟩:=n;have g:H=u.length:=by
         rcases r.2 with⟨j,H⟩ | ⟨_,_,_,j,_⟩<;>rw[x]at j<;>cases j
         . exact H.symm
         . rfl
        subst g;have j:((u.take o.toNat).drop k.toNat).length=o.toNat-k.toNat:=by simp;omega
        refine⟨_,_,(A.take (o.toNat*d.size)).drop (k.toNat*d.size),by rw[s,j],by rw[j];omega,fun I=> ?_,fun s j=> ?_,F8.drop (fun _ _ h=>C4.length h) k.toNat (F8.take (fun _ _ h=>C4.length h) o.toNat y)⟩
        . split at I
          . omega
          . have:=D (by simpa using I);omega
        . by_cases y:f=k.toNat
          . intro M N G;have f:=FU G;rw[sL,qW]at f;have s:A.length=u.length*d.size:=r.1;have s:k.toNat=o.toNat:=by omega
            rw[s]at f;omega
          . rw[qL y]at j;cases a with
            |none=>cases j
            |some f=>
             obtain⟨F,rfl⟩:=z f rfl;cases j;show J6 w ((⟨F,0,none⟩:Addr).add (k.toNat*d.size)) _;rw[K5,sE];have f:=S4 (Ru r x) 0 (o.toNat*d.size);rw[tW,tB]at f;have j:=S4 f (k.toNat*d.size) ((A.take (o.toNat*d.size)).drop (k.toNat*d.size)).length;rw[uP,sE]at j;exact j
     . cases b
   . cases b
 . rename_i d;cases g:DD d with
   |false=>simp[g]at b
   |true=>
    simp[g]at b;subst b;exact⟨none,0,[],by rw[n.1,Uk g];rfl,qZ _,fun _=>rfl,fun a i=>(by cases i),rfl⟩
 . cases b
def Lb {P:Program} {T:TypeId} {ti:TI} {t:Ty} (h:Vp P T ti=true) (j:ti.ty= .sl t):∃i z,P.underlying T=some (.slice ti.elem)/\P.info? ti.elem=some i/\i.zero=some z/\i.size=t.size/\z.cells.toList=Dl t/\z.cells.size=t.size/\i.bytes=ti.bytes/\Hg P T ti.elem t.size=true:=by
 obtain⟨b,g,i,c,k⟩:=EA h j;obtain⟨n,a⟩:=Jp b;obtain⟨z,d,f⟩:=Gb g;unfold Ho at d;unfold Sv at a;simp only[c,vT]at d;simp only[c,g0x]at a;have l:(Dl t).length=t.size:=by
  clear f a b g j
  induction t with
  |pair o r g j=>simp[Dl,Ty.size,g,j]
  | _=>rfl
 exact⟨i,z,n,c,d,a,f,by rw[<-sP,f,l],k,b⟩
def Jo {ty t:Ty} (h:slT ty=some t):ty= .sl t:=by
 unfold slT at h;split at h
 . cases h;rfl
 . cases h
variable {all:List Oper} {ty:TypeId} {pos:String} {aft:Array Edge} {g:Option (Nat×Bool)} {k:St->Prop}
def F7 (E:F9):P8 E []:=fun _ _ h=>by cases h
def F8.of_index {a:Type} {R:List Value->a->Prop} {s:Nat} :∀ {l:List a} {cs:List Value},cs.length=l.length*s->(∀(i:Nat) (x:a),l[i]? =some x->R ((cs.drop (i*s)).take s) x)->F8 R cs l
 | [],cs,a,_=>qO (by simpa using a)
 |x::l,cs,a,h=>by
  have b:cs.length=s+l.length*s:=by rw[a,rI,uJ,vV]
  refine⟨cs.take s,cs.drop s,(uD s cs).symm, ?_,F8.of_index (s:=s) (by rw[sL];omega) (fun i y a=> ?_)⟩
  . have:=h 0 x rfl;simpa using this
  . have:=h (i+1) y (by simpa using a);rw[uJ,vV, <-vP]at this;exact this
def NK {t:Ty} {z:Array Value} (f:z.toList=Dl t) (k:Rn t=true) (d:z.size=t.size) (c l:Nat) (b:l<=c):F8 (C4 t w Z) ((madeCells z (c*t.size)).toList.take (l*t.size)) (List.replicate l t.dflt):=by
 have g:((madeCells z (c*t.size)).toList.take (l*t.size)).length=l*t.size:=by
  rw[qW,sP,size_madeCells];exact sU (rL _ b)
 refine F8.of_index (s:=t.size) (by rw[g,rJ]) (fun i x a=> ?_);have h:i<l:=by have:=FU a;simpa using this
 have g:x=t.dflt:=by
  have:=sR a;exact(zF.1 this).2
 subst g;have g:(((madeCells z (c*t.size)).toList.take (l*t.size)).drop (i*t.size)).take t.size=Dl t:=by
  have a:(Dl t).length=t.size:=by rw[<-f,sP,d]
  have a:i*t.size+t.size<=l*t.size:=by rw[<-uJ];exact rL _ h
  have a:l*t.size<=c*t.size:=rL _ b;apply wN;intro j;by_cases a:j<t.size
  . rw[wE,qS a,wX,wE,qS (by omega)];have b:(i*t.size+j)%z.size=j:=by rw[d,tD,g2b,tR a]
    have d:(madeCells z (c*t.size)).toList[i*t.size+j]? =some (z[(i*t.size+j)%z.size]!):=by
     simp only[madeCells,wC,Array.getElem?_map];rw[Array.getElem?_range,qS (by omega)];rfl
    rw[d,b, <-f,wC];rw[tX (by omega),g0m z j (by omega)]
  . rw[wE,qL a,rV (by omega)]
 rw[g];exact MB k
def lH (h:B7 za w0 st E w Z B) (o:H3 cx.P cx.tys=true) {T:TypeId} {x:Operand} (b:cF cx st d T x=some st'):∃v B',(∀w',R7 w w'->Gw.E7 cx.P E ty (.load T x) w' v w')/\B7 za w0 st' (upd E d v) w Z B':=by
 unfold cF at b;simp only[qH,bind_some]at b;obtain⟨ti,j,c,⟨r,k,l⟩,b⟩:=b;split at b
 . rename_i q sz i f;split at b
   . rename_i g e c t al n;cases c:Nat.beq sz 1&&Nat.beq f 0&& !ti.agg with
     |false=>simp only[c,rD]at b;cases b
     |true=>
      simp only[c,qR]at b;cases b;simp only[qC,rP]at c;have g:=qE c.1.1;have f:=qE c.1.2;subst g f;have u:Jb cx.P T=true:=by
       rcases(O2 (B8 o j)).2.1 with⟨f,_⟩ | ⟨_,f,_⟩
       . rw[c.2]at f;cases f
       . exact f
      obtain⟨f,y,c,j,s,g⟩:=(h.c1 (F7 E) (bind_some.2 ⟨r,k,l⟩)).1;have k:=h.locs q;rw[n]at k;obtain⟨o,c,⟨l,r,z⟩,A,D⟩:=k;have l:y=t.length:=by
       rw[j]at c;rcases c.2 with⟨k,_⟩ | ⟨_,_,_,k,_⟩<;>cases k
       rfl
      subst l;have l:i<o.length:=by have:=c.1;omega
      have k:=qT l;have l:=Ru c j i _ k;rw[K5,sE]at l;have t:=qT s;obtain⟨y,s,_⟩:=r i _ _ rfl t k;have r:(o[i]).oneCell'=true:=by rcases s.2 with⟨g,_⟩ | ⟨_,_,_,g,_⟩<;>rw[g]<;>rfl
      obtain⟨B',o⟩:=h.alias d n c k r;refine⟨_,B',fun w' k=>A0s g u ?_,o⟩;have g:f<w.heap.size:=by rw[j]at c;exact(World.ownsRow.lt c f rfl).2
      have e:=World.cell?_of_block (a:=⟨f,i,none⟩) (k.block f g);rw[show i*1+0=i from by omega,e];exact l
   . cases b
 . cases b
def A5l {P:Program} {w:World} {d sT ty elem:TypeId} {size g a dCap b:Nat} {c:Value} {cur:Array Value} {t:TypeId} {cs:List Value} (n:P.underlying d=some (.slice elem)) (f:(P.info? elem).map (·.size)=some size)
 (k:w.heap[g]? =some (.cells cur t (0,0))) (l:(Builtin.lenOf c).run P w= .ok b w) (i:(Builtin.firstCells size (Nat.min b a) c).run P w= .ok cs.toArray w) (j:cs.length<=cur.size) (h:∀v∈cs,v.oneCell'=true):
 (Builtin.copy_ #[d,sT] ty #[.slice (some ⟨g,0,none⟩) a dCap,c]).run P w= .ok (goInt (Nat.min b a)) (w.setRow g (cs++cur.toList.drop cs.length).toArray):=by
 have b:=run_storeCells_at P g 0 t cs 0 cur w k (by simpa using j) h;cases a:P.info? elem with
 |none=>simp[a]at f
 |some d=>
  have c:d.size=size:=by simpa[a]using f
  simp only[sE,g0s,vG]at b;simp[Builtin.copy_,run_underlying n,l,sizeOf,typeInfo,a,c,i,b]
def A5k {P:Program} {w:World} {b sT ty elem:TypeId} {size dCap h:Nat} {a:Value} (g:P.underlying b=some (.slice elem)) (c:(P.info? elem).map (·.size)=some size)
 (f:(Builtin.lenOf a).run P w= .ok h w) (d:(Builtin.firstCells size 0 a).run P w= .ok #[] w):
 (Builtin.copy_ #[b,sT] ty #[.slice none 0 dCap,a]).run P w= .ok (goInt 0) w:=by
 cases a:P.info? elem with
 |none=>simp[a]at c
 |some i=>
  have b:i.size=size:=by simpa[a]using c
  simp[Builtin.copy_,run_underlying g,f,sizeOf,typeInfo,a,b,d]
def A8e (h:B7 za w0 st E w Z B) (b5:H3 cx.P cx.tys=true) {T sT:TypeId} {x y:Operand} (f:jZ cx st d T x y=some st'):∃v w' B',Gw.E7 cx.P E ty (.call ⟨.builtin .copy, #[x,y], #[T,sT]⟩) w v w'/\B7 za w0 st' (upd E d v) w' Z B':=by
 simp only[jZ,qH,bind_some]at f;obtain⟨ti,b3,bm,U,D,⟨b9,ah,ai⟩,z,⟨ba,ak,am⟩,a,b8,f⟩:=f;have U:=Jo U;obtain⟨bl,af,aa,av,ad,b2,bj,bk,bf,bi⟩:=Lb (B8 b5 b3) U;obtain⟨b6,_⟩:=h.c1 (F7 E) (bind_some.2 ⟨b9,ah,ai⟩);obtain⟨b7,_⟩:=h.c1 (F7 E) (bind_some.2 ⟨ba,ak,am⟩);obtain⟨ag,bb,c,ab,bg,ax,an,O⟩:=UR h b7 b8;cases D with
 |row k=>
  simp only at f;split at f
  . rename_i b e l t;split at f
    . rename_i aq;subst aq;cases a1:gD (.row k) z with
      |false=>simp only[a1,rD]at f;cases f
      |true=>
       simp only[a1,qR]at f;cases f;have X:=h.locs k;rw[t]at X;obtain⟨ae,Q,a2,I⟩:=X;have W:Gw.ev E x=B k:=b6;have a6:(Builtin.lenOf (Gw.ev E y)).run cx.P w= .ok a.length w:=by rw[ab];rfl
       have a5:(cx.P.info? ti.elem).map (·.size)=some b.size:=by rw[av,vR,b2]
       have bh:Nat.min a.length l.length=min a.length l.length:=rfl;have N:c.length=a.length*b.size:=O.length (fun i x=>C4.length);have a3:(Builtin.firstCells b.size (Nat.min a.length l.length) (Gw.ev E y)).run cx.P w= .ok (c.take (min a.length l.length*b.size)).toArray w:=by
        rw[ab];cases ag with
        |none=>
         have:a= []:=qO (by have:=ax rfl;omega);subst this;simp[Builtin.firstCells]
        |some D=>
         have F:(c.take (min a.length l.length*b.size)).length=min a.length l.length*b.size:=by
          rw[qW,N];exact sU (rL _ (g1z ..))
         have:=run_loadCells_list (P:=cx.P) w D (c.take (min a.length l.length*b.size)) (fun j v hj=>an D rfl j v (by
          have J:=FU hj;rw[rS (by omega)]at hj;exact hj))
         rw[F]at this;exact this
       have b0:∀u∈c.take (min a.length l.length*b.size),u.oneCell'=true:=fun u hu'=>O.oneCell u (rX hu')
       have ac:∀m:Nat,m<=l.length->RC w Z B (.val (.int .i64) (m:Int)) (.int .i64 (m:Int)):=fun m hm=>by
        have:l.length<=maxLen:=by
         rcases Q.2 with⟨_,V⟩ | ⟨_,_,_,_,_,_,J,aj,_⟩
         . omega
         . omega
        refine⟨rfl, ?_⟩;unfold NH;simp only[maxLen]at this;constructor
        . change(-9223372036854775808:Int)<= _;omega
        . change _ <=(9223372036854775807:Int);omega
       have a7:(min (a.length:Int) (l.length:Int))=((min a.length l.length:Nat):Int):=by omega
       rcases Q.2 with⟨s,V⟩ | ⟨g,G,n,s,au,a4,ay,ao,ap,b4⟩
       . have aw:l= []:=qO V;subst aw;have R:=A5k (sT:=sT) (ty:=ty) (dCap:=0) aa a5 a6 (by simpa using a3);refine⟨goInt 0,w,B,fun _ _ _ _=>by simp[execOp,resolve,invoke,builtin,W,s,R], ?_⟩;have H:B7 za w0 (st.setL k (.row b e (Lw [] a))) E w Z B:=by
          have J:Lw ([]:List b.den) a= []:=by simp[Lw]
          rw[J];exact h.relc (by rw[t];trivial) ⟨ae,Q,a2,I⟩ trivial (fun z aj=> .inl aj)
         refine H.setS d ?_ (fun i A=>by simp at A;subst A;trivial);rw[a7,show min a.length ([]:List b.den).length=0 from Nat.min_zero _];exact⟨_,_,rfl,ac _ (by simp),rfl⟩
       . have ar:(c.take (min a.length l.length*b.size)).length<=n.size:=by
          rw[qW,N,ap];have J:min a.length l.length*b.size<=G*b.size:=rL _ (by omega);omega
         have F:(c.take (min a.length l.length*b.size)).length=min a.length l.length*b.size:=by
          rw[qW,N];exact sU (rL _ (g1z ..))
         have R:=A5l (sT:=sT) (ty:=ty) (dCap:=G) aa a5 a4 a6 a3 ar b0;refine⟨goInt (Nat.min a.length l.length),w.setRow g (c.take (min a.length l.length*b.size)++n.toList.drop (c.take (min a.length l.length*b.size)).length).toArray,B,fun _ _ _ _=>by simp[execOp,resolve,invoke,builtin,W,s,R], ?_⟩;generalize a0:(c.take (min a.length l.length*b.size)++n.toList.drop (c.take (min a.length l.length*b.size)).length).toArray=r;have Y:ZC g w (w.setRow g r):=⟨rfl,rfl,⟨rfl,qZ _⟩,by simp,fun k t=>setRow_other w g k _ t⟩;have b1:root (B k)=some g:=by rw[s];rfl
         obtain⟨be,az⟩:=I g (by rw[s];rfl);have a9:O3 Z w (w.setRow g r):=fun af ad=>Y.2.2.2.2 af (fun o=>az (o▸ad))
         have a8:F8 (C4 b (w.setRow g r) Z) (c.take (min a.length l.length*b.size)++ae.drop (min a.length l.length*b.size)) (Lw l a):=by
          have J:Lw l a=a.take (min a.length l.length)++l.drop (min a.length l.length):=by
           unfold Lw;rcases Nat.le_total a.length l.length with o|o
           . rw[sU o,qV o,qV (qZ _)]
           . rw[Nat.min_eq_right o,sC o,sC (qZ _)]
          rw[J];refine F8.append ?_ ?_
          . exact(O.take (fun i x=>C4.length) _).mono fun i x=>C4.mono (fun _=>id) a9
          . exact(a2.drop (fun i x=>C4.length) _).mono fun i x=>C4.mono (fun _=>id) a9
         have M:(Lw l a).length=l.length:=by
          unfold Lw;rw[rO,qW,sL];omega
         have H:B7 za w0 (st.setL k (.row b e (Lw l a))) E (w.setRow g r) Z B:=by
          refine h.chg (by rw[t];trivial) (by rw[t];exact b1) Y ⟨_,⟨?_, .inr ⟨g,G,r, ?_,au,setRow_heap w g n _ e _ a4, ?_,ao, ?_, ?_⟩⟩,a8,fun z J=> ?_⟩ trivial (fun z J=> .inl J)
          . rw[a8.length (fun i x=>C4.length)]
          . rw[M];exact s
          . rw[M];exact ay
          . have aj:n.toList.length=n.size:=sP;have bc:r.size=(c.take (min a.length l.length*b.size)).length+(n.toList.length-(c.take (min a.length l.length*b.size)).length):=by
             rw[<-a0, <-sL, <-rO];rfl
            omega
          . rw[M, <-a0,F, <-b4,g0p,zU];have bd:min a.length l.length*b.size<=l.length*b.size:=rL _ (by omega);rw[F,qV (by omega)]
          . exact I z J
         refine H.setS d ?_ (fun i A=>by simp at A;subst A;trivial);rw[a7];exact⟨_,_,rfl,(ac _ (by omega)),rfl⟩
    . cases f
  . cases f
 | _=>simp at f
def C1r:LC->Bool
 | .al _=>true
 | _=>false
def B1x {v:Value} {e d:TypeId} {n a g b j:Nat} {xs:List Value} {cur:Array Value} {x:Value} (f:w.ownsRow 0 e 1 v n xs) (c:v= .slice (some ⟨g,0,none⟩) a b) (h:w.heap[g]? =some (.cells cur d (0,0))) (k:j<a) (i:cur[j]? =some x):xs[j]? =some x:=by
 rcases f.2 with⟨a,_⟩ | ⟨o,k,l,a,_,b,r,_,s,d⟩
 . rw[c]at a;cases a
 . rw[c]at a;cases a;rw[h]at b;cases b;rw[<-d,rS (by omega)];simpa using i
def B7.detach (h:B7 za w0 st E w Z B) {k q i:Nat} {t:Ty} {e e':TypeId} {ls:List (List t.den)} {al:List (Nat×Nat)} (n:st.L k= .rows t e e' ls al none) (a8:st.L q= .al k) (a3:PM q al=some i) (ah:st.nm<=k) (ak:st.nm<=q) (a0:za.b0=0):
 B7 za w0 ((st.setL k (.rows t e e' ls [] (some i))).setL q (.row t e' (ls.getD i []))) E w Z B:=by
 have P:=h.locs k;have Q:=h.refl k;rw[n]at P Q;obtain⟨F,s,⟨Y,J,M⟩,N,O⟩:=P;have U:=Rj a3;have o:F[i]? =some (B q):=Y (i,q) U;have am:F.length=ls.length:=by have:=s.1;omega
 have a4:i<ls.length:=by have:=(sB.1 o).1;omega
 have a6:ls[i]? =some (ls.getD i []):=by rw[qF,qT a4];rfl
 obtain⟨ag,X,ae⟩:=J i _ _ rfl a6 o;have a9:q<st.nx:=Q (i,q) U;have aj:k≠q:=fun hh=>by rw[hh,a8]at n;cases n
 have V:∀b,A9 w (B k) (.rows t e e' ls [] (some i)) b->A9 w (B k) (.rows t e e' ls al none) b:=fun b d=>by
  rcases d with d| ⟨g,W,G,H,I,j,x,D,v,T,_,r,d⟩
  . exact .inl d
  . exact .inr ⟨g,W,G,H,I,j,x,D,v,T,rfl,r,d⟩
 have ab:B7 za w0 (st.setL k (.rows t e e' ls [] (some i))) E w Z B:=
  h.relc (by rw[n];trivial) ⟨F,s,⟨fun p A=>(by cases A),fun j l x _ hl r=>J j l x rfl hl r,fun a c x y b hac _ _ hxa hyc=>M a c x y b hac rfl rfl hxa hyc⟩,fun j x b _ r=>N j x b rfl r,fun b d=>O b (V b d)⟩ (fun p A=>(by cases A)) (fun b d=> .inr (by rw[n];exact V b d))
 have aa:=F3 X;have R:∀b,root (B q)=some b->A9 w (B k) (.rows t e e' ls al none) b:=fun b d=>Ze s rfl o d
 refine ab.addL (k:=q) a9 ⟨ag,X,ae,fun b d=> ?_⟩ (fun j b T d f=> ?_) trivial (fun b _ _=>by rw[a0];exact rM _)
 . obtain⟨u,af,_⟩:=O b (R b (aa.trans d));refine⟨.inl ?_,af⟩;have ai:=h.nms.1;rcases u with u|u
   . exact⟨by omega,u.2⟩
   . omega
 . have d:root (B q)=some b:=d;rw[St.L_setL]at f;by_cases z:j=k
   . subst z;rw[qS rfl]at f;rcases f with f| ⟨g,W,G,H,I,m,x,D,v,a7,a2,ac,a1⟩
     . exact N i (B q) b rfl o d f
     . have ad:=B1x s D v a7 ac;have a5:i≠m:=fun hh=>by
        subst hh;simp[Kb]at a2
       exact M i m (B q) x b a5 rfl rfl o ad d a1
   . rw[qL z]at f;exact h.disj k j b (Ne.symm z) (by rw[n];exact R b d) f
def B7.detO (h:B7 za w0 st E w Z B) (x:Operand) (a:za.b0=0\/∀k,(st.ev [] x).bind Vc.c1=some (C.row k)->C1r (st.L k)=false):B7 za w0 (Vc.detO st x) E w Z B:=by
 unfold Vc.detO;split
 . rename_i c d;unfold B3q;split
   . rename_i q;split
     . rename_i k c;split
       . rename_i t e b f al g;split
         . rename_i i f;cases b:Nat.ble st.nm k&&Nat.ble st.nm q with
           |false=>exact h
           |true=>
            simp only[qC]at b;rcases a with a|a
            . exact h.detach g c f (qQ b.1) (qQ b.2) a
            . have:=a q d;rw[c]at this;cases this
         . exact h
       . exact h
     . exact h
   . exact h
 . exact h
def B3r (st:St) (x:Operand) (ctx:Kj) (y:Operand):(detO st x).ev ctx y=st.ev ctx y:=by
 have d:∀(b:Bool) (c a:St),c.ev ctx y=a.ev ctx y->(bif b then c else a).ev ctx y=a.ev ctx y:=by
  intro b c a h;cases b
  . rfl
  . exact h
 unfold detO;split
 . unfold B3q;split
   . split
     . split
       . split
         . exact d _ _ _ rfl
         . rfl
       . rfl
     . rfl
   . rfl
 . rfl
def gH (k0:Nat) (st:St):Op->Bool
 | .call ⟨.builtin .append,a,_⟩=>match a.toList with
  |x:: _=>(match(st.ev [] x).bind c1 with
   |some (.row k)=>Nat.ble k0 k&& !(C1r (st.L k))
   | _=>true)
  | _=>true
 | _=>true
def B3u {av:Op} (h:B7 za w0 st E w Z B) (bn:za.b0=0\/∀op,op=av->gH za.k0 st op=true) (a0:H3 cx.P cx.tys=true) (a:A8l cx st d av=some (φ,st')) (b3:PS φ) (H:k st') (O:E5 all ⟨some d,av,ty,pos,aft,g⟩ E=true):I5 cx.P all ⟨some d,av,ty,pos,aft,g⟩ (iW za w0 w (wrB av) k) E w:=by
 unfold A8l at a;split at a
 . simp only[qH,bind_some]at a;obtain⟨s,cq,a⟩:=a;cases o:s.cs.all Fc with
   |false=>simp only[o,rD]at a;cases a
   |true=>
    simp only[o,qR]at a;cases a;obtain⟨y,ae⟩:=h.ev (F7 E) cq;obtain⟨B',am⟩:=h.newBox d (T:= _) (RS.cells h y o) ae;exact U9 (C3w rfl) O ⟨fun _=>R7.alloc w _,_,_,_,am,H⟩
 . simp only[qH,bind_some]at a;obtain⟨ti,N,a⟩:=a;cases a;obtain⟨J,z,ad⟩:=Gb (O2 (B8 a0 N)).2.2;have am:=Cm (w:=w) (Z:=Z) (B:=B) (n:=st.nx) (Dl ti.ty);obtain⟨B',W⟩:=h.newBox d (T:= _) (vs:=J.cells) (by rw[ad];exact am.1) am.2;exact U9 (A3a z) O ⟨fun _=>R7.alloc w _,_,_,_,W,H⟩
 . rename_i T len bu;simp only[qH,bind_some]at a;obtain⟨ti,N,t,U,dd,cm,xs,cw,a⟩:=a;have U:=Jo U;cases o:Nat.beq xs.length len&&Nat.ble (len*t.size) 16777216&&Nat.ble 1 t.size with
   |false=>simp only[o,rD]at a;cases a
   |true=>
    simp only[o,qR]at a;cases a;simp only[qC]at o;obtain⟨bb,J,I,b1,z,b9,ad,b7,f,b4⟩:=Lb (B8 a0 N) U;obtain⟨Z1,y⟩:=h.settleP bu.toList;obtain⟨ae,am⟩:=Lx y (F7 E) cm;obtain⟨ab,ag,an,G⟩:=Ux ae cw;have ay:=qE o.1.1;have b6:Ho cx.P ti.elem=some J:=by simp[Ho,b1,z]
    obtain⟨j,a1,a5⟩:=GL (w:=w) (ty:=ty) (len:=len) _ b4 b6 (qQ o.1.2) (qQ o.2) b7 ab ag (by rw[tK, <-an,ay]);have r:R7 w (w.alloc (.cells j ti.elem)):=R7.alloc w _;have W:=y.more (Z':=Z1) r (fun _=>id) (fun _=> .inl);have ac:O3 Z1 w (w.alloc (.cells j ti.elem)):=fun i f=>r.block i (y.zlt i f)
    have A:j.toList.length=len*t.size:=by rw[a1,F8.length (fun _ _ h=>C4.length h) G,ay]
    have b2:(w.alloc (.cells j ti.elem)).ownsRow w0.heap.size ti.elem t.size (.slice (some ⟨w.heap.size,0,none⟩) len len) xs.length j.toList:=by
     rw[ay];refine⟨A, .inr ⟨w.heap.size,len,j,rfl,h.ext.size,Li w _ _,qZ _, ?_,by simpa using A,by rw[<-A,uP]⟩⟩;have M:=qQ o.1.2;have ax:=qQ o.2;have:len*1<=len*t.size:=sQ _ ax;simp only[maxLen];omega
    obtain⟨B',M⟩:=W.newRow d (t:=t) (e:=ti.elem) (l:=xs) b2 (by rw[a1];exact G.mono fun _ _=>C4.mono (fun _=>id) ac) (fun i f=>by
     simp only[Value.ownBlock,rC]at f;refine⟨fun z=> ?_,fun q b=> ?_⟩
     . have:=y.zlt i z;omega
     . have:=((y.locs q).root (y.ft r b)).2.1;omega) (fun i _ f=>by simp only[Value.ownBlock,rC]at f;have:=h.mrk.1;omega)
    have:=U9 (pos:=pos) (aft:=aft) a5 (by simpa using O) (show iW za w0 w (wrB (.buildSlice T len bu)) k _ _ from⟨fun _=>r,_,_,_,M,H⟩);simpa using this
 . rename_i T bt bg;simp only[qH,bind_some]at a;obtain⟨ti,N,t,U,l,u,c,D,a⟩:=a;have U:=Jo U;cases bq:ti.rows with
   |true=>
    simp only[bq,qR,qK]at a;obtain⟨d4,A,a⟩:=a;cases a;unfold VP at A;split at A
    case h_2=>cases A
    rename_i G b1;rw[U]at b1;cases b1;simp only[qK]at A;obtain⟨bp,_,A⟩:=A;subst A;obtain⟨b6,b7,b9,bb⟩:=b3;obtain⟨an,J,I,bc,z,ag,ad,b2,f,bv⟩:=Lb (B8 a0 N) U;obtain⟨bl,aj,_⟩:=h.int (F7 E) u;obtain⟨bo,b4,_⟩:=h.int (F7 E) D;have a4:=run_make (P:=cx.P) w T ti.elem an J I bc z bl bo l c b6 b7 (by rw[f];exact b9) bb;have a5:Gw.E7 cx.P E ty (.makeSlice T bt bg) w (.slice (some ⟨w.heap.size,0,none⟩) l.toNat c.toNat) (w.alloc (.cells (madeCells J.cells (c.toNat*an.size)) ti.elem)):=fun _ _ _ _=>by simp[execOp,aj,b4,a4]
    generalize a1:madeCells J.cells (c.toNat*an.size)=j at a5;have bi:(Ty.sl G).size=1:=rfl;rw[bi]at ag b2;have ax:j.size=c.toNat*1:=by rw[<-a1, <-ag];simp[madeCells]
    have r:R7 w (w.alloc (.cells j ti.elem)):=R7.alloc w _;have W:=h.more (Z':=Z) r (fun _=>id) (fun _=> .inl);have ab:l.toNat<=c.toNat:=by omega
    have bs:F8 (C4 (.sl G) (w.alloc (.cells j ti.elem)) Z) (j.toList.take (l.toNat*1)) (List.replicate l.toNat (Ty.sl G).dflt):=by
     rw[<-a1,ag];exact NK ad rfl b2 _ _ ab
    have bh:(w.alloc (.cells j ti.elem)).ownsRow w0.heap.size ti.elem 1 (.slice (some ⟨w.heap.size,0,none⟩) l.toNat c.toNat) l.toNat (j.toList.take (l.toNat*1)):=by
     refine⟨?_, .inr ⟨w.heap.size,c.toNat,j,rfl,h.ext.size,Li w _ _,ab, ?_,ax,rfl⟩⟩
     . rw[qW,sP,ax];exact sU (rL _ ab)
     . simp only[maxLen];omega
    have bd:∀x∈j.toList.take (l.toNat*1),x= .slice none 0 0:=fun x r=>by
     have r:=rX r;rw[<-a1]at r;simp only[madeCells,g1h,tA]at r;obtain⟨bw,_,rfl⟩:=r;have bj:J.cells.toList= [.slice none 0 0]:=ad;have bk:J.cells= #[.slice none 0 0]:=by rw[<-uR (xs:=J.cells),bj]
     rw[bk];simp[g4k]
    obtain⟨B',M⟩:=W.newRows d G bp.elem bh bd (fun i f=>by
     simp only[Value.ownBlock,rC]at f;refine⟨fun z=> ?_,fun q b=> ?_⟩
     . have:=h.zlt i z;omega
     . have:=((h.locs q).root (h.ft r b)).2.1;omega) (fun i _ f=>by simp only[Value.ownBlock,rC]at f;have:=h.mrk.1;omega)
    exact U9 a5 O ⟨fun _=>r,_,_,_,M,H⟩
   |false=>
   simp only[bq,rD]at a;cases o:Rn t with
   |false=>simp only[o,rD]at a;cases a
   |true=>
    simp only[o,qR]at a;cases a;obtain⟨ax,b1,b2,b4⟩:=b3;obtain⟨G,J,I,b7,z,ag,ad,bb,f,bh⟩:=Lb (B8 a0 N) U;obtain⟨bc,aj,_⟩:=h.int (F7 E) u;obtain⟨bd,an,_⟩:=h.int (F7 E) D;have a4:=run_make (P:=cx.P) w T ti.elem G J I b7 z bc bd l c ax b1 (by rw[f];exact b2) b4;have a5:Gw.E7 cx.P E ty (.makeSlice T bt bg) w (.slice (some ⟨w.heap.size,0,none⟩) l.toNat c.toNat) (w.alloc (.cells (madeCells J.cells (c.toNat*G.size)) ti.elem)):=fun _ _ _ _=>by simp[execOp,aj,an,a4]
    generalize a1:madeCells J.cells (c.toNat*G.size)=j at a5;have ab:j.size=c.toNat*t.size:=by rw[<-a1, <-ag];simp[madeCells]
    have r:R7 w (w.alloc (.cells j ti.elem)):=R7.alloc w _;have W:=h.more (Z':=Z) r (fun _=>id) (fun _=> .inl);have A:l.toNat<=c.toNat:=by omega
    have b6:F8 (C4 t (w.alloc (.cells j ti.elem)) Z) (j.toList.take (l.toNat*t.size)) (List.replicate l.toNat t.dflt):=by
     rw[<-a1,ag];exact NK ad o bb _ _ A
    have b9:(w.alloc (.cells j ti.elem)).ownsRow w0.heap.size ti.elem t.size (.slice (some ⟨w.heap.size,0,none⟩) l.toNat c.toNat) (List.replicate l.toNat t.dflt).length (j.toList.take (l.toNat*t.size)):=by
     rw[rJ];refine⟨?_, .inr ⟨w.heap.size,c.toNat,j,rfl,h.ext.size,Li w _ _,A, ?_,ab,rfl⟩⟩
     . rw[qW,sP,ab];exact sU (rL _ A)
     . simp only[maxLen];omega
    obtain⟨B',M⟩:=W.newRow d b9 b6 (fun i f=>by
     simp only[Value.ownBlock,rC]at f;refine⟨fun z=> ?_,fun q b=> ?_⟩
     . have:=h.zlt i z;omega
     . have:=((h.locs q).root (h.ft r b)).2.1;omega) (fun i _ f=>by simp only[Value.ownBlock,rC]at f;have:=h.mrk.1;omega)
    exact U9 a5 O ⟨fun _=>r,_,_,_,M,H⟩
 . rename_i ak aw;split at a
   . rename_i x ai T T' af ar;cases Y:Nat.beq T T' with
     |false=>simp[Y]at a
     |true=>
      simp only[Y,qR]at a;have c6:=qE Y;subst c6;have A:=h.detO x (bn.imp id fun F k H=>by
       have:=F _ rfl;simp only[gH,af,H,qC,rP]at this;exact this.2)
      have bk:=B3r st x;have ck:za.b0=0\/∀j,(st.ev [] x).bind Vc.c1=some (C.row j)->za.k0<=j:=bn.imp id fun F j G=>by
       have:=F _ rfl;simp only[gH,af,G,qC,rP]at this;exact qQ this.1
      generalize Vc.detO st x=ah at a A bk;simp only[B7j,qH,bind_some]at a;obtain⟨ti,N,t,U,a1,⟨bv,bd,bj⟩,i,⟨d3,co,c8⟩,l,u,bw,cz,a⟩:=a;have U:=Jo U;cases o:gD a1 i&&Nat.ble 1 t.size with
      |false=>simp only[o,rD]at a;cases a
      |true=>
       simp only[o,qR]at a;cases a;simp only[qC]at o;obtain⟨c4,c5⟩:=b3;obtain⟨da,J,I,cd,z,cr,ad,d0,f,d9⟩:=Lb (B8 a0 N) U;have ax:=A.c1 (F7 E) (bind_some.2 ⟨bv,bd,bj⟩);have c7:=A.c1 (F7 E) (bind_some.2 ⟨d3,co,c8⟩);obtain⟨ao,bx,c2,cu,d8,ci,c9,b7⟩:=UR A c7.1 cz;have cc:=F8.length (R:=C4 t w Z) (s:=t.size) (fun _ _ h=>C4.length h) b7;have an:za.b0=0\/∀j,a1= .row j->za.k0<=j:=ck.imp id fun F j G=>F j (by
        rw[bk]at bd;exact bind_some.2 ⟨bv,bd,by rw[bj,G]⟩)
       have cn:∃xs,w.ownsRow w0.heap.size ti.elem t.size (Gw.ev E x) l.length xs/\F8 (C4 t w Z) xs l/\(∀q,(Gw.ev E x).ownBlock=some q->¬Z q/\w0.heap.size<=q/\∀j,¬A9 w (B j) ((dropR ah a1).L j) q)/\B7 za w0 (dropR ah a1) E w Z B/\(∀q,(Gw.ev E x).ownBlock=some q->za.b0<=q):=by
        unfold OH at u;split at u
        . rename_i j;split at u
          . rename_i de bz dc G;split at u
            . rename_i b8;subst b8;cases X:Nat.beq bz ti.elem&&Nat.ble ah.nm j with
              |false=>simp only[X,rD]at u;cases u
              |true=>
               simp only[X,qR]at u;cases u;simp only[qC]at X;have d7:=qQ X.2;have cb:=qE X.1;subst cb;have bh:=A.locs j;rw[G]at bh;obtain⟨xs,ab,b6,bo⟩:=bh;have ct:∀q,(B j).ownBlock=some q->w0.heap.size<=q:=fun q b=>by
                rcases(bo q b).1 with g|g
                . exact g.2
                . have:=A.nms.1;omega
               replace ab:=pU ab ct;have cj:=fun q b=>(bo q b).2
               have b1:Gw.ev E x=B j:=ax.1;have bp:=F3 ab;rw[<-b1]at ab;refine⟨xs,ab,b6,fun q b=> ?_,A.drop j,fun q b=> ?_⟩
               case refine_2=>
                rw[b1]at b;rcases an with an|an
                . rw[an];exact rM _
                . exact A.mrk.2 j q (an j rfl) (by rw[G];exact bp.trans b)
               rw[b1]at b;refine⟨cj q b,(World.ownsRow.lt ab q (by rw[b1];exact b)).1,fun bs ag=> ?_⟩;simp only[dropR,St.L_setL]at ag;by_cases bb:bs=j
               . rw[qS bb]at ag;exact ag.elim
               . rw[qL bb]at ag;exact A.disj bs j q bb ag (by rw[G];exact bp.trans b)
            . cases u
          . cases u
        . rename_i d6;cases Q:DD d6 with
          |false=>simp[Q]at u
          |true=>
           simp[Q]at u;subst u;have ag:Gw.ev E x= .slice none 0 0:=by rw[ax.1.1];exact Uk Q
           refine⟨[],by rw[ag];exact World.ownsRow_nil _ _ _ _,rfl,fun q b=> ?_,A,fun q b=> ?_⟩<;>(rw[ag]at b;cases b)
        . cases u
       obtain⟨xs,ab,b6,b2,bc,cv⟩:=cn;obtain⟨d5,b4,a4,cl,b9,bi,ca⟩:=TW (P:=cx.P) (ty:=ty) I cd z cr d0 (qQ o.2) ab (ao:=ao) (m:=bw.length) (c:=bx) (news:=c2) cc (fun a1 ax=>c9 a1 ax) (fun Q=>by have:=ci Q;omega) (F8.oneCell b7) c5 (by rw[f];exact c4) A.ext.size;have ac:∀q,(Z q\/∃j,A9 w (B j) ((dropR ah a1).L j) q)->b4.heap[q]? =w.heap[q]?:=fun q b=>by
        refine b9.block q ?_ (fun F=> ?_)
        . rcases b with b| ⟨j,G⟩
          . exact A.zlt q b
          . exact((bc.locs j).root G).2.1
        . have:=b2 q F.symm;rcases b with b| ⟨j,G⟩
          . exact this.1 b
          . exact this.2.2 j G
       have W:=bc.keep (Z':=Z) (A.ext.grown b9 ca (fun q b=> .inl (b2 q b).2.1)) b9.size ac (fun _=>id) (fun _=> .inl);have cs:O3 Z w b4:=fun q b=>ac q (.inl b)
       have bl:∀j q,A9 b4 (B j) ((dropR ah a1).L j) q->A9 w (B j) ((dropR ah a1).L j) q:=fun j q hf=>(A9.iff fun c D=>ac c (.inr ⟨j,D⟩)).1 hf
       obtain⟨B',M⟩:=W.newRow d (l:=l++bw) (by rw[rO];exact cl) ((b6.append b7).mono fun _ _=>C4.mono (fun _=>id) cs) (fun q b=>by
        rcases bi with ag|ag
        . rw[ag]at b;exact⟨(b2 q b).1,fun j G=>(b2 q b).2.2 j (bl j q G)⟩
        . rw[ag]at b;cases b;exact⟨fun z=>absurd (A.zlt _ z) (xO _),fun j G=>absurd ((bc.locs j).root (bl j _ G)).2.1 (xO _)⟩) (fun q b1 b=>by
        rcases bi with ag|ag
        . rw[ag]at b;exact cv q b
        . rw[ag]at b;cases b;exact A.mrk.1)
       have b5:ak= #[x,ai]:=by rw[<-af]
       have be:aw= #[T,T]:=by rw[<-ar]
       subst b5 be;refine U9 (v:=d5) (w':=b4) (fun _ _ _ _=> ?_) O ⟨fun F=>(by cases F),_,_,_,M,H⟩;simp[execOp,resolve,invoke,builtin,cu,a4]
   . cases a
 . rename_i T d2;simp only[qH,bind_some]at a;obtain⟨ti,N,a⟩:=a;split at a
   . rename_i a6 a7 a8 a9 Y;cases a;obtain⟨B',M⟩:=h.newMap d a6 a7 a8 a9;exact U9 A6j O ⟨fun _=>R7.alloc w _,_,_,_,M,H⟩
   . rename_i a6 a7 a8 a9 au Y;simp only[qK]at a;obtain⟨n,Q,a⟩:=a;cases a;obtain⟨I,_⟩:=Vq (B8 a0 N) Y;obtain⟨db,aj,_⟩:=h.int (F7 E) Q;obtain⟨B',M⟩:=h.newMap d a6 a7 a8 a9;refine U9 (v:= .map (some w.heap.size)) (w':=w.alloc (.map #[] 0)) (fun _ _ _ _=> ?_) O ⟨fun _=>R7.alloc w _,_,_,_,M,H⟩;simp[execOp,Instr.makeMap,aj,run_underlying I,asInt,go_sem]
   . cases a
 . rename_i ak aw;split at a
   . rename_i x T af ar;simp only[qH,bind_some]at a;obtain⟨ti,N,a⟩:=a;split at a
     . rename_i a6 a7 a8 a9 Y;simp only[bind_some]at a;obtain⟨c,⟨s,ap,aq⟩,aa,a3,a⟩:=a;cases a;have ay:(aa.length:Int)<=9223372036854775807:=by have:aa.length<=9223372036854775807:=b3;omega
       have b5:ak= #[x]:=by rw[<-af]
       have be:aw= #[T]:=by rw[<-ar]
       subst b5 be;obtain⟨I,_⟩:=Vq (B8 a0 N) Y;have y:=h.c1 (F7 E) (bind_some.2 ⟨s,ap,aq⟩);have ce:NH .i64 (aa.length:Int):=by
        unfold NH;have aj:i64.min= -9223372036854775808:=by decide
        have j:i64.max=9223372036854775807:=by decide
        omega
       have cy:Gw.E7 cx.P E ty (.call ⟨.builtin .len, #[x], #[T]⟩) w (.int .i64 (aa.length:Int)) w:=by
        intro _ _ _ _;rcases A2a h y.1 a3 with⟨e,Q⟩ | ⟨i,a2,V,e,cg,f,X⟩
        . simp[execOp,resolve,invoke,builtin,Builtin.len_,e,run_underlying I,goInt,Q]
        . have bm:(getObj i).run cx.P w= .ok (.map a2 V) w:=by simp[getObj,Sem.run,f]
          have u:=R6.len X;simp[execOp,resolve,invoke,builtin,Builtin.len_,e,run_underlying I,bm,goInt]at u⊢;exact tS Int.ofNat u
       exact U9 cy O ⟨fun _=>R7.refl w,_,_,_,h.setS d (x:=one1 (.val (.int .i64) (aa.length:Int))) ⟨_,[],rfl,⟨rfl,ce⟩,rfl⟩ (fun c D=>by simp at D;subst D;trivial),H⟩
     . cases a
   . cases a
 . rename_i T x;simp only[qK]at a;obtain⟨d4,u,a⟩:=a;cases a;obtain⟨v,B',y,ae⟩:=lH (ty:=ty) h a0 u;exact U9 (y w (R7.refl w)) O ⟨fun _=>R7.refl w,_,_,_,ae,H⟩
 . rename_i T x;simp only[qH,bind_some]at a;obtain⟨ti,N,a⟩:=a;split at a
   . rename_i a6 a7 a8 a9 Y;simp only[bind_some]at a;obtain⟨c,⟨s,ap,aq⟩,aa,a3,a⟩:=a;cases a;obtain⟨I,_⟩:=Vq (B8 a0 N) Y;obtain⟨Z1,y⟩:=h.settleO x;have D:=(y.c1 (F7 E) (bind_some.2 ⟨s,ap,aq⟩)).1;have bf:∀au,(Instr.range T (Gw.ev E x)).run cx.P w= .ok (.pointer (some ⟨w.heap.size,0,none⟩)) (w.alloc au)->ItR (w.alloc au) Z1 a6 a7 a8 a9 w.heap.size aa none->I5 cx.P all ⟨some d, .range T x,ty,pos,aft,g⟩ (iW za w0 w (wrB (.range T x)) k) E w:=fun au a4 ba=>by
      have r:R7 w (w.alloc au):=R7.alloc w _;have W:=y.more (Z':=Z1) r (fun _=>id) (fun _=> .inl);have ae:=W.new (v:= .pointer (some ⟨w.heap.size,0,none⟩)) (lc:= .iter a6 a7 a8 a9 aa none) ⟨w.heap.size,C2 _ _ _, .inl ⟨y.nms.2,h.ext.size⟩,fun z=>absurd (y.zlt _ z) (xO _),ba⟩
       (fun k i f j=>by
        simp only[A9,root,rC]at f;have:=((y.locs k).root (y.ft r j)).2.1;omega)
       trivial rfl (fun i _ f=>by simp only[A9,root,rC]at f;have:=h.mrk.1;omega)
      have M:=ae.setS d (x:=one1 (.box (settleO st x).nx 0)) (v:= .pointer (some ⟨w.heap.size,0,none⟩)) ⟨_,[],rfl,⟨w.heap.size,C2 _ _ _,rfl⟩,rfl⟩ (fun c D=>by simp at D;subst D;exact rU _);exact U9 (fun _ _ _ _=>by simp[execOp,a4]) O ⟨fun _=>r,_,_,_,M,H⟩
     unfold B2e at a3;split at a3
     . split at a3
       . rename_i b8;subst b8;cases a3;rcases D with⟨e,Q⟩ | ⟨i,a2,V,e,f,F,ch,X⟩
         . simp only[sI,vJ]at e;exact bf (.mapIter none 0 #[] 0) (by rw[e];exact run_range_nilMap (P:=cx.P) w T _ _ I) (.inl ⟨heap_alloc_new w _,Q,rfl⟩)
         . simp only[sI,vJ]at e;have cg:=y.zlt i f;have bm:(getObj i).run cx.P w= .ok (.map a2 V) w:=by simp[getObj,Sem.run,F]
           have ac:O3 Z1 w (w.alloc (.mapIter (some i) V #[] V)):=fun q b=>(R7.alloc w _).block q (y.zlt q b)
           refine bf (.mapIter (some i) V #[] V) (by rw[e];exact run_range_map (P:=cx.P) w T _ _ i a2 V I F) (.inr ⟨i, #[],a2,V,heap_alloc_new w _,f,(ac i f).trans F,ch, ?_,fun x r=>by cases r⟩);have cf:leftOf a2 #[]=a2:=by simp[leftOf]
           rw[cf];exact Qw.mono (fun _=>id) ac X
       . cases a3
     . cases a3;have e:Gw.ev E x= .map none:=D.1;exact bf (.mapIter none 0 #[] 0) (by rw[e];exact run_range_nilMap (P:=cx.P) w T _ _ I) (.inl ⟨heap_alloc_new w _,rfl,rfl⟩)
     . cases a3
   . cases a
 . rename_i x;simp only[qH,bind_some]at a;obtain⟨c,⟨s,ap,aq⟩,a⟩:=a;split at a
   . rename_i q d1;split at a
     . rename_i a6 a7 a8 a9 left ai b;cases o:Nat.beq d1 0 with
       |false=>simp only[o,rD]at a;cases a
       |true=>
        simp only[o,qR]at a;cases a;have ab:=qE o;subst ab;obtain⟨i,A,an⟩:=(h.c1 (F7 E) (bind_some.2 ⟨s,ap,aq⟩)).1;have j:=h.locs q;rw[b]at j;obtain⟨d2,az,_,_,ba⟩:=j;rw[A]at az;cases az;rcases ba with⟨_,_,Q⟩ | ⟨m,seen,a2,V,ax,b7,b1,b2,b9,b4⟩
        . cases Q
        . obtain⟨e,X,⟨b6,ag⟩,G,a1⟩:=b4 ai rfl;subst ag;have a4:=run_entry_at (P:=cx.P) w i m V b6 a2 V e ax b1 X b2.2;refine U9 (v:= .tuple #[e.key,e.val]) (w':=w) (fun _ _ _ _=>by simp[execOp,an,a4]) O ⟨fun _=>R7.refl w,_,_,_,h.setS d (x:= .tup [⟨a6,explode a7 ai.1⟩,⟨a8,explode a9 ai.2⟩]) ⟨[e.key,e.val],rfl,_,_,rfl,Bb.explode G,_,_,rfl,Bb.explode a1,rfl⟩ (fun s a c D=> ?_),H⟩;simp only[qG,rY,vF]at a;rcases a with rfl|rfl<;>exact E2 c D
     . cases a
   . cases a
 . rename_i ak aw;split at a
   . rename_i x ai T sT af ar;obtain⟨ah,cp,a⟩:=qK.1 a;cases a;have c0:ak= #[x,ai]:=zS.1 af;have c3:aw= #[T,sT]:=zS.1 ar;subst c0 c3;obtain⟨v,w',B',a5,az⟩:=A8e (ty:=ty) (sT:=sT) h a0 cp;exact U9 a5 O ⟨fun F=>(by cases F),_,_,_,az,H⟩
   . cases a
 . cases a
end
def AR (off n:Nat) (cs a:List C):List C:=cs.take off++a++cs.drop (off+n)
def A1a (a:St) (k r:Nat) (lc:LC):St:=(((a.setL r .none).setL k .none).setL k lc).setL r (.al k)
def hoP (i:Nat):Option Nat->Option Prop
 |none=>none
 |some j=>some (i=j)
def attach (a:St) (k r i:Nat) (t:Ty) (e e':TypeId) (ls:List (List t.den)) (c:Option Nat):Option (Option Prop×St):=match a.L r with
 | .row d b l=>if h:d=t then(bif Nat.beq b e'&&Nat.ble a.nm r&&Nat.ble a.nm k&&Nat.blt k r then some (hoP i c,A1a a k r (.rows t e e' (ls.set i (h▸l)) [(i,r)] none))else none)else none
 | _=>none
def iD (ti:TI) (a:St) (s:SV) (k sz i off:Nat):Option St:=match a.L k with
 | .row t e l=>bif s.cs.all Fc&&Nat.beq s.cs.length ti.ty.size&&Nat.beq sz t.size&&Nat.ble (off+ti.ty.size) t.size then
  (match Mm t (AR off ti.ty.size (explode t (l.getD i t.dflt)) s.cs)with
   |some (x,[])=>some (a.setL k (.row t e (l.set i x)))
   | _=>none)else none
 | .al j=>match a.L j with
  | .rows t e d c al none=>match PM k al with
   |some b=>bif s.cs.all Fc&&Nat.beq s.cs.length ti.ty.size&&Nat.beq sz t.size&&Nat.ble (off+ti.ty.size) t.size then
    (match Mm t (AR off ti.ty.size (explode t ((c.getD b []).getD i t.dflt)) s.cs)with
     |some (x,[])=>some (a.setL j (.rows t e d (c.set b ((c.getD b []).set i x)) al none))
     | _=>none)else none
   |none=>none
  | _=>none
 | _=>none
def XP (cx:Cx) (a:St) (T:TypeId) (p v:Operand):Option (Option Prop×St):=do
 let ti<-cx.ti T
 let c<-(a.ev [] p).bind c1
 match c with
 | .box k c=>do
  let s<-a.ev [] v
  match a.L k with
  | .box T' b=>bif s.cs.all Fc&&Nat.beq s.cs.length ti.ty.size&&Nat.ble (c+ti.ty.size) b.length then some (none,a.setL k (.box T' (AR c ti.ty.size b s.cs)))else none
  | _=>none
 | .elp k sz i b=>match a.L k with
  | .rows t e c f _ d=>match a.ev [] v with
   |some ⟨false,[.row r]⟩=>bif Nat.beq sz 1&&Nat.beq b 0&&Nat.beq ti.ty.size 1 then attach a k r i t e c f d else none
   | _=>none
  | _=>do
   let s<-(settleO a v).ev [] v
   (iD ti (settleO a v) s k sz i b).map fun c=>(none,c)
 | _=>none
def mapM (d:St) (c:Bool) (a:Ty) (g:Bool) (b:Ty) (k:Nat):Option (List (a.den×b.den)):=match d.L k with
 | .map d f h i j=>if l:Ty.mp d f h i=Ty.mp c a g b then some (l▸(show(Ty.mp d f h i).den from j):(Ty.mp c a g b).den)else none
 | _=>none
def VQ (cx:Cx) (a:St) (d:Tmp) (T:TypeId) (m x:Operand):Option St:=none
def US (a:St) (m s y:Operand):Option St:=none
def NL (cx:Cx) (a:St) (T:TypeId) (m x y:Operand):Option St:=do
 let ti<-cx.ti T
 let c<-((settleO a y).ev [] m).bind c1
 let i<-(settleO a y).ev [] x
 let j<-(settleO a y).ev [] y
 match ti.ty,c with
 | .mp c b d f, .mp k=>do
  let g<-mapM (settleO a y) c b d f k
  let h<-Rx c b i
  let v<-Rx d f j
  some ((settleO a y).setL k (.map c b d f (Fh b h v g)))
 | _,_=>none
section
variable {za:Zn} {w0 w w':World} {Z Z':Nat->Prop} {B:Nat->Value} {st st':St} {E:F9} {cx:Cx} {φ:Option Prop} {d:Tmp} {all:List Oper} {ty:TypeId} {pos:String} {aft:Array Edge} {g:Option (Nat×Bool)} {k:St->Prop}
def Dm.one (h:B7 za w0 st E w Z B):∀ {cs:List C} {vs:List Value},cs.all Fc=true->Dm w Z B cs vs->∀u∈vs,u.oneCell'=true
 | [],_,_,a=>by rw[show _= _ from a];exact Lc
 |c::cs,_,a,⟨v,f,e,b,d⟩=>by
  simp only[sW,qC]at a;rw[e];exact Ml (RC.one h a.1 b) (Dm.one h a.2 d)
def dH {off n:Nat} {cs a:List C} {vs us:List Value} (h:Dm w Z B cs vs) (b:Dm w Z B a us) (c:a.length=n):Dm w Z B (AR off n cs a) (vs.take off++us++vs.drop (off+us.length)):=by
 have:us.length=n:=by rw[<-c,b.len]
 rw[this];exact((h.take off).append b).append (h.drop (off+n))
def mS {b:Type} {cur us:List b} {n a sz off m:Nat} (c:us.length=m) (d:a+sz<=n) (f:n<=cur.length) (g:off+m<=sz):
 (cur.take (a+off)++us++cur.drop (a+off+m)).take n=(cur.take n).take a++((((cur.take n).drop a).take sz).take off++us++(((cur.take n).drop a).take sz).drop (off+m))++(cur.take n).drop (a+sz):=by
 have b:(cur.take n).take a=cur.take a:=by rw[g0r,sU (by omega)]
 have d:((cur.take n).drop a).take sz=(cur.drop a).take sz:=by rw[g0p,g0r,sU (by omega)]
 have f:((cur.drop a).take sz).take off=(cur.drop a).take off:=by rw[g0r,sU (by omega)]
 have g:((cur.drop a).take sz).drop (off+m)=(cur.drop (a+off+m)).take (sz-(off+m)):=by rw[g0p,vP,uG]
 have h:(cur.take n).drop (a+sz)=(cur.drop (a+sz)).take (n-(a+sz)):=by rw[g0p]
 have i:cur.take a++(cur.drop a).take off=cur.take (a+off):=by rw[List.take_add]
 have j:(cur.drop (a+off+m)).take (sz-(off+m))++(cur.drop (a+sz)).take (n-(a+sz))=(cur.drop (a+off+m)).take (n-(a+off+m)):=by
  have:n-(a+off+m)=(sz-(off+m))+(n-(a+sz)):=by omega
  rw[this,List.take_add,vP];congr 3;omega
 rw[b,d,f,g,h];have b:(cur.take (a+off)).length=a+off:=by rw[qW];omega
 rw[zU,qV (by rw[rO,b,c];omega),rO,b,c, <-j, <-i];simp only[uB]
def frE (k0 k:Nat) (a b:LC):Bool:=match a with
 | .rows _ _ _ _ _ _=>Nat.ble k0 k
 | _=>match b with
  | .al j=>Nat.ble k0 j
  | _=>Nat.ble k0 k
def frO (k0:Nat) (st:St):Op->Bool
 | .store _ p v=>match(st.ev [] p).bind c1 with
  |some (.box k _)=>Nat.ble k0 k
  |some (.elp k _ _ _)=>frE k0 k (st.L k) ((settleO st v).L k)
  | _=>false
 | _=>false
def CM {B0 b:Nat} (a:ZC b w w') (c:B0<=b):Below B0 w w'/\True:=⟨⟨a.1,a.2.1,a.2.2.1.1,by rw[a.2.2.2.1];exact qZ _,fun k c=>a.2.2.2.2 k (by omega)⟩,trivial⟩
def V2 {b:Type} {c:Bool} {a:Option b} {x:b} (h:(bif c then a else none)=some x):c=true/\a=some x:=by
 cases c with
 |true=>exact⟨rfl,h⟩
 |false=>cases h
def B8k {k0 sz i off q:Nat} {T:TypeId} {p v:Operand} (a:frO k0 st (.store T p v)=true) (b:(st.ev [] p).bind c1=some (.elp q sz i off)) (d:(match(settleO st v).L q with| .al _=>false| _=>true)=true):k0<=q:=by
 simp only[frO,b]at a;generalize st.L q=b at*;generalize (settleO st v).L q=c at*;unfold frE at a;cases b<;>cases c<;>simp at d a<;>exact a
def B8j {k0 sz i off q j:Nat} {T:TypeId} {p v:Operand} (a:frO k0 st (.store T p v)=true) (f:(st.ev [] p).bind c1=some (.elp q sz i off)) (d:∀t e e' ls al c,st.L q= .rows t e e' ls al c->False) (b:(settleO st v).L q= .al j):k0<=j:=by
 simp only[frO,f,b]at a;cases b:st.L q with
 |rows t e e' ls al c=>exact(d _ _ _ _ _ _ b).elim
 | _=>simp[b,frE]at a;exact a
def bE {v:Value} (h:v.oneCell'=true):v.cells.toList= [v]:=by
 have:v.cells= #[v]:=by cases v<;>simp[Value.cells,Value.oneCell']at h⊢
 rw[this]
def cZ {P:Program} (j:B7 za w0 st E w Z B) {T e:TypeId} {p v:Operand} {t:Ty} {l:List t.den} {xs:List Value} {b m d i off n:Nat} {s:SV} {x:t.den} (X:Sv P T n=true) (y:w.ownsRow 0 e t.size (.slice (some ⟨b,0,none⟩) m d) l.length xs) (u:F8 (C4 t w Z) xs l) (W:¬Z b) (f:i<m) (a0:Gw.ev E p= .pointer (some ⟨b,i*t.size+off,none⟩))
 (o:Dm w Z B s.cs (Gw.ev E v).cells.toList) (V:s.cs.all Fc=true) (F:s.cs.length=n) (N:off+n<=t.size) (I:Mm t (AR off n (explode t (l.getD i t.dflt)) s.cs)=some (x,[])):
 ∃w',Gw.PC P E ty (.store T p v) w w'/\ZC b w w'/\∃a,w'.ownsRow 0 e t.size (.slice (some ⟨b,0,none⟩) m d) (l.set i x).length a/\F8 (C4 t w' Z) a (l.set i x):=by
 have c:(Gw.ev E v).cells.toList.length=n:=by rw[<-F,o.len]
 rcases y.2 with⟨a,_⟩ | ⟨A,H,g,a,J,D,G,M,r,Y⟩
 . cases a
 . cases a;have y:=F8.length (R:=C4 t w Z) (s:=t.size) (fun _ _ h=>C4.length h) u;have O:=F8.get (R:=C4 t w Z) (s:=t.size) (fun _ _ h=>C4.length h) u (qT f);have y:l.getD i t.dflt=l[i]:=by rw[qF,qT f];rfl
   rw[y]at I;have Q:i*t.size+t.size<=l.length*t.size:=by rw[<-uJ];exact rL _ f
   have U:l.length*t.size<=d*t.size:=rL _ G;generalize A:(Gw.ev E v).cells.toList=y at*;have H:=SX (P:=P) (ty:=ty) (w:=w) y a0 rfl A X c D (by rw[c,r];omega) (Dm.one j V o);generalize A:(g.toList.take (i*t.size+off)++y++g.toList.drop (i*t.size+off+y.length)).toArray=j at H;have y:ZC b w (w.setRow b j):=⟨rfl,rfl,⟨rfl,qZ _⟩,by simp,fun k hk=>setRow_other w b k _ hk⟩;have X:O3 Z w (w.setRow b j):=fun z hz=>y.2.2.2.2 z (fun a=>W (a▸hz))
   have V:=Gx (dH (off:=off) (T7 (B:=B) O) o F) I;have a:=F8.set (R:=C4 t w Z) (s:=t.size) (fun _ _ h=>C4.length h) u V f;refine⟨_,H,y,_, ?_,a.mono fun _ _=>C4.mono (fun _=>id) X⟩;rw[qN];have f:=F8.length (R:=C4 t w Z) (s:=t.size) (fun _ _ h=>C4.length h) a;refine⟨by rw[f,qN], .inr ⟨b,d,j,rfl,J,setRow_heap w b g _ e _ D,G,M, ?_, ?_⟩⟩
   . rw[<-A];simp only[zO,rO,qW,sL,sP,r,c];omega
   . rw[<-A];simp only[g0k];rw[c, <-Y];exact mS c Q (by simpa[r]using U) N
def B7.attach (h:B7 za w0 st E w Z B) {k r i g:Nat} {t:Ty} {e e':TypeId} {ls:List (List t.den)} {al:List (Nat×Nat)} {o:Option Nat} {l:List t.den} {xs:List Value} (u:st.L k= .rows t e e' ls al o) (c:st.L r= .row t e' l) (H:k≠r) (T:st.nm<=k) (a:st.nm<=r) (a0:i<ls.length) (G:∀j,o=some j->i=j)
 (f:w.ownsRow 0 e 1 (B k) ls.length xs) (I:root (B k)=some g) (s:ZC g w w') (J:w'.ownsRow 0 e 1 (B k) ls.length (xs.set i (B r))) (a2:za.k0<=k->∀b,root (B r)=some b->za.b0<=b):B7 za w0 (A1a st k r (.rows t e e' (ls.set i l) [(i,r)] none)) E w' Z B:=by
 have a:=h.locs k;have d:=h.locs r;rw[u]at a;rw[c]at d;obtain⟨x,A,⟨n,R,X⟩,P,v⟩:=a;have a:=Zv f A;subst a;obtain⟨a6,V,a5,a⟩:=d;have D:A9 w (B k) (st.L k) g:=by rw[u];exact .inl I
 have y:¬Z g:=((h.locs k).root D).2.2;have Q:O3 Z w w':=fun n hc'=>s.2.2.2.2 n (fun e=>y (e▸hc'))
 have z:∀b,root (B r)=some b->A9 w (B r) (st.L r) b:=fun b a=>by rw[c];exact a
 have a4:root (B r)≠some g:=fun a=>h.disj k r g H D (z g a)
 have a1:k<st.nx:=Fb h (by rw[u];trivial);have U:r<st.nx:=Fb h (by rw[c];trivial);have c:xs.length=ls.length:=by have:=A.1;omega
 have M:∀b,A9 w' (B k) (.rows t e e' (ls.set i l) [(i,r)] none) b->root (B r)=some b\/A9 w (B k) (st.L k) b:=fun b a=>by
  rcases a with a| ⟨O,Y,c,f,v,j,x,F,N,W,_,d,a⟩
  . exact .inr (by rw[u];exact .inl a)
  . have f:(xs.set i (B r))[j]? =some x:=by
     rcases J.2 with⟨c,_⟩ | ⟨a3,W,Y,c,_,v,a7,_,a8,O⟩
     . rw[F]at c;cases c
     . rw[F]at c;cases c;rw[N]at v;cases v;rw[<-O,rS (by omega)];simpa using d
    by_cases c:i=j
    . subst c;rw[sZ (by omega)]at f;cases f;exact .inl a
    . rw[tC c]at f;refine .inr ?_;rw[u];have v:Kb o j=false:=by
       cases o with
       |none=>rfl
       |some q=>have:=G q rfl;subst this;exact C8 c
      exact Ze A v f a
 have f:=(h.drop r).drop k;have O:B7 za w0 ((st.setL r .none).setL k .none) E w' Z B:=by
  refine f.keep (h.ext.chg s ((h.locs k).root D).1.m) (by rw[s.2.2.2.1];exact qZ _) (fun q f=>s.2.2.2.2 q ?_) (fun _=>id) (fun _=> .inl);rintro rfl;rcases f with f| ⟨j,f⟩
  . exact y f
  . rw[St.L_setL]at f;split at f
    . exact f.elim
    . rename_i v;rw[St.L_setL]at f;split at f
      . exact f.elim
      . exact h.disj j k q v f D
 have Y:∀b,(root (B r)=some b\/A9 w (B k) (st.L k) b)->up za w0 k b/\¬Z b/\b<w.heap.size:=fun b a=>by
  rcases a with a|a
  . obtain⟨f,v,y⟩:=(h.locs r).root (z b a);refine⟨?_,y,v⟩;rcases f with f|f
    . exact .inl ⟨by rw[<-h.nms.1];exact T,f.2⟩
    . have:=h.nms.1;omega
  . obtain⟨f,v,y⟩:=(h.locs k).root a;exact⟨f,y,v⟩
 have a3:∀(j:Nat) (v:List t.den) (x:Value),i≠j->ls[j]? =some v->xs[j]? =some x->Kb o j=false/\∃f,w'.ownsRow 0 e' t.size x v.length f/\F8 (C4 t w' Z) f v:=fun j v x c y d=>by
  have F:Kb o j=false:=by
   cases o with
   |none=>rfl
   |some q=>have:=G q rfl;subst this;exact C8 c
  obtain⟨f,N,T⟩:=R j v x F y d;refine⟨F,f,Gv N (fun n R=>s.2.2.2.2 n ?_),T.mono fun _ _=>C4.mono (fun _=>id) Q⟩;rintro rfl;exact P j x n F d ((F3 N).trans R) I
 have F:∀(j:Nat) (x:Value),i≠j->(xs.set i (B r))[j]? =some x->xs[j]? =some x/\Kb o j=false:=fun j x c d=>by
  rw[tC c]at d;refine⟨d, ?_⟩;cases o with
  |none=>rfl
  |some q=>have:=G q rfl;subst this;exact C8 c
 have o:(xs.set i (B r))[i]? =some (B r):=sZ (by omega);have W:B7 za w0 (((st.setL r .none).setL k .none).setL k (.rows t e e' (ls.set i l) [(i,r)] none)) E w' Z B:=by
  refine O.addL a1 ⟨_,by rw[qN];exact J,⟨fun p G=> ?_,fun j v x _ y d=> ?_,fun j J x O b R _ _ d I a f=> ?_⟩,fun j x b _ d a=> ?_,fun b a=> ?_⟩ (fun j b N a f=> ?_) (fun p G=> ?_) (fun b T a=> ?_)
  . simp only[qP]at G;subst G;exact o
  . by_cases c:i=j
    . subst c;rw[sZ a0]at y;rw[o]at d;cases y;cases d;exact⟨a6,Gv V (fun n a0=>s.2.2.2.2 n (fun e=>a4 (e▸(F3 V).trans a0))),a5.mono fun _ _=>C4.mono (fun _=>id) Q⟩
    . rw[tC c]at y;exact(a3 j v x c y (F j x c d).1).2
  . by_cases c:i=j
    . subst c;rw[o]at d;cases d;have:=F J O R I;exact h.disj k r b H (by rw[u];exact Ze A this.2 this.1 f) (z b a)
    . have v:=F j x c d;by_cases Q:i=J
      . subst Q;rw[o]at I;cases I;exact h.disj k r b H (by rw[u];exact Ze A v.2 v.1 a) (z b f)
      . have y:=F J O Q I;exact X j J x O b R v.2 y.2 v.1 y.1 a f
  . by_cases c:i=j
    . subst c;rw[o]at d;cases d;exact fun f=>h.disj k r b H (by rw[u];exact .inl f) (z b a)
    . have:=F j x c d;exact P j x b this.2 this.1 a
  . obtain⟨c,d,o⟩:=Y b (M b a);exact⟨c,d,by rw[s.2.2.2.1];exact o⟩
  . rw[St.L_setL,qL N,St.L_setL]at f;split at f
    . exact f.elim
    . rename_i d;have c:A9 w (B j) (st.L j) b:=(A9.iff fun n hcf=>s.2.2.2.2 n (fun e=>h.disj j k n N hcf (e▸D))).1 f;rcases M b a with a|a
      . exact h.disj j r b d c (z b a)
      . exact h.disj j k b N c a
  . simp only[qP]at G;subst G;exact U
  . rcases M b a with a|a
    . exact a2 T b a
    . exact h.mrk.2 k b T a
 exact W.addL U trivial (fun _ _ _ a=>a.elim) trivial (fun _ _ a=>a.elim)
def dI (h:B7 za w0 st E w Z B) (c:H3 cx.P cx.tys=true) {T:TypeId} {p v:Operand} (a:XP cx st T p v=some (φ,st')) (an:PS φ) (A:k st') (M:E5 all ⟨none, .store T p v,ty,pos,aft,g⟩ E=true):I5 cx.P all ⟨none, .store T p v,ty,pos,aft,g⟩ (fun E' w'=>(frO za.k0 st (.store T p v)=true->Below za.b0 w w'/\True)/\Nx za w0 k E' w') E w:=by
 simp only[XP,qH,bind_some]at a;obtain⟨ti,b,F,⟨W,R,Q⟩,a⟩:=a;have a2:=(O2 (B8 c b)).1;have s:=h.c1 (F7 E) (bind_some.2 ⟨W,R,Q⟩);split at a
 . rename_i q u;simp only[bind_some]at a;obtain⟨V,a6,a⟩:=a;split at a
   . rename_i T' t j;cases b:V.cs.all Fc&&Nat.beq V.cs.length ti.ty.size&&Nat.ble (u+ti.ty.size) t.length with
     |false=>simp only[b,rD]at a;cases a
     |true=>
      simp only[b,qR]at a;cases a;simp only[qC]at b;have N:=qE b.1.2;have a0:=qQ b.2;obtain⟨i,X⟩:=h.ev (F7 E) a6;have H:=RS.cells h i b.1.1;have r:=h.locs q;have x:=h.refl q;rw[j]at r x;obtain⟨c,l,e,Y,I,y,U⟩:=r;obtain⟨f,G,O⟩:=s.1;rw[e]at G;cases G;have f:(Gw.ev E v).cells.toList.length=ti.ty.size:=by rw[<-N,H.len]
      have D:=SX (P:=cx.P) (ty:=ty) (w:=w) (Gw.ev E v).cells.toList O rfl rfl a2 f y (by rw[f];have:=U.len;simp at this;omega) (Dm.one h b.1.1 H);have o:ZC c w (w.setRow c (l.toList.take u++(Gw.ev E v).cells.toList++l.toList.drop (u+(Gw.ev E v).cells.toList.length)).toArray):=⟨rfl,rfl,⟨rfl,qZ _⟩,by simp,fun k A=>setRow_other w c k _ A⟩;have z:root (B q)=some c:=by rw[e];rfl
      have a1:O3 Z w (w.setRow c (l.toList.take u++(Gw.ev E v).cells.toList++l.toList.drop (u+(Gw.ev E v).cells.toList.length)).toArray):=fun a7 a3=>o.2.2.2.2 a7 (fun f=>I (f▸a3))
      have J:∀F∈AR u ti.ty.size t V.cs,Ch st.nx F:=fun F s=>by
       simp only[AR,qX]at s;rcases s with(s|s) |s
       . exact x F (rX s)
       . exact X F s
       . exact x F (vD s)
      refine AT D M ⟨fun f=>CM o (h.mrk.2 q c (by simp only[frO,show(st.ev [] p).bind c1=some _ from bind_some.2 ⟨W,R,Q⟩]at f;exact qQ f) (by rw[j];exact z)),_,_,_,h.chg (by rw[j];trivial) (by rw[j];exact z) o (lc:= .box T' (AR u ti.ty.size t V.cs)) ⟨c,_,e,Y,I,setRow_heap w c l _ T' _ y, ?_⟩ J (fun _ f=> .inl f),A⟩;exact Dm.mono (n:=st.nx) (fun _=>id) a1 (fun _ _=>rfl) J (by simpa using dH U H N)
   . cases a
 . rename_i q sz t u;split at a
   . rename_i X e G U al ab j;split at a
     . rename_i l y;cases b:Nat.beq sz 1&&Nat.beq u 0&&Nat.beq ti.ty.size 1 with
       |false=>simp only[b,rD]at a;cases a
       |true=>
        simp only[b,qR]at a;simp only[qC]at b;have u:=qE b.1.1;have x:=qE b.1.2;have a9:=qE b.2;subst u x;unfold Vc.attach at a;split at a
        . rename_i x u ad ac;split at a
          . rename_i x;subst x;cases I:Nat.beq u G&&Nat.ble st.nm l&&Nat.ble st.nm q&&Nat.blt q l with
            |false=>simp only[I,rD]at a;cases a
            |true=>
             simp only[I,qR]at a;cases a;simp only[qC]at I;have u:=qE I.1.1.1;subst u;have ak:q<l:=qQ I.2;obtain⟨Y,af⟩:=h.ev (F7 E) y;obtain⟨ao,J,u,x,y⟩:=Y;cases u;have J:Gw.ev E v=B l:=x;have r:=h.locs q;rw[j]at r;obtain⟨ae,i,_⟩:=r;obtain⟨c,m,a4,x,a1,O⟩:=s.1;have y:m=U.length:=by
              rw[x]at i;rcases i.2 with⟨f,_⟩ | ⟨_,_,_,f,_⟩<;>cases f
              rfl
             subst y;have a8:(B l).oneCell'=true:=h.bone l;have ah:(Gw.ev E v).cells.toList= [B l]:=by rw[J];exact bE a8
             have y:=i;rw[x]at y;rcases y.2 with⟨f,_⟩ | ⟨ap,aq,J,f,ag,aa,aj,ai,a5,am⟩
             . cases f
             . cases f;have D:=SX (P:=cx.P) (ty:=ty) (w:=w) [B l] O rfl ah a2 (by rw[a9];rfl) aa (by rw[a5];simp;omega) (fun ao u=>by simp at u;subst u;exact a8);generalize a9:(J.toList.take (t*1+0)++ [B l]++J.toList.drop (t*1+0+ [B l].length)).toArray=a8 at D;have o:ZC c w (w.setRow c a8):=⟨rfl,rfl,⟨rfl,qZ _⟩,by simp,fun k A=>setRow_other w c k _ A⟩;have z:root (B q)=some c:=by rw[x];rfl
               have ah:A9 w (B q) (st.L q) c:=by rw[j];exact .inl z
               refine AT D M ⟨fun f=>CM o (h.mrk.2 q c (by simp only[frO,show(st.ev [] p).bind c1=some _ from bind_some.2 ⟨W,R,Q⟩,j,frE]at f;exact qQ f) ah),_,_,_,h.attach j ac (tT ak) (qQ I.1.2) (qQ I.1.1.2) a1 (fun u y=> ?_) i z o ?_ ?_,A⟩
               . subst y;exact an
               . rw[x];refine⟨by rw[qN];exact i.1, .inr ⟨c,a4,a8,rfl,ag,setRow_heap w c J _ e _ aa,aj,ai, ?_, ?_⟩⟩
                 . rw[<-a9];simp only[zO,rO,qW,sL,sP,a5,rI,xF];omega
                 . rw[<-a9, <-am];simp only[g0k];apply wN;intro u;have I:J.toList.length=a4*1:=by rw[sP,a5]
                   simp only[yM,tB,rI,xF,sE];by_cases y:u<U.length
                   . rw[rS y];by_cases I:t=u
                     . subst I;rw[sZ (by rw[qW];omega),uB,uC (by rw[qW];omega),qW];rw[show t-min t J.toList.length=0 from by omega];rfl
                     . rw[tC I,rS y,uB];by_cases I:u<t
                       . rw[wA (by rw[qW];omega),rS I]
                       . rw[uC (by rw[qW];omega),qW,show min t J.toList.length=t from by omega];obtain⟨d,b⟩:∃d,u-t=d+1:=⟨u-t-1,by omega⟩;rw[b];simp only[wD,vG,uF,wX];rw[show t+1+d=u from by omega]
                   . rw[rV (by rw[qW];omega),rV (by rw[qN,qW];omega)]
               . exact fun a5 I J=>h.mrk.2 l I (by omega) (by rw[ac];exact J)
          . cases a
        . cases a
     . cases a
   . rename_i a5;simp only[bind_some,qK]at a;obtain⟨V,a6,I,l,a⟩:=a;cases a;obtain⟨Z1,i⟩:=h.settleO v;have I:=fun X e G U al ab=>a5 X e G U al ab
     obtain⟨Y,af⟩:=i.ev (F7 E) a6;obtain⟨c,m,a4,x,a1,O⟩:=s.1;have z:root (B q)=some c:=by rw[x];rfl
     unfold iD at l;split at l
     . rename_i X e ad j;obtain⟨b,l⟩:=V2 l;simp only[qC]at b;split at l
       . rename_i a8 a4;cases l;have N:=qE b.1.1.2;have V:=qE b.1.2;have a0:=qQ b.2;subst V;have H:=RS.cells i Y b.1.1.1;have r:=i.locs q;rw[j]at r;obtain⟨ae,a6,a9,I⟩:=r;rw[x]at a6 I;obtain⟨w',D,o,aa,J,s⟩:=cZ (P:=cx.P) (ty:=ty) i a2 a6 a9 (I c rfl).2 a1 O H b.1.1.1 N a0 a4;refine AT D M ⟨fun f=>CM o ?_,_,_,_,i.chg (by rw[j];trivial) (by rw[j];exact z) o (lc:= .row X e (ad.set t a8)) ⟨_,by rw[x];exact J,s,fun a7 a3=>by rw[x]at a3;exact I a7 a3⟩ trivial (fun _ f=> .inl f),A⟩;exact i.mrk.2 q c (B8k f (bind_some.2 ⟨W,R,Q⟩) (by rw[j])) (by rw[j];exact z)
       . cases l
     . rename_i u j;split at l
       . rename_i X e G U al y;split at l
         . rename_i G t;obtain⟨b,l⟩:=V2 l;simp only[qC]at b;split at l
           . rename_i a8 a4;cases l;have N:=qE b.1.1.2;have V:=qE b.1.2;have a0:=qQ b.2;subst V;have H:=RS.cells i Y b.1.1.1;have r:=i.locs u;rw[y]at r;obtain⟨ae,X,G,U,V,I,Y⟩:=A2v r t;have G:¬Z1 c:=by
              obtain⟨a8,X,⟨U,a3,a6⟩,a7,V⟩:=r;exact(V c (Ze X rfl (U _ (Rj t)) z)).2.1
             rw[x]at I;obtain⟨w',D,o,aa,J,s⟩:=cZ (P:=cx.P) (ty:=ty) i a2 I Y G a1 O H b.1.1.1 N a0 a4;have b:=B1y r (Rj t) z o G (by rw[x];exact J) s;refine AT D M ⟨fun f=>CM o ?_,_,_,_,i.chg (k:=u) (by rw[y];trivial) (by rw[y];exact b.2.1) o b.1 (by have:=i.refl u;rw[y]at this;exact this) (fun F r=> .inr (by rw[y];exact(Y8 fun g M=>o.2.2.2.2 g (fun e=>b.2.2 (e▸M))).1 r)),A⟩;exact i.mrk.2 u c (B8j f (bind_some.2 ⟨W,R,Q⟩) a5 j) (by rw[y];exact b.2.1)
           . cases l
         . cases l
       . cases l
     . cases l
 . cases a
def mK:∀(v:Value) (n:Nat),(∃k a,v= .int k a)\/(∃b,v= .bool b)->Instr.sameBits n v v=true:=by
 rintro v n (⟨k,a,rfl⟩ | ⟨b,rfl⟩)
 . cases n<;>simp[Instr.sameBits]
 . cases n<;>simp[Instr.sameBits]
def Uy:∀ {t:Ty} {cs:List Value} {x:t.den},Gy t=true->C4 t w Z cs x->∀v∈cs,(∃k a,v= .int k a)\/(∃b,v= .bool b)
 | .int k,_,x,_,h=>by rw[h.1];intro v c;simp at c;exact .inl ⟨_,_,c⟩
 | .bool,_,x,_,h=>by rw[show _= _ from h];intro v c;simp at c;exact .inr ⟨_,c⟩
 | .unit,_,_,_,h=>by rw[show _= _ from h];intro v c;cases c
 | .pair a b,_,_,d,⟨c1,c,e,f,g⟩=>by
  simp only[Gy,qC]at d;rw[e];intro v c;rcases qX.1 c with c|c
  . exact Uy d.1 f v c
  . exact Uy d.2 g v c
 | .str,_,_,h,_=>by cases h
 | .sl _,_,_,h,_=>by cases h
 | .ptr _,_,_,h,_=>by cases h
 | .mp _ _ _ _,_,_,h,_=>by cases h
def mL:∀(cs:List Value) (n:Nat),(∀v∈cs,(∃k a,v= .int k a)\/(∃b,v= .bool b))->(cs.zip cs).all (fun x=>Instr.sameBits n x.1 x.2)=true
 | [],_,_=>rfl
 |c::cs,n,h=>by
  simp only[List.zip_cons_cons,sW,qC];exact⟨mK c n (h c (by simp)),mL cs n (fun v d=>h v (by simp[d]))⟩
def A9t {a:Bool} {t:Ty} {v:Value} {x:t.den} (b:Gy t=true) (h:T4 (C4 t w Z) a v x):Instr.sameBits 10000 v v=true:=by
 cases a with
 |true=>
  obtain⟨cs,e,h⟩:=h;subst e;have:=mL cs 9999 (Uy b h);simp only[Instr.sameBits,beq_self_eq_true,zX];exact this
 |false=>exact mK v 10000 (Uy (cs:= [v]) b h v (by simp))
def A9u {a:Bool} {t:Ty} {v c:Value} {x:t.den} (d:Gy t=true) (h:T4 (C4 t w Z) a v x) (b:T4 (C4 t w Z) a c x):v=c:=by
 cases a with
 |true=>
  obtain⟨cs,e,h⟩:=h;obtain⟨cs',f,b⟩:=b;rw[e,f,Ov d h b]
 |false=>
  have:=Ov (cs:= [v]) (cs':= [c]) d h b;simpa using this
def kH {a:Ty} {d:Type} {Rk:Value->a.den->Prop} {Rv:Value->d->Prop} {k:a.den} {v:d} {kv vv:Value} {cl:Nat} (b:Rk kv k) (g:Rv vv v):∀ {l:List (a.den×d)} {es:List MapEntry} {i:Nat},R6 Rk Rv es l->
 (N4 a k l i=none->R6 Rk Rv (es++ [{key:=kv,val:=vv,born:=cl}]) (Fh a k v l))/\(∀j,N4 a k l i=some (i+j)->R6 Rk Rv (es.modify j fun e=> {e with key:=kv,val:=vv}) (Fh a k v l))
 | [],es,i,h=>by
  rw[show es= []from h];exact⟨fun _=>⟨_,[],rfl,b,g,rfl⟩,fun j c=>by cases c⟩
 |x::l,_,i,⟨e,f,c,h,n,o⟩=>by
  subst c;simp only[N4,Fh];cases f:FV a k x.1 with
  |true=>
   refine⟨fun c=>by simp at c,fun j r=> ?_⟩;simp only[qR,rC]at r;have:j=0:=by omega
   subst this;exact⟨_,_,rfl,b,g,o⟩
  |false=>
   simp only[rD];have c:=kH (cl:=cl) b g (i:=i+1) o;refine⟨fun b=>⟨e,_,rfl,h,n,c.1 b⟩,fun j g=> ?_⟩;cases j with
   |zero=>
    exfalso;have:∀(l:List (a.den×d)) (i j:Nat),N4 a k l i=some j->i<=j:=by
     intro l
     induction l with
     |nil=>intro i j b;cases b
     |cons y l c=>
      intro i j b;unfold N4 at b;cases f:FV a k y.1 with
      |true=>simp[f]at b;omega
      |false=>simp[f]at b;have:=c _ _ b;omega
    have:=this _ _ _ g;omega
   |succ j=>exact⟨e,_,rfl,h,n,c.2 j (by rw[g];congr 1;omega)⟩
def Kd (f:MapEntry->MapEntry) (a:∀e,(f e).born=e.born):∀(l:List MapEntry) (j:Nat),(l.modify j f).map (·.born)=l.map (·.born)
 | [],j=>by cases j<;>rfl
 |x::l,0=>by simp[a]
 |x::l,j+1=>by simp[Kd f a l j]
def cI (h:B7 za w0 st E w Z B) (z:H3 cx.P cx.tys=true) {T:TypeId} {m x y:Operand} (d:NL cx st T m x y=some st'):
 ∃w',Gw.PC cx.P E ty (.mapUpdate T m x y) w w'/\Gw.PC cx.P E ty (.insert T m x y) w w'/\∃Z' B',B7 za w0 st' E w' Z' B':=by
 simp only[NL,qH,bind_some]at d;obtain⟨ti,v,a,⟨H,n,c⟩,b,F,f,r,d⟩:=d;obtain⟨Z1,l⟩:=h.settleO y;split at d
 . rename_i s f t u k b;simp only[bind_some]at d;obtain⟨j,a,key,g,G,D,d⟩:=d;cases d;obtain⟨U,A,_,_⟩:=Vq (B8 z v) b;have I:=l.c1 (F7 E) (bind_some.2 ⟨H,n,c⟩);have n:=Ej (l.ev (F7 E) F).1 g;have Y:=Ej (l.ev (F7 E) r).1 D;have D:=HG A;have N:live ((settleO st y).L k):=by
    simp only[mapM]at a;cases g:(settleO st y).L k<;>rw[g]at a<;>simp at a<;>trivial
   have H:∃b c cl,B k= .map (some b)/\up za w0 k b/\¬Z1 b/\w.heap[b]? =some (.map c cl)/\MOk c cl/\Qw w Z1 s f t u c.toList j:=by
    simp only[mapM]at a;have:=l.locs k;cases g:(settleO st y).L k with
    |map v z J M r=>
     rw[g]at a this;simp only at a;split at a
     . rename_i r;cases r;cases a;exact this
     . cases a
    | _=>rw[g]at a;simp at a
   obtain⟨b,c,cl,a,X,Q,v,r,z⟩:=H;have O:Gw.ev E m= .map (some b):=(show Gw.ev E m=B k from I.1).trans a;have V:b<w.heap.size:=(rT.1 v).1;have I:=fun em=>Ri A n w em
   have J:=Zf A n w z;have M:(getObj b).run cx.P w= .ok (.map c cl) w:=by simp[getObj,Sem.run,v]
   have R:∀o,(setObj b o).run cx.P w= .ok () {w with heap:=w.heap.setIfInBounds b o} :=fun o=>by simp[setObj,Sem.run,v]
   have H:∀o,ZC b w {w with heap:=w.heap.setIfInBounds b o} :=fun o=>⟨rfl,rfl,⟨rfl,qZ _⟩,by simp,fun q g=>by simp[sY,Ne.symm g]⟩
   have W:∀o,({w with heap:=w.heap.setIfInBounds b o} :World).heap[b]? =some o:=fun o=>by simp[sY,V]
   have fin:∀ents' cl',MOk ents' cl'->Qw w Z1 s f t u ents'.toList (Fh f key G j)->∃Z' B',B7 za w0 ((settleO st y).setL k (.map s f t u (Fh f key G j))) E {w with heap:=w.heap.setIfInBounds b (.map ents' cl')} Z' B':=fun ents' cl' hmo' he'=>by
    have V:O3 Z1 w {w with heap:=w.heap.setIfInBounds b (.map ents' cl')} :=fun A v=>(H _).2.2.2.2 A (fun g=>Q (g▸v))
    exact⟨Z1,B,l.chg N (A9.of N (by rw[a];rfl)) (H _) (lc:= .map s f t u (Fh f key G j)) ⟨b,ents',cl',a,X,Q,W _,hmo',he'.mono (fun _=>id) V⟩ trivial (fun _ g=> .inl g)⟩
   have G:=kH (cl:=cl) (kv:=Gw.ev E x) (vv:=Gw.ev E y) n Y (i:=0) z;rcases CW (k:=key) (i:=0) z with⟨g,_⟩ | ⟨s,H,Q,g,t,a,l,u,N⟩
   . have l:(Instr.mapUpdate T (Gw.ev E m) (Gw.ev E x) (Gw.ev E y)).run cx.P w= .ok () {w with heap:=w.heap.setIfInBounds b (.map (c.push {key:=Gw.ev E x,val:=Gw.ev E y,born:=cl}) (cl+1))} :=by
      unfold Instr.mapUpdate;simp only[Sem.run_bind,run_underlying U,Result.andThen_ok,O,M,I,J,g,g1p,R]
     refine⟨_,fun _ _ _ _=> ?_,fun _ _ _ _=> ?_,fin _ (cl+1) ⟨fun x a=> ?_, ?_⟩ (by rw[g1a];exact G.1 g)⟩
     . simp[execOp,l]
     . simp[execOp,l]
     . rw[g1a,qX]at a;rcases a with a|a
       . have:=r.1 x a;omega
       . simp at a;subst a;exact rU _
     . rw[g1a,uX,sV];refine⟨r.2,by simp,fun V z b Q=> ?_⟩;simp at Q;obtain⟨x,a,rfl⟩:=tA.1 z;have:=r.1 x a;omega
   . have z:=(SI D).1 N;rw[<-z]at u;have F:=A9u D u n;have u:c[s]? =some H:=by simpa using t
     have z:=A9t D n;have l:(Instr.mapUpdate T (Gw.ev E m) (Gw.ev E x) (Gw.ev E y)).run cx.P w= .ok () {w with heap:=w.heap.setIfInBounds b (.map (c.modify s fun e=> {e with key:=Gw.ev E x,val:=Gw.ev E y}) cl)} :=by
      have b:N4 f key j 0=some s:=by rw[g,sE]
      unfold Instr.mapUpdate;simp only[Sem.run_bind,run_underlying U,Result.andThen_ok,O,M,I,J,b,vT,t,vR,u,uZ,F];simp[Instr.keyThatStays,z,R]
     refine⟨_,fun _ _ _ _=> ?_,fun _ _ _ _=> ?_,fin _ cl ⟨fun A a=> ?_, ?_⟩ (by rw[g0h];exact G.2 s g)⟩
     . simp[execOp,l]
     . simp[execOp,l]
     . rw[g0h]at a;have:A.born∈(c.toList.modify s fun e=> {e with key:=Gw.ev E x,val:=Gw.ev E y}).map (·.born):=vB a;rw[Kd (fun e:MapEntry=> {e with key:=Gw.ev E x,val:=Gw.ev E y}) (fun _=>rfl)]at this;obtain⟨a,v,b⟩:=tA.1 this;have:=r.1 a v;omega
     . rw[g0h,Kd (fun e:MapEntry=> {e with key:=Gw.ev E x,val:=Gw.ev E y}) (fun _=>rfl)];exact r.2
 . cases d
def SO {c d:Bool} {a b:Ty} {q:Nat} {es:List (a.den×b.den)} (h:mapM st c a d b q=some es):st.L q= .map c a d b es:=by
 unfold mapM at h;split at h
 . rename_i b;split at h
   . rename_i a;cases a;cases h;exact b
   . cases h
 . cases h
def A4a (h:B7 za w0 st E w Z B) {T:TypeId} {m s y:Operand} (a:US st m s y=some st'):∃w',Gw.PC cx.P E ty (.entryStore T m s y) w w'/\∃Z' B',B7 za w0 st' E w' Z' B':=by unfold US at a;cases a
def A4t (h:B7 za w0 st E w Z B) (f:H3 cx.P cx.tys=true) {T:TypeId} {m x:Operand} (a:VQ cx st d T m x=some st') (c:k st') (b:E5 all ⟨some d, .mapEntry T m x,ty,pos,aft,g⟩ E=true):I5 cx.P all ⟨some d, .mapEntry T m x,ty,pos,aft,g⟩ (iW za w0 w true k) E w:=by unfold VQ at a;cases a
def UE (cx:Cx) (st:St) (T:TypeId) (x:Operand):Option St:=none
def A3o {ty:TypeId} {st':St} (h:B7 za w0 st E w Z B) (b:H3 cx.P cx.tys=true) {T:TypeId} {x:Operand} (a:UE cx st T x=some st'):∃v w',Gw.E7 cx.P E ty (.call ⟨.builtin .clear, #[x], #[T]⟩) w v w'/\B7 za w0 st' E w' Z B:=by unfold UE at a;cases a
end
end Go.Vc
