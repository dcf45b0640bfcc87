/- Part. -/
import Derived.Laws.CopyRow
import Derived.Test.YtiflhbllbgajeaaGreatKGA
set_option linter.all false
namespace Go.Vc
open Go Go.RowKit Go.Gw
open Go.IntKind (i64)
section
variable {za:Zn} {w0 w:World} {Z:Nat->Prop} {B:Nat->Value} {st:St} {E:G2} {P:Program}
def A3l (w:World) (Z:Nat->Prop) (B:Nat->Value):List (Nat×List C)->List (Nat×Value)->Prop
 | [],a=>a= []
 | (i,b)::r,c=>∃v a,c=(i,v)::a/\Dw w Z B b v.cells.toList/\A3l w Z B r a
def gY {place:Nat->Option (Nat×Nat)} :∀ {b:List (Nat×List C)} {a:List (Nat×Value)} {cs cs':List C} {vs:Array Value},A3l w Z B b a->Dw w Z B cs vs.toList->AC place cs b=some cs'->∃d,Instr.fill place vs a=some d/\Dw w Z B cs' d.toList
 | [],_,cs,cs',vs,c,h,b=>by
  rw[show _= _ from c];simp only[AC,rD]at b;subst b;exact⟨vs,rfl,h⟩
 | (c,g)::r,_,cs,cs',vs,⟨v,a,e,i,j⟩,h,b=>by
  subst e;simp only[AC]at b;cases f:place c with
  |none=>simp[f]at b
  |some q=>
   obtain⟨a,sz⟩:=q;simp only[f]at b;cases c:Nat.beq g.length sz&&Nat.ble (a+sz) cs.length with
   |false=>simp[c]at b
   |true=>
    simp only[c,qT]at b;simp only[qC]at c;have k:g.length=sz:=qE c.1;have l:a+sz<=cs.length:=qS c.2;have n:v.cells.size=sz:=by rw[<-k,i.len];simp
    have c:cs.length=vs.size:=by rw[h.len];simp
    have c:=We a v.cells.toList 0 vs (by simp;omega);simp only[tC]at c;generalize k:(v.cells.toList.zipIdx 0).foldl (fun cs (x:Value×Nat)=>cs.setIfInBounds (a+x.2) x.1) vs=o at c;have l:Dw w Z B (cs.take a++g++cs.drop (a+sz)) o.toList:=by
     rw[c];have c:v.cells.toList.length=sz:=by simpa using n
     rw[c];exact((h.take a).append i).append (h.drop (a+sz))
    obtain⟨d,a,c⟩:=gY j l b;refine⟨d, ?_,c⟩;unfold Instr.fill;simp only[f];rw[qK (by simp;omega)];rw[<-a, <-k, <-g3q];simp
def OO {place:Nat->Option (Nat×Nat)} {Q:C->Prop} :∀ {a:List (Nat×List C)} {cs cs':List C},(∀x∈a,∀c∈x.2,Q c)->(∀c∈cs,Q c)->AC place cs a=some cs'->∀c∈cs',Q c
 | [],cs,cs',_,h,a=>by
  simp only[AC,rD]at a;subst a;exact h
 | (i,f)::r,cs,cs',d,h,a=>by
  simp only[AC]at a;cases b:place i with
  |none=>simp[b]at a
  |some q=>
   simp only[b]at a;cases b:Nat.beq f.length q.2&&Nat.ble (q.1+q.2) cs.length with
   |false=>simp[b]at a
   |true=>
    simp only[b,qT]at a;refine OO (fun x b=>d x (qL _ b)) ?_ a;intro c a;simp only[qY]at a;rcases a with(a|a) |a
    . exact h c (rY a)
    . exact d (i,f) (by simp) c a
    . exact h c (vG a)
def Lp (st:St) (ctx:Kx):List (Nat×Operand)->Option (List (Nat×List C))
 | []=>some []
 | (i,x)::r=>match st.ev ctx x with
  |some s=>bif s.cs.all Fu then(Lp st ctx r).map fun l=>(i,s.cs)::l else none
  |none=>none
def RS.cells (h:B7 za w0 st E w Z B) {s:SV} {v:Value} (a:RS w Z B s v) (f:s.cs.all Fu=true):Dw w Z B s.cs v.cells.toList:=by
 obtain⟨d,b⟩:=s;cases d with
 |true=>obtain⟨d,e,a⟩:=a;subst e;exact a
 |false=>
  have a:Dw w Z B b [v]:=a
  match b,a with
  | [c],d=>
   obtain⟨u,g,e,a,b⟩:=d;cases e;have d:=RC.one h (by simpa using f) a;have:v.cells= #[v]:=by cases v<;>simp[Value.cells,Value.oneCell']at d⊢
   rw[this];exact⟨v,[],rfl,a,b⟩
  | [],a=>cases a
  |c::a::r,b=>obtain⟨u,f,e,d,⟨_,_,a,_⟩⟩:=b;cases e;cases a
def Mm (h:B7 za w0 st E w Z B) {ctx:Kx} (g:P9 E ctx):∀ {a:List (Nat×Operand)} {l:List (Nat×List C)},Lp st ctx a=some l->A3l w Z B l (a.map fun x=>(x.1,Gw.ev E x.2))/\∀x∈l,∀c∈x.2,Cr st.nx c
 | [],l,a=>by cases a;exact⟨rfl,by simp⟩
 | (i,x)::r,l,a=>by
  simp only[Lp]at a;cases f:st.ev ctx x with
  |none=>simp[f]at a
  |some s=>
   simp only[f]at a;cases b:s.cs.all Fu with
   |false=>simp only[b,rF]at a;cases a
   |true=>
    simp only[b,qT]at a;cases d:Lp st ctx r with
    |none=>simp[d]at a
    |some i=>
     simp[d]at a;subst a;obtain⟨i,j⟩:=h.ev g f;obtain⟨f,k⟩:=Mm h g d;refine⟨⟨Gw.ev E x,_,rfl,RS.cells h i b,f⟩,fun y a=> ?_⟩;rcases qG.1 a with rfl|a
     . exact j
     . exact k y a
def Kw (t:Ty):List C:=(Dv t).map Kn
def Gk {T:TypeId} {t:Ty} (h:Ro P T t=true):∃z,Hw P T=some z/\z.cells.toList=Dv t:=by
 unfold Ro at h;split at h
 . rename_i z a;split at h
   . rename_i b;exact⟨z,a,by rw[kI b];simp⟩
   . cases h
 . cases h
def B0g (h:B7 za w0 st E w Z B) {ctx:Kx} (g:P9 E ctx) {T ty:TypeId} {t:Ty} {a:List (Nat×Operand)} {l:List (Nat×List C)} {cs:List C} {b:List (Nat×Nat)} (d:Ro P T t=true) (k:ES P T=some b)
 (j:Lp st ctx a=some l) (c:AC (fun i=>b[i]?) (Kw t) l=some cs):Zf P st E w Z B ty (.build T a.toArray) (.one ⟨true,cs⟩):=by
 obtain⟨z,o,r⟩:=Gk d;obtain⟨d,f⟩:=Mm h g j;have b:=Cw (w:=w) (Z:=Z) (B:=B) (n:=st.nx) (Dv t);obtain⟨a,g,j⟩:=gY (vs:=z.cells) d (by rw[r];exact b.1) c;exact⟨.agg a,fun d _=>B9r a o k g,fun _=>⟨a.toList,by simp,j⟩,OO f b.2 c⟩
def gH (h:B7 za w0 st E w Z B) {ctx:Kx} (b:P9 E ctx) {T ty e:TypeId} {t:Ty} {len sz:Nat} {a:List (Nat×Operand)} {l:List (Nat×List C)} {cs:List C} (d:Ro P T t=true) (k:P.underlying T=some (.array len e)) (o:Tu P e sz=true)
 (g:Lp st ctx a=some l) (c:AC (fun i=>some (i*sz,sz)) (Kw t) l=some cs):Zf P st E w Z B ty (.build T a.toArray) (.one ⟨true,cs⟩):=by
 obtain⟨z,r,s⟩:=Gk d;obtain⟨d,f⟩:=Mm h b g;have b:=Cw (w:=w) (Z:=Z) (B:=B) (n:=st.nx) (Dv t);obtain⟨a,g,j⟩:=gY (vs:=z.cells) d (by rw[s];exact b.1) c;exact⟨.agg a,fun d _=>pH a r k o g,fun _=>⟨a.toList,by simp,j⟩,OO f b.2 c⟩
def A6b:List SV->Option (List Nat)
 | []=>some []
 | ⟨false,[.box k 0]⟩::r=>(A6b r).map (k:: ·)
 | _=>none
def evL (st:St) (ctx:Kx):List Operand->Option (List SV)
 | []=>some []
 |x::r=>match st.ev ctx x with
  |some s=>(evL st ctx r).map (s:: ·)
  |none=>none
def WJ (h:B7 za w0 st E w Z B) {ctx:Kx} (d:P9 E ctx):∀ {xs:List Operand} {ss:List SV},evL st ctx xs=some ss->Rp w Z B ss (xs.map (Gw.ev E))/\∀s∈ss,Lx st.nx s
 | [],ss,a=>by cases a;exact⟨rfl,by simp⟩
 |x::r,ss,a=>by
  simp only[evL]at a;cases c:st.ev ctx x with
  |none=>simp[c]at a
  |some s=>
   simp only[c]at a;cases b:evL st ctx r with
   |none=>simp[b]at a
   |some l=>
    simp[b]at a;subst a;obtain⟨f,g⟩:=h.ev d c;obtain⟨c,i⟩:=WJ h d b;refine⟨⟨_,_,rfl,f,c⟩,fun y a=> ?_⟩;rcases qG.1 a with rfl|a
    . exact g
    . exact i y a
def A3t {n:Nat} :∀ {ss:List SV} {b:List Nat} {vs:List Value},Rp w Z B ss vs->(∀s∈ss,Lx n s)->A6b ss=some b->vs=b.map B/\∀k∈b,k<n
 | [],b,vs,h,_,a=>by cases a;exact⟨h,by simp⟩
 |s::r,b,vs,⟨v,g,e,d,f⟩,c,a=>by
  unfold A6b at a;split at a
  . rename_i b;cases b
  . rename_i k g b;cases b;cases b:A6b r with
    |none=>simp[b]at a
    |some l=>
     simp[b]at a;subst a;obtain⟨g,h⟩:=A3t f (fun s hs=>c s (qL _ hs)) b;obtain⟨_,_,b,⟨j,f,i⟩,_⟩:=d;cases b;have d:=c ⟨false,[.box k 0]⟩ (by simp) (.box k 0) (by simp);refine⟨by rw[e,g,i, <-f];rfl,fun q b=> ?_⟩;rcases qG.1 b with rfl|b
     . exact d
     . exact h q b
  . cases a
def C2l (h:B7 za w0 st E w Z B) {ctx:Kx} (g:P9 E ctx) {ty:TypeId} {f:FuncId} {a:List Operand} {ss:List SV} {b:List Nat} (c:evL st ctx a=some ss) (d:A6b ss=some b):
 Zf P st E w Z B ty (.makeFunc (.func f) #[] a.toArray) (.one ⟨false,[.fn f b]⟩):=by
 obtain⟨a,b⟩:=WJ h g c;obtain⟨c,g⟩:=A3t a b d;exact Ja (fun a _=>C7r c) rfl g
def B4b (e:Bool):C->C->Option C
 | .val t x, .val a y=>if h:a=t then some (.val t (J9 e x (h▸y)))else none
 | _,_=>none
def B4c {e:Bool} {c1 a c:C} {v1 v2:Value} (h:B4b e c1 a=some c) (b:e=true->RC w Z B c1 v1) (d:e=false->RC w Z B a v2):RC w Z B c (bif e then v1 else v2)/\∀n,Cr n c:=by
 unfold B4b at h;split at h
 . split at h
   . rename_i t x f y a;subst a;cases h;refine⟨?_,fun _=>trivial⟩;cases e with
     |true=>exact b rfl
     |false=>exact d rfl
   . cases h
 . cases h
end
def Sj:Ty->Bool
 | .ptr _=>false
 | .pair a b=>Sj a&&Sj b
 | _=>true
def NM {w:World} {Z:Nat->Prop} :∀ {t:Ty},Sj t=true->C5 t w Z (Dv t) t.dflt
 | .int k,_=>⟨rfl,mZ k⟩
 | .bool,_=>rfl
 | .str,_=>rfl
 | .unit,_=>rfl
 | .pair a b,h=>by
  simp only[Sj,qC]at h;exact⟨_,_,rfl,NM h.1,NM h.2⟩
 | .sl _,_=>⟨none,0,rfl,qZ _,rK _,fun _=>rfl, .inl rfl⟩
 | .ptr _,h=>by cases h
 | .mp _ _ _ _,_=> .inl ⟨rfl,rfl⟩
def B7q (f:St) (c:Bool) (a:Ty) (d:Bool) (b:Ty):C->Option (List (a.den×b.den))
 | .mp k=>match f.L k with
  | .map f g h i j=>if k:Ty.mp f g h i=Ty.mp c a d b then some (k▸(show(Ty.mp f g h i).den from j):(Ty.mp c a d b).den)else none
  | .mapE f g h i j _ _=>if k:Ty.mp f g h i=Ty.mp c a d b then some (k▸(show(Ty.mp f g h i).den from j):(Ty.mp c a d b).den)else none
  | _=>none
 | .val t f=>if h:t=Ty.mp c a d b then some (h▸f:(Ty.mp c a d b).den)else none
 | .raw (.map none)=>some []
 | _=>none
def B7t (a:St) (ctx:Kx) (x:Operand):Option (Option Prop×DV):=
 match a.ev ctx x with
 |some s=>some (none, .one s)
 |none=>match x with
  | .tmp t=>match a.S t with
   | .tup a=>some (none, .tup a)
   | _=>none
  | _=>none
def C2u (a:St) (b:Bool):Operand->Kx
 | .tmp t=>gctx a 20 t b
 | _=> []
def one1 (c:C):DV:= .one ⟨false,[c]⟩
def A2f (d:St) (ctx:Kx) (c a b:Operand):Option (Option Prop×DV):=do
 let e<-(d.ev ctx c).bind QP
 let f<-(d.ev (C2u d true c++ctx) a).bind c1
 let g<-(d.ev (C2u d false c++ctx) b).bind c1
 (B4b e f g).map fun c=>(none,one1 c)
def B5h (a:St) (ctx:Kx) (op:UnOp) (x:Operand):Option (Option Prop×DV):=do
 let c<-(a.ev ctx x).bind c1
 (unC op c).map fun c=>(none,one1 c)
def iL:C->Bool
 | .val .bool _=>true
 | _=>false
def A0l (cx:Cx) (a:St) (ctx:Kx) (op:BinOp) (T:TypeId) (x y:Operand):Option (Option Prop×DV):=do
 let b<-a.ev ctx x
 let c<-a.ev ctx y
 match c1 b,c1 c with
 |some a,some d=>bif iL a&& !(isB cx.P T)then none else(C1f op a d).map fun r=>(r.1,one1 r.2)
 | _,_=>do
  let ti<-cx.ti T
  let a<-Ss true ti.ty b
  let b<-Ss true ti.ty c
  bif ti.eq&&ti.agg then(match op with
   | .eql=>some (none,one1 (.val .bool (GY ti.ty a b)))
   | .neq=>some (none,one1 (.val .bool (!(GY ti.ty a b))))
   | _=>none)else none
def OM (a:St) (x:Operand) (i:Nat):Option (Option Prop×DV):=
 match x with
 | .tmp t=>match a.S t with
  | .tup a=>(a[i]?).map fun s=>(none, .one s)
  | _=>none
 | _=>none
def AA (cx:Cx) (a:St) (ctx:Kx) (T:TypeId) (x:Operand) (f:Nat):Option (Option Prop×DV):=do
 let ti<-cx.ti T
 let q<-ti.fields[f]?
 let c<-(a.ev ctx x).bind c1
 (faC q.1 c).map fun c=>(none,one1 c)
def gX (cx:Cx) (a:St) (ctx:Kx) (T:TypeId) (x:Operand) (f:Nat):Option (Option Prop×DV):=do
 let ti<-cx.ti T
 let q<-ti.fields[f]?
 let s<-a.ev ctx x
 bif s.agg then(cut q.1 q.2.1 s.cs).map fun a=>(none, .one ⟨q.2.2,a⟩)else none
def A1k (cx:Cx) (a:St) (ctx:Kx) (T:TypeId) (x:Operand):Option (Option Prop×DV):=do
 let ti<-cx.ti T
 let c<-(a.ev ctx x).bind c1
 (B2r a ti.ty.size c).map fun b=>(none, .one ⟨ti.agg,b⟩)
def C5c (cx:Cx) (a:St) (ctx:Kx) (ti:TI) (x ix:Operand):Option (Option Prop×DV):=do
 let b<-cx.ti ti.elem
 let c<-(a.ev ctx x).bind c1
 let i<-(a.ev ctx ix).bind iI
 (faC (i.toNat*b.ty.size) c).map fun a=>(some (0<=i/\i<(ti.arr:Int)),one1 a)
def A9r (u:Ty):Nat->Ty
 |0=> .unit
 |1=>u
 |n+2=> .pair u (A9r u (n+1))
def selA (u:Ty):(n:Nat)->(A9r u n).den->Int->u.den
 |0,_,_=>u.dflt
 |1,x,_=>x
 |n+2,x,i=>J9 (decide (i=0)) x.1 (selA u (n+1) x.2 (i-1))
def C5e (cx:Cx) (b:St) (ctx:Kx) (ti:TI) (x ix:Operand):Option (Option Prop×DV):=do
 let a<-cx.ti ti.elem
 let c<-(b.ev ctx x).bind c1
 let i<-(b.ev ctx ix).bind iI
 match c with
 | .pf t y 0=>if h:t=A9r a.ty ti.arr then some (some (0<=i/\i<(ti.arr:Int)),one1 (.pf a.ty (selA a.ty ti.arr (h▸y) i) 0))else none
 | _=>none
def A4e:Operand->Bool
 | .const _=>true
 | _=>false
def C5d (cx:Cx) (a:St) (ctx:Kx) (T:TypeId) (x:Operand):Option (Option Prop×DV):=do
 let ti<-cx.ti T
 let c<-(a.ev ctx x).bind c1
 match ti.ty,c with
 | .sl t, .raw (.slice none 0 0)=>some (some False,one1 (.pf t t.dflt 0))
 | _,_=>none
def C1x (cx:Cx) (a:St) (ctx:Kx) (T:TypeId) (x ix:Operand):Option (Option Prop×DV):=do
 let ti<-cx.ti T
 let c<-(a.ev ctx x).bind c1
 let i<-(a.ev ctx ix).bind iI
 let r<-C1w a i c
 match ti.ty,r.2 with
 | .sl t, .pf a _ _=>bif decide (t=a)then some (r.1,one1 r.2)else none
 | .sl t, .elp _ sz _ _=>bif Nat.beq t.size sz then some (r.1,one1 r.2)else none
 | _,_=>none
def B1x (cx:Cx) (a:St) (ctx:Kx) (T:TypeId) (x ix:Operand):Option (Option Prop×DV):=
 match cx.ti T with
 |some ti=>bif Nat.beq ti.arr 0 then(match C5d cx a ctx T x with
  |some r=>some r
  |none=>C1x cx a ctx T x ix)else(bif A4e ix then C5c cx a ctx ti x ix else C5e cx a ctx ti x ix)
 |none=>none
def C5m:C->Bool
 | .box _ _=>true
 | .elp _ _ _ _=>true
 | .pf _ _ _=>true
 | .fn _ _=>true
 | .fv _ _ _ _ _ _=>true
 | _=>false
def B3h (a:St) (ctx:Kx) (x:Operand):Option (Option Prop×DV):=do
 let c<-(a.ev ctx x).bind c1
 bif C5m c then some (none,one1 c)else none
def B7y (a:St) (ctx:Kx):Option Operand->Option (Option Int)
 |none=>some none
 |some o=>((a.ev ctx o).bind iI).map some
def jY (cx:Cx) (a:St) (ctx:Kx) (T:TypeId) (x:Operand) (lo b:Option Operand):Option (Option Prop×DV):=do
 let ti<-cx.ti T
 let c<-(a.ev ctx x).bind c1
 let l<-B7y a ctx lo
 let h<-B7y a ctx b
 let r<-A2n a l h c
 match ti.ty,r.2 with
 | .sl t, .val (.sl a) _=>bif decide (t=a)then some (r.1,one1 r.2)else none
 | .sl t, .win _ sz _ _=>bif Nat.beq t.size sz then some (r.1,one1 r.2)else none
 | _,_=>none
def A0t (cx:Cx) (a:St) (ctx:Kx) (T T':TypeId) (x:Operand):Option (Option Prop×DV):=do
 let ti<-cx.ti T
 let b<-cx.ti T'
 let c<-(a.ev ctx x).bind c1
 match ti.ty,b.ty,c with
 | .int _, .int a, .val (.int _) b=>some (none,one1 (.val (.int a) (a.wrap b)))
 | _,_,_=>none
def gG (cx:Cx) (b:St) (ctx:Kx) (T:TypeId) (a:List (Nat×Operand)):Option (Option Prop×DV):=do
 let ti<-cx.ti T
 let l<-Lp b ctx a
 bif ti.fields.isEmpty then(do
  let b<-cx.ti ti.elem
  bif Nat.beq ti.arr 0 then none else(AC (fun i=>some (i*b.ty.size,b.ty.size)) (Kw ti.ty) l).map fun a=>(none, .one ⟨true,a⟩))
 else(AC (fun i=>(ti.fields.map fun x=>(x.1,x.2.1))[i]?) (Kw ti.ty) l).map fun a=>(none, .one ⟨true,a⟩)
def IA (s:ByteArray) (i:Int):Int:=((s.data.toList.getD i.toNat 0).toNat:Int)
def WV (a:St) (ctx:Kx) (x ix:Operand):Option (Option Prop×DV):=do
 let c<-(a.ev ctx x).bind c1
 let i<-(a.ev ctx ix).bind iI
 match c with
 | .val .str s=>some (some (0<=i/\i<(s.data.toList.length:Int)),one1 (.val (.int .u8) (IA s i)))
 | _=>none
def WU (cx:Cx) (a:St) (ctx:Kx) (T:TypeId) (x ix:Operand):Option (Option Prop×DV):=none
def iH (cx:Cx) (a:St) (ctx:Kx) (T:TypeId) (x ix:Operand):Option (Option Prop×DV):=
 match((cx.ti T).map fun t:TI=>t.ty:Option Ty)with
 |some .str=>WV a ctx x ix
 | _=>WU cx a ctx T x ix
def C5h:C->Bool
 | .mp _=>true
 | _=>false
def C1z:Ty->Bool
 | .sl _=>true
 | _=>false
def XD (cx:Cx) (f:St) (ctx:Kx) (T:TypeId) (x ix:Operand) (h:Bool):Option (Option Prop×DV):=do
 let ti<-cx.ti T
 let g<-(f.ev ctx x).bind c1
 let j<-f.ev ctx ix
 match ti.ty with
 | .mp i b d a=>do
  let c<-B7q f i b d a g
  let k<-Ss i b j
  bif ti.rows&&C5h g&&C1z a&& !h&& !d then some (some (K9 b k c=none),one1 (.raw (.slice none 0 0)))else
  bif Sj a then some (none,bif h then .tup [⟨d,explode a ((K9 b k c).getD a.dflt)⟩,⟨false,[.val .bool (K9 b k c).isSome]⟩]else .one ⟨d,explode a ((K9 b k c).getD a.dflt)⟩)else none
 | _=>none
def B3d (c:St) (ctx:Kx) (fn:Fn) (first a:List Operand):Option (Option Prop×DV):=
 match fn,first with
 | .func f,[]=>do
  let b<-evL c ctx a
  let a<-A6b b
  some (none,one1 (.fn f a))
 | _,_=>none
def OG (cx:Cx) (a:St) (ctx:Kx) (b:Builtin) (args:List Operand) (ts:List TypeId):Option (Option Prop×DV):=
 match b,args,ts with
 | .len,[x],[T]=>do
  let ti<-cx.ti T
  let c<-(a.ev ctx x).bind c1
  let n<-C2e a c
  match ti.ty,c with
  | _, .mp _=>none
  | .sl _,_=>some (none,one1 (.val (.int .i64) n))
  | _,_=>none
 | .max,[x,y],_=>do
  match<-(a.ev ctx x).bind c1, <-(a.ev ctx y).bind c1 with
  | .val (.int k) c, .val (.int d) b=>bif decide (k=d)then some (none,one1 (.val (.int k) (max c b)))else none
  | _,_=>none
 | .min,[x,y],_=>do
  match<-(a.ev ctx x).bind c1, <-(a.ev ctx y).bind c1 with
  | .val (.int k) c, .val (.int d) b=>bif decide (k=d)then some (none,one1 (.val (.int k) (min c b)))else none
  | _,_=>none
 | .max,[x,y,z],_=>do
  match<-(a.ev ctx x).bind c1, <-(a.ev ctx y).bind c1, <-(a.ev ctx z).bind c1 with
  | .val (.int k) a, .val (.int d) b, .val (.int f) c=>bif decide (k=d)&&decide (k=f)then some (none,one1 (.val (.int k) (max (max a b) c)))else none
  | _,_,_=>none
 | _,_,_=>none
def BC (cx:Cx) (a:St) (ctx:Kx):Op->Option (Option Prop×DV)
 | .move x=>B7t a ctx x
 | .assign x=>B7t a ctx x
 | .pick d b c=>A2f a ctx d b c
 | .unOp b _ x=>B5h a ctx b x
 | .binOp b T x y _=>A0l cx a ctx b T x y
 | .extract x i=>OM a x i
 | .fieldAddr T x f=>AA cx a ctx T x f
 | .field T x f=>gX cx a ctx T x f
 | .load T x=>A1k cx a ctx T x
 | .indexAddr T x i=>B1x cx a ctx T x i
 | .index T x i=>iH cx a ctx T x i
 | .lookup T x i b=>XD cx a ctx T x i b
 | .slice T x c b none=>jY cx a ctx T x c b
 | .convert T T' x=>A0t cx a ctx T T' x
 | .build T b=>gG cx a ctx T b.toList
 | .nilCheck x=>B3h a ctx x
 | .makeFunc fn first b=>B3d a ctx fn first.toList b.toList
 | .call ⟨.builtin c,b,d⟩=>OG cx a ctx c b.toList d.toList
 | _=>none
section
variable {za:Zn} {w0 w:World} {Z:Nat->Prop} {B:Nat->Value} {st:St} {E:G2} {cx:Cx}
def bind_some {c d:Type} {x:Option c} {f:c->Option d} {b:d} :x.bind f=some b↔∃a,x=some a/\f a=some b:=g1v
def B7.tup (h:B7 za w0 st E w Z B) {t:Tmp} {vs:List SV} (c:st.S t= .tup vs):∃us:List Value,E t= .tuple us.toArray/\Rp w Z B vs us/\∀s∈vs,Lx st.nx s:=by
 have b:=h.slots t;have a:=h.refs t;rw[c]at b a;obtain⟨us,e,c⟩:=b;exact⟨us,e,c,a⟩
def Rp.get:∀ {ss:List SV} {vs:List Value} {i:Nat} {s:SV},Rp w Z B ss vs->ss[i]? =some s->∃v,vs[i]? =some v/\RS w Z B s v
 | [],_,_,_,_,a=>by simp at a
 |s'::ss,_,i,s,⟨v,d,e,b,c⟩,a=>by
  cases i with
  |zero=>simp at a;subst a;exact⟨v,by rw[e];rfl,b⟩
  |succ i=>simp at a;obtain⟨u,b,d⟩:=Rp.get c a;exact⟨u,by rw[e];simpa using b,d⟩
def O4 {P:Program} {T:TypeId} {ti:TI} (h:Wi P T ti=true):Tu P T ti.ty.size=true/\(ti.agg=true/\kT P T ti.ty.size=true\/ti.agg=false/\Jn P T=true/\ti.ty.size=1)/\Ro P T ti.ty=true:=by
 simp only[Wi,qC]at h;obtain⟨⟨⟨⟨⟨⟨b,a⟩,c⟩,_⟩,_⟩,_⟩,_⟩:=h;refine⟨b, ?_,c⟩;cases b:ti.agg with
 |true=>rw[b]at a;exact .inl ⟨rfl,a⟩
 |false=>simp only[b,rF,qC]at a;exact .inr ⟨rfl,a.1,qE a.2⟩
def EZ {P:Program} {T:TypeId} {ti:TI} {t:Ty} (h:Wi P T ti=true) (b:ti.ty= .sl t):Ho P T ti.elem t.size=true/\Ro P ti.elem t=true/\∃i,P.info? ti.elem=some i/\i.bytes=ti.bytes:=by
 simp only[Wi,qC]at h;obtain⟨⟨⟨⟨_,a⟩,_⟩,_⟩,_⟩:=h;rw[b]at a;simp only[qC]at a;refine⟨a.1.1,a.1.2, ?_⟩;cases b:P.info? ti.elem with
 |none=>simp[b]at a
 |some i=>simp only[b]at a;exact⟨i,rfl,qE a.2⟩
def pA {P:Program} {T:TypeId} {ti:TI} {k:IntKind} (h:Wi P T ti=true) (b:ti.ty= .int k):B7h P T k=true:=by
 simp only[Wi,qC]at h;obtain⟨⟨⟨⟨_,a⟩,_⟩,_⟩,_⟩:=h;rw[b]at a;exact a
def BR {P:Program} {T:TypeId} {ti:TI} (h:Wi P T ti=true) (b:ti.fields.isEmpty=false):AB P T 0 ti.fields=true/\ES P T=some (ti.fields.map fun x=>(x.1,x.2.1)):=by
 simp only[Wi,qC]at h;obtain⟨⟨⟨_,a⟩,_⟩,_⟩:=h;simp only[b,rF,qC]at a;refine⟨a.1, ?_⟩;cases b:ES P T with
 |none=>simp[b]at a
 |some c=>simp only[b,rS]at a;rw[a.2]
def ZK {P:Program} {T:TypeId} {ti:TI} (h:Wi P T ti=true) (b:Nat.beq ti.arr 0=false):P.underlying T=some (.array ti.arr ti.elem):=by
 simp only[Wi,qC]at h;obtain⟨⟨_,a⟩,_⟩:=h;simp only[b,rF]at a;split at a
 . rename_i n e b;simp only[qC]at a;rw[b,qE a.1,qE a.2]
 . cases a
def Wj {P:Program} {T:TypeId} {ti:TI} {a c:Bool} {b d:Ty} (h:Wi P T ti=true) (f:ti.ty= .mp a b c d):P.underlying T=some (.map ti.key ti.elem)/\FR P ti.key a b=true/\Ro P ti.elem d=true/\NL P ti.elem c=true:=by
 simp only[Wi,qC]at h;obtain⟨⟨⟨⟨_,b⟩,_⟩,_⟩,_⟩:=h;rw[f]at b;simp only[qC]at b;obtain⟨⟨⟨a,c⟩,d⟩,f⟩:=b;refine⟨?_,c,d,f⟩;split at a
 . rename_i k e b;simp only[qC]at a;rw[b,qE a.1,qE a.2]
 . cases a
def B9n {P:Program} {T:TypeId} {ti:TI} (h:Wi P T ti=true) (a:ti.eq=true):FR P T ti.agg ti.ty=true:=by
 simp only[Wi,qC]at h;have:=h.2;rw[a]at this;exact this
def Ve {P:Program} {T:TypeId} :∀ {l:List (Nat×Nat×Bool)} {a f:Nat} {q:Nat×Nat×Bool},AB P T a l=true->l[f]? =some q->ON P T (a+f) q.1=true/\A0x P T (a+f) q.2.1 q.2.2=true
 | [],_,_,_,_,b=>by simp at b
 | (d,sz,c)::l,a,f,q,h,b=>by
  simp only[AB,qC]at h;cases f with
  |zero=>simp at b;subst b;exact h.1
  |succ f=>
   simp at b;have:=Ve h.2 b;rw[show a+1+f=a+(f+1)from by omega]at this;exact this
def Jr {b:Type} {l:List b} {i:Nat} {a:b} (h:l[i]? =some a):l.isEmpty=false:=by
 cases l with
 |nil=>simp at h
 |cons _ _=>rfl
end
section
variable {za:Zn} {w0 w:World} {Z:Nat->Prop} {B:Nat->Value} {st:St} {E:G2} {cx:Cx} {ctx:Kx} {ty:TypeId} {φ:Option Prop} {d:DV}
def A4p (h:B7 za w0 st E w Z B) (g:P9 E ctx) {x:Operand} (a:B7t st ctx x=some (φ,d)):Zf cx.P st E w Z B ty (.move x) d/\Zf cx.P st E w Z B ty (.assign x) d:=by
 unfold B7t at a;cases b:st.ev ctx x with
 |some s=>
  rw[b]at a;cases a;obtain⟨c,f⟩:=h.ev g b;exact⟨⟨_,fun g _=>B5t,fun _=>c,f⟩,⟨_,fun g _=>pG,fun _=>c,f⟩⟩
 |none=>
  rw[b]at a;cases x with
  |tmp t=>
   simp only at a;cases b:st.S t with
   |tup c=>
    rw[b]at a;cases a;obtain⟨g,e,c,f⟩:=h.tup b;exact⟨⟨_,fun i _=>B5t,fun _=>⟨g,e,c⟩,f⟩,⟨_,fun i _=>pG,fun _=>⟨g,e,c⟩,f⟩⟩
   |one _=>rw[b]at a;cases a
   |cnd _ _ _=>rw[b]at a;cases a
   |dead=>rw[b]at a;cases a
  |const _=>cases a
  |global _=>cases a
  |func _=>cases a
def B7.c1 (h:B7 za w0 st E w Z B) (f:P9 E ctx) {x:Operand} {c:C} (b:(st.ev ctx x).bind Vc.c1=some c):RC w Z B c (Gw.ev E x)/\Cr st.nx c:=by
 obtain⟨s,g,a⟩:=bind_some.1 b;obtain⟨b,d⟩:=h.ev f g;exact lR b d a
def B7.int (h:B7 za w0 st E w Z B) (b:P9 E ctx) {x:Operand} {n:Int} (d:(st.ev ctx x).bind iI=some n):∃k,Gw.ev E x= .int k n/\OR k n:=by
 obtain⟨s,c,a⟩:=bind_some.1 d;exact B7g (h.ev b c).1 a
def A7r (h:B7 za w0 st E w Z B) (i:P9 E ctx) {c a b:Operand} (f:A2f st ctx c a b=some (φ,d)):Zf cx.P st E w Z B ty (.pick c a b) d:=by
 simp only[A2f,qH,bind_some,qN]at f;obtain⟨e,⟨y,s,g⟩,u,⟨z,k,n⟩,v,⟨A,l,o⟩,x,r,j⟩:=f;cases j;have j:Gw.ev E c= .bool e:=Rz (h.ev i s).1 g;have g:∀q,e=q->P9 E (C2u st q c++ctx):=fun q hq t b f=>by
  rcases qY.1 f with f|f
  . cases c with
    |tmp s=>exact h.gctx (by rw[<-hq];exact j) t b f
    |const _=>cases f
    |global _=>cases f
    |func _=>cases f
  . exact i t b f
 have f:=B4c (w:=w) (Z:=Z) (B:=B) (v1:=Gw.ev E a) (v2:=Gw.ev E b) r (fun q=>(lR (h.ev (g true q) k).1 (h.ev (g true q) k).2 n).1) (fun q=>(lR (h.ev (g false q) l).1 (h.ev (g false q) l).2 o).1);exact Ja (fun g _=>C3w j) f.1 (f.2 _)
def B5i (h:B7 za w0 st E w Z B) (b:P9 E ctx) {op:UnOp} {T:TypeId} {x:Operand} (a:B5h st ctx op x=some (φ,d)):Zf cx.P st E w Z B ty (.unOp op T x) d:=by
 simp only[B5h,qH,bind_some,qN]at a;obtain⟨j,⟨s,i,c⟩,r,g,f⟩:=a;cases f;exact C7j (h.c1 b (bind_some.2 ⟨s,i,c⟩)).1 g
def C7o {P:Program} {T T' ty:TypeId} {x y:Operand} {a:Ty} {u v:a.den} (b:FR P T true a=true) (c:Bj true a w Z (Gw.ev E x) u) (d:Bj true a w Z (Gw.ev E y) v) (w':World):Gw.E7 P E ty (.binOp .eql T x y T') w' (.bool (GY a u v)) w'/\Gw.E7 P E ty (.binOp .neq T x y T') w' (.bool (!(GY a u v))) w':=by
 have f:=dO b c d w';have i:P.eqGuardType P.depth T=false:=by simp only[FR,qC,rO]at b;exact b.1.2
 obtain⟨g,b,_⟩:=c;obtain⟨h,c,_⟩:=d;rw[b,c]at f;refine⟨fun _ _ _ _=> ?_,fun _ _ _ _=> ?_⟩
 . have d:(eqGuard .eql T x y (.agg g.toArray) (.agg h.toArray)).run P w'= .ok () w':=run_eqGuard_agg w' _ _ _ _ _ _ i;simp only[execOp,b,c];simp[d,run_eql_struct,f,Result.andThen]
 . have d:(eqGuard .neq T x y (.agg g.toArray) (.agg h.toArray)).run P w'= .ok () w':=run_eqGuard_agg w' _ _ _ _ _ _ i;simp only[execOp,b,c];simp[d,run_neq_struct,f,Result.andThen]
def A5y (h:B7 za w0 st E w Z B) (u:H5 cx.P cx.tys=true) (b:P9 E ctx) {op:BinOp} {T T':TypeId} {x y:Operand} (a:A0l cx st ctx op T x y=some (φ,d)) (A:RH φ):Zf cx.P st E w Z B ty (.binOp op T x y T') d:=by
 simp only[A0l,qH,bind_some]at a;obtain⟨g,c,i,f,a⟩:=a;obtain⟨k,o⟩:=h.ev b c;obtain⟨l,c⟩:=h.ev b f;split at a
 . rename_i g n i j;have v:=(lR k o i).1;have z:=(lR l c j).1;cases b:iL g&& !(isB cx.P T)with
   |true=>simp[b]at a
   |false=>
    simp only[b,rF,qN]at a;obtain⟨r,t,c⟩:=a;cases c;have s:isB cx.P T=true\/∀e,g≠ .val .bool e:=by
     cases f:isB cx.P T with
     |true=>exact .inl rfl
     |false=>
      right;intro e c;subst c;simp[iL,f]at b
    obtain⟨b,o,r,f⟩:=B6l (P:=cx.P) (ty:=ty) (T':=T') t A v z s;exact Ja (fun b _=>o b) r (f _)
 . simp only[bind_some]at a;obtain⟨ti,o,g,i,n,j,a⟩:=a;obtain⟨c,a⟩:(ti.eq&&ti.agg)=true/\ _:=by
    cases g:(ti.eq&&ti.agg)with
    |false=>simp[g]at a
    |true=>simp only[g,qT]at a;exact⟨rfl,a⟩
   simp only[qC]at c;have f:=B9n (B9 u o) c.1;rw[c.2]at f;have c:=fun b=>C7o (P:=cx.P) (ty:=ty) (T':=T') f (Eu k i) (Eu l j) b
   split at a
   . cases a;exact Ja (fun b _=>(c b).1) rfl trivial
   . cases a;exact Ja (fun b _=>(c b).2) rfl trivial
   . cases a
def gW (h:B7 za w0 st E w Z B) {x:Operand} {i:Nat} (a:OM st x i=some (φ,d)):Zf cx.P st E w Z B ty (.extract x i) d:=by
 unfold OM at a;split at a
 . rename_i t;split at a
   . rename_i vs g;simp only[qN]at a;obtain⟨s,b,c⟩:=a;cases c;obtain⟨k,e,c,f⟩:=h.tup g;obtain⟨v,g,j⟩:=Rp.get c b;exact⟨v,fun c _=>A8x (vs:=k.toArray) e (by simpa using g),fun _=>j,f s (sO b)⟩
   . cases a
 . cases a
def WM (h:B7 za w0 st E w Z B) (n:H5 cx.P cx.tys=true) (g:P9 E ctx) {T:TypeId} {x:Operand} {f:Nat} (a:AA cx st ctx T x f=some (φ,d)):Zf cx.P st E w Z B ty (.fieldAddr T x f) d:=by
 simp only[AA,qH,bind_some,qN]at a;obtain⟨ti,l,q,b,o,⟨s,k,i⟩,r,j,c⟩:=a;cases c;have c:=BR (B9 n l) (Jr b);have a:=Ve c.1 b;rw[sF]at a;have b:=h.c1 g (bind_some.2 ⟨s,k,i⟩);exact C4t a.1 b.1 b.2 j
def A0y (h:B7 za w0 st E w Z B) (Q:H5 cx.P cx.tys=true) (i:P9 E ctx) {T:TypeId} {x:Operand} {f:Nat} (c:gX cx st ctx T x f=some (φ,d)):Zf cx.P st E w Z B ty (.field T x f) d:=by
 simp only[gX,qH,bind_some]at c;obtain⟨ti,O,q,y,V,M,c⟩:=c;obtain⟨D,r⟩:=h.ev i M;have F:=BR (B9 Q O) (Jr y);have s:=Ve F.1 y;rw[sF]at s;obtain⟨W,Y⟩:=V;cases W with
 |false=>simp at c
 |true=>
  simp only[qT,qN]at c;obtain⟨a0,G,H⟩:=c;cases H;obtain⟨k,e,R⟩:=D;obtain⟨g,t,u⟩:=VY R G;obtain⟨b,a⟩:=s;unfold ON at b;unfold A0x at a;split at b
  . rename_i a1 n;simp only[n]at a;split at b
    . rename_i j l;simp only[l]at a;simp only[qC,g0c]at b;obtain⟨a2,sz,z⟩:=q;simp only at b a g t;obtain⟨J,_⟩:=b;subst J;cases z with
      |true=>
       simp only[qT]at a;refine⟨.agg ((k.drop j.offset).take sz).toArray,fun I _ _ _ _ _=> ?_,fun _=>⟨_,rfl,g⟩,fun o i=>r o (u o i)⟩;obtain⟨v,A⟩:=Qx (P:=cx.P) (w:=I) a;simp only[execOp,e];simp[Instr.field,run_underlying n,l,asAgg,part,v,A,go_sem]
      |false=>
       simp only[rF,qC]at a;have N:=qE a.2;subst N
       match U:(k.drop j.offset).take 1,g,t with
       | [v],g,_=>
        have I:k[j.offset]? =some v:=by
         have:((k.drop j.offset).take 1)[0]? =some v:=by rw[U];rfl
         simpa using this
        refine⟨v,fun X _ _ _ _ _=> ?_,fun _=>g,fun o i=>r o (u o i)⟩;have A:=Jd (P:=cx.P) (w:=X) a.1;simp only[execOp,e];simp[Instr.field,run_underlying n,l,asAgg,part,A,I,go_sem]
    . cases b
  . cases b
def A7f (h:B7 za w0 st E w Z B) (k:H5 cx.P cx.tys=true) (b:P9 E ctx) {T:TypeId} {x:Operand} (a:A1k cx st ctx T x=some (φ,d)):Zf cx.P st E w Z B ty (.load T x) d:=by
 simp only[A1k,qH,bind_some,qN]at a;obtain⟨ti,j,l,⟨s,i,c⟩,r,g,f⟩:=a;cases f;obtain⟨f,a,_⟩:=O4 (B9 k j);refine B7p h (h.c1 b (bind_some.2 ⟨s,i,c⟩)).1 g ?_;rcases a with⟨b,a⟩ | ⟨b,a,c⟩
 . exact .inl ⟨b,a⟩
 . exact .inr ⟨b,a,c⟩
def B7d (h:B7 za w0 st E w Z B) (l:H5 cx.P cx.tys=true) (b:P9 E ctx) {T:TypeId} {x ix:Operand} (a:C1x cx st ctx T x ix=some (φ,d)) (n:RH φ):Zf cx.P st E w Z B ty (.indexAddr T x ix) d:=by
 simp only[C1x,qH,bind_some]at a;obtain⟨ti,k,c,⟨s,i,f⟩,u,⟨t,o,g⟩,r,j,a⟩:=a;have c:=h.c1 b (bind_some.2 ⟨s,i,f⟩);obtain⟨f,i,_⟩:=h.int b (bind_some.2 ⟨t,o,g⟩);obtain⟨f,b⟩:=r;simp only at a;split at a
 . rename_i t f y v g;cases b:decide (t=f)with
   |false=>simp[b]at a
   |true=>
    simp only[b,qT]at a;cases a;have:=qA b;subst this;have r:=EZ (B9 l k) g;refine B1z h c.1 i j n (e:=ti.elem) (fun s u=> ?_) c.2;rcases u with⟨y,z,f,o⟩ | ⟨_,_,f⟩
    . cases f;subst o;exact r.1
    . cases f
 . rename_i t o sz f v g;cases b:Nat.beq t.size sz with
   |false=>simp[b]at a
   |true=>
    simp only[b,qT]at a;cases a;have:=qE b;have f:=EZ (B9 l k) g;refine B1z h c.1 i j n (e:=ti.elem) (fun s g=> ?_) c.2;rcases g with⟨i,j,b,c⟩ | ⟨_,_,b⟩
    . cases b
    . cases b;rw[<-this];exact f.1
 . cases a
def kH {P:Program} {T e ty:TypeId} {x ix:Operand} {d:IntKind} {i:Int} {b o n sz:Nat} (h:Gw.ev E x= .pointer (some ⟨b,o,none⟩)) (f:Gw.ev E ix= .int d i) (g:P.underlying T=some (.array n e)) (j:Tu P e sz=true) (a:0<=i) (c:i<(n:Int)) (w:World):
 Gw.E7 P E ty (.indexAddr T x ix) w (.pointer (some ⟨b,o+i.toNat*sz,none⟩)) w:=fun _ _ _ _=>by
 have d:=Gw.Ga (P:=P) (w:=w) j;simp[execOp,h,f,Instr.indexAt,asIntOf,run_underlying g,Instr.sureAddr,a,c,d,go_sem,K5]
def C5.selA {u:Ty} :∀ {n:Nat} {a:List Value} {x:(A9r u n).den} {i:Int},0<=i->i<(n:Int)->C5 (A9r u n) w Z a x->C5 u w Z ((a.drop (i.toNat*u.size)).take u.size) (Vc.selA u n x i)
 |0,_,_,i,b,c,_=>by omega
 |1,a,x,i,b,c,h=>by
  have:i.toNat=0:=by omega
  rw[this,yD,tW,qW (by rw[C5.length h];exact qZ _)];exact h
 |n+2,a,x,i,f,g,⟨c1,c,e,b,d⟩=>by
  subst e;have c:=C5.length b;simp only[Vc.selA];by_cases a:i=0
  . subst a;simp only[g3j,J9,qT];rw[show(0:Int).toNat=0 from rfl,yD,tW, <-c,g2y];exact b
  . simp only[a,g0q,J9,rF];have:=C5.selA (i:=i-1) (by omega) (by omega) d;have a:i.toNat*u.size=c1.length+(i-1).toNat*u.size:=by
     rw[c,show i.toNat=(i-1).toNat+1 from by omega,uR,wD]
    rw[a, <-vT,g2w];exact this
def B1y (h:B7 za w0 st E w Z B) (o:H5 cx.P cx.tys=true) (l:P9 E ctx) {T:TypeId} {x ix:Operand} (a:B1x cx st ctx T x ix=some (φ,d)) (t:RH φ):Zf cx.P st E w Z B ty (.indexAddr T x ix) d:=by
 unfold B1x at a;split at a
 . rename_i ti O;cases s:Nat.beq ti.arr 0 with
   |true=>
    simp only[s,qT]at a;split at a
    . rename_i r b;cases a;simp only[C5d,qH,bind_some]at b;obtain⟨_,_,c,_,b⟩:=b;split at b
      . cases b;exact t.elim
      . cases b
    . exact B7d h o l a t
   |false=>
    simp only[s,rF]at a;cases u:A4e ix with
    |false=>
     simp only[u,rF,C5e,qH,bind_some]at a;obtain⟨M,F,R,⟨I,A,y⟩,Q,⟨J,D,z⟩,a⟩:=a;have r:=h.c1 l (bind_some.2 ⟨I,A,y⟩);obtain⟨U,j,_⟩:=h.int l (bind_some.2 ⟨J,D,z⟩);have k:=ZK (B9 o O) s;have n:=(O4 (B9 o F)).1;split at a
     . rename_i b c;split at a
       . rename_i b;subst b;cases a;obtain⟨g,i⟩:=t;obtain⟨b,H,N,e,G,v,c⟩:=r.1;exact Ja (fun f _=>kH e j k n g i f) ⟨b,H+0+Q.toNat*M.ty.size,_,rfl,G,S6 v _ M.ty.size,c.selA g i⟩ trivial
       . cases a
     . cases a
    |true=>
    simp only[u,qT]at a;simp only[C5c,qH,bind_some,qN]at a;obtain⟨M,F,R,⟨I,A,y⟩,Q,⟨J,D,z⟩,V,u,a⟩:=a;cases a;have r:=h.c1 l (bind_some.2 ⟨I,A,y⟩);obtain⟨U,j,_⟩:=h.int l (bind_some.2 ⟨J,D,z⟩);have k:=ZK (B9 o O) s;have n:=(O4 (B9 o F)).1;obtain⟨g,i⟩:=t;have c:=r.1;have l:=r.2;unfold faC at u;split at u<;>cases u
    . obtain⟨b,e,o⟩:=c;exact Ja (fun f _=>kH o j k n g i f) ⟨b,e,rfl⟩ l
    . obtain⟨b,m,r,e,s,o⟩:=c;exact Ja (fun f _=>kH o j k n g i f) ⟨b,m,r,e,s,by rw[uN]⟩ l
    . obtain⟨b,H,N,e,G,v,c⟩:=c;exact Ja (fun f _=>kH e j k n g i f) ⟨b,H,N,by rw[uN],G,v,c⟩ l
 . cases a
def B3i (h:B7 za w0 st E w Z B) (b:P9 E ctx) {x:Operand} (a:B3h st ctx x=some (φ,d)):Zf cx.P st E w Z B ty (.nilCheck x) d:=by
 simp only[B3h,qH,bind_some]at a;obtain⟨c,⟨s,i,g⟩,a⟩:=a;have f:=h.c1 b (bind_some.2 ⟨s,i,g⟩);cases b:C5m c with
 |false=>simp only[b,rF]at a;cases a
 |true=>
  simp only[b,qT]at a;cases a;have a:=f.1;refine Ja (v:=Gw.ev E x) (fun g _ _ _ _ _=> ?_) a f.2;cases c with
  |box k c=>obtain⟨f,e,c⟩:=a;simp[execOp,c]
  |elp k sz i c=>obtain⟨f,m,g,e,i,c⟩:=a;simp[execOp,c]
  |pf t y c=>obtain⟨c,o,f,e,_⟩:=a;simp[execOp,e]
  |fn f c=>have c:Gw.ev E x= _:=a;simp[execOp,c]
  |fv _ _ _ _ _ _=>obtain⟨g,f,c,_⟩:=a;simp[execOp,c]
  | _=>cases b
def UI (h:B7 za w0 st E w Z B) (b:P9 E ctx) {o:Option Operand} {i:Option Int} (a:B7y st ctx o=some i):A9k E o i:=by
 unfold B7y at a;cases o with
 |none=>cases a;rfl
 |some o=>
  simp only[qN]at a;obtain⟨j,c,rfl⟩:=a;obtain⟨k,a,_⟩:=h.int b c;exact⟨k,j,rfl,a⟩
def A2o (h:B7 za w0 st E w Z B) (r:H5 cx.P cx.tys=true) (c:P9 E ctx) {T:TypeId} {x:Operand} {lo b:Option Operand} (a:jY cx st ctx T x lo b=some (φ,d)) (u:RH φ):Zf cx.P st E w Z B ty (.slice T x lo b none) d:=by
 simp only[jY,qH,bind_some]at a;obtain⟨ti,o,g,⟨s,f,b⟩,t,l,j,k,i,n,a⟩:=a;have g:=h.c1 c (bind_some.2 ⟨s,f,b⟩);obtain⟨j,b⟩:=i;simp only at a;split at a
 . rename_i t i y j;cases b:decide (t=i)with
   |false=>simp[b]at a
   |true=>
    simp only[b,qT]at a;cases a;have:=qA b;subst this;have v:=EZ (B9 r o) j;refine oP h (e:=ti.elem) g.1 n g.2 u (UI h c l) (UI h c k) (fun s f=> ?_);rcases f with⟨y,z,i,rfl⟩ | ⟨_,_,_,i⟩
    . cases i;exact v.1
    . cases i
 . rename_i t v sz y i j;cases b:Nat.beq t.size sz with
   |false=>simp[b]at a
   |true=>
    simp only[b,qT]at a;cases a;have:=qE b;subst this;have i:=EZ (B9 r o) j;refine oP h (e:=ti.elem) g.1 n g.2 u (UI h c l) (UI h c k) (fun s f=> ?_);rcases f with⟨c,g,b,rfl⟩ | ⟨_,_,_,b⟩
    . cases b
    . cases b;exact i.1
 . cases a
def A6m (h:B7 za w0 st E w Z B) (b:H5 cx.P cx.tys=true) (i:P9 E ctx) {T T':TypeId} {x:Operand} (a:A0t cx st ctx T T' x=some (φ,d)):Zf cx.P st E w Z B ty (.convert T T' x) d:=by
 simp only[A0t,qH,bind_some]at a;obtain⟨ti,l,y,n,r,⟨s,k,j⟩,a⟩:=a;have c:=h.c1 i (bind_some.2 ⟨s,k,j⟩);split at a
 . rename_i t u v o f g;cases a;exact B6q c.1 ⟨_,dL (pA (B9 b l) f)⟩ (pA (B9 b n) g)
 . cases a
def A0o (h:B7 za w0 st E w Z B) (j:H5 cx.P cx.tys=true) (g:P9 E ctx) {T:TypeId} {b:List (Nat×Operand)} (a:gG cx st ctx T b=some (φ,d)):Zf cx.P st E w Z B ty (.build T b.toArray) d:=by
 simp only[gG,qH,bind_some]at a;obtain⟨ti,c,l,i,a⟩:=a;have b:=B9 j c;cases f:ti.fields.isEmpty with
 |true=>
  simp only[f,qT,bind_some]at a;obtain⟨c,n,a⟩:=a;cases c:Nat.beq ti.arr 0 with
  |true=>simp[c]at a
  |false=>
   simp only[c,rF,qN]at a;obtain⟨o,k,l⟩:=a;cases l;exact gH h g (O4 b).2.2 (ZK b c) (O4 (B9 j n)).1 i k
 |false=>
  simp only[f,rF,qN]at a;obtain⟨k,c,j⟩:=a;cases j;exact B0g h g (O4 b).2.2 (BR b f).2 i c
def nA (h:B7 za w0 st E w Z B) (c:H5 cx.P cx.tys=true) (b:P9 E ctx) {T:TypeId} {x ix:Operand} (a:WU cx st ctx T x ix=some (φ,d)) (f:RH φ):Zf cx.P st E w Z B ty (.index T x ix) d:=by unfold WU at a;cases a
def B5g {P:Program} {T:TypeId} {ti:TI} (h:Wi P T ti=true) (b:ti.ty= .str):P.underlying T=some .string:=by
 unfold Wi at h;simp only[qC]at h;have a:=h.1.1.1.2;rw[b]at a;simp only at a;split at a
 . assumption
 . cases a
def pI {P:Program} {E:Gw.G2} {w:World} {ty T:TypeId} {x ix:Operand} {s:ByteArray} {a:IntKind} {i:Int} (h:Gw.ev E x= .string s) (g:Gw.ev E ix= .int a i) (c:P.underlying T=some .string) (b:0<=i) (d:i<(s.data.toList.length:Int)):Gw.E7 P E ty (.index T x ix) w (.int .u8 (IA s i)) w:=fun _ _ _ _=>by
 have a:i.toNat<s.data.size:=by rw[<-sR];omega
 have f:s[i.toNat]? =some s.data[i.toNat]:=by
  have:s[i.toNat]? =s.data[i.toNat]?:=by
   rw[getElem?_def,getElem?_def];rfl
  rw[this,tZ a]
 have d:IA s i=(s.data[i.toNat].toNat:Int):=by
  unfold IA;rw[qF,wJ,tZ a];rfl
 simp[execOp,h,g,Instr.index,asIntOf,run_underlying c,b,f,d,go_sem]
def nB (h:B7 za w0 st E w Z B) (b:P9 E ctx) {P:Program} {T:TypeId} {x ix:Operand} (f:P.underlying T=some .string) (a:WV st ctx x ix=some (φ,d)) (c:RH φ):Zf P st E w Z B ty (.index T x ix) d:=by
 simp only[WV,qH,bind_some]at a;obtain⟨j,⟨sv,l,g⟩,n,⟨o,k,i⟩,a⟩:=a;obtain⟨r,j,_⟩:=h.int b (bind_some.2 ⟨o,k,i⟩);split at a
 . rename_i s;cases a;have i:=(h.c1 b (bind_some.2 ⟨sv,l,g⟩)).1;have b:Gw.ev E x= .string s:=(List.cons.inj (show [Gw.ev E x]= [.string s]from i)).1;exact Ja (fun g _=>pI b j f c.1 c.2) ⟨rfl,by
    have:=(s.data.toList.getD n.toNat 0).toNat_lt;unfold IA;constructor
    . exact qD _
    . show _ <=(255:Int);omega⟩ trivial
 . cases a
def A1b (h:B7 za w0 st E w Z B) (g:H5 cx.P cx.tys=true) (f:P9 E ctx) {T:TypeId} {x ix:Operand} (a:iH cx st ctx T x ix=some (φ,d)) (i:RH φ):Zf cx.P st E w Z B ty (.index T x ix) d:=by
 unfold iH at a;split at a
 . rename_i b;cases c:cx.ti T with
   |none=>rw[c]at b;cases b
   |some ti=>
    rw[c]at b;exact nB h f (B5g (B9 g c) (wY b)) a i
 . exact nA h g f a i
def A4o (h:B7 za w0 st E w Z B) {i j:Bool} {f g:Ty} {c:C} {v:Value} {es:List (f.den×g.den)} (k:RC w Z B c v) (a:B7q st i f j g c=some es):
 (v= .map none/\es= [])\/∃b d cl,v= .map (some b)/\b<w.heap.size/\w.heap[b]? =some (.map d cl)/\Rr w Z i f j g d.toList es:=by
 unfold B7q at a;split at a
 . rename_i o;split at a
   . rename_i r s t u n l;split at a
     . rename_i g;have i:=h.locs o;rw[l]at i;obtain⟨b,d,cl,e,_,_,f,_,j⟩:=i;cases g;cases a;exact .inr ⟨b,d,cl,(show v= _ from k).trans e,(rV.1 f).1,f,j⟩
     . cases a
   . rename_i r s t u n x q l;split at a
     . rename_i g;have i:=h.locs o;rw[l]at i;obtain⟨b,d,cl,e,_,_,f,⟨_,j⟩,_⟩:=i;cases g;cases a;exact .inr ⟨b,d,cl,(show v= _ from k).trans e,(rV.1 f).1,f,j⟩
     . cases a
   . cases a
 . rename_i t n;split at a
   . rename_i g;subst g;cases a;rcases k with⟨e,i⟩ | ⟨b,d,cl,e,f,g,_,j⟩
     . simp only[sI,vN]at e;exact .inl ⟨e,i⟩
     . simp only[sI,vN]at e;exact .inr ⟨b,d,cl,e,h.zlt b f,g,j⟩
   . cases a
 . cases a;exact .inl ⟨k.1,rfl⟩
 . cases a
def EB {a:Ty} {b:Type} {Rk:Value->a.den->Prop} {Rv:Value->b->Prop} {k:a.den} :∀ {l:List (a.den×b)} {es:List MapEntry} {i:Nat},R7 Rk Rv es l->(N5 a k l i=none/\K9 a k l=none)\/∃j e y,N5 a k l i=some (i+j)/\es[j]? =some e/\K9 a k l=some y/\Rv e.val y/\Rk e.key ((l[j]?).map (·.1) |>.getD k)/\GY a k ((l[j]?).map (·.1) |>.getD k)=true
 | [],_,_,_=> .inl ⟨rfl,rfl⟩
 |x::l,_,i,⟨e,f,d,b,c,h⟩=>by
  subst d;simp only[N5,K9];cases d:GY a k x.1 with
  |true=>exact .inr ⟨0,e,x.2,rfl,rfl,rfl,c,b,d⟩
  |false=>
   rcases EB (i:=i+1) h with⟨a,b⟩ | ⟨j,c,y,a,b,d,f,g⟩
   . exact .inl ⟨a,b⟩
   . exact .inr ⟨j+1,c,y,by rw[rF,a,uN,wD 1 j],by simpa using b,d,f,by simpa using g⟩
def pJ {P:Program} {T:TypeId} {z:Value} (h:Hw P T=some z) (w':World):(zeroValue T).run P w'= .ok z w':=by
 unfold Hw at h;cases a:P.info? T with
 |none=>simp[a]at h
 |some i=>simp only[a,vY]at h;simp[zeroValue,typeInfo,a,h]
def nN (h:B7 za w0 st E w Z B) (F:H5 cx.P cx.tys=true) (j:P9 E ctx) {T:TypeId} {x ix:Operand} {g:Bool} (b:XD cx st ctx T x ix g=some (φ,d)) (O:RH φ):Zf cx.P st E w Z B ty (.lookup T x ix g) d:=by
 simp only[XD,qH,bind_some]at b;obtain⟨ti,z,A,⟨a0,G,a⟩,f,c,b⟩:=b;have v:=h.c1 j (bind_some.2 ⟨a0,G,a⟩);obtain⟨t,_⟩:=h.ev j c;split at b
 . rename_i a o n c r;simp only[bind_some]at b;obtain⟨es,D,k,u,b⟩:=b;have X:(∃Q,c= .sl Q/\g=false/\n=false/\φ=some (K9 o k es=none)/\d=one1 (.raw (.slice none 0 0)))\/(Sj c=true/\some (φ,d)=some ((none:Option Prop),bif g then DV.tup [⟨n,explode c ((K9 o k es).getD c.dflt)⟩,⟨false,[.val .bool (K9 o k es).isSome]⟩]else .one ⟨n,explode c ((K9 o k es).getD c.dflt)⟩)):=by
    cases a:ti.rows&&C5h A&&C1z c&& !g&& !n with
    |true=>
     simp only[a,qT]at b;cases b;simp only[qC,rO]at a;cases c<;>simp[C1z]at a;exact .inl ⟨_,rfl,a.1.2,a.2,rfl,rfl⟩
    |false=>
     simp only[a,rF]at b;cases a:Sj c with
     |false=>simp[a]at b
     |true=>simp only[a,qT]at b;exact .inr ⟨rfl,b.symm⟩
   have y:Sj c=true:=by
    rcases X with⟨Q,rfl,_⟩ | ⟨h,_⟩
    . rfl
    . exact h
   obtain⟨N,s,a,f⟩:=Wj (B9 F z) r;have r:=Eu t u;obtain⟨z,H,I⟩:=Gk a;have M:Bj n c w Z z c.dflt:=by
    have a:=NM (w:=w) (Z:=Z) y;rw[<-I]at a;unfold NL at f;rw[H]at f;cases z with
    |agg t=>cases n<;>simp at f;exact⟨t.toList,by simp,a⟩
    |tuple _=>simp at f
    | _=>cases n<;>simp at f<;>exact a
   have a3:∃u t,(∀a,R8 w a->(Instr.lookup T (Gw.ev E x) (Gw.ev E ix) g).run cx.P a= .ok (if g then .tuple #[u, .bool t]else u) a)/\Bj n c w Z u ((K9 o k es).getD c.dflt)/\t=(K9 o k es).isSome/\(t=false->u=z):=by
    rcases A4o h v.1 D with⟨e,n⟩ | ⟨y,U,R,e,Y,W,J⟩
    . refine⟨z,false,fun a _=> ?_,by rw[n];exact M,by rw[n];rfl,fun _=>rfl⟩;have n:=fun em=>Sd s r a em
      have v:=AI (Rv:=fun _ (_:c.den)=>True) s r a (l:= []) (es:= []) rfl;unfold Instr.lookup;simp only[Sem.run_bind,run_underlying N,Result.andThen_ok,e,Sem.run_pure,n,v,N5,g1w,pJ H]
    . rcases EB (k:=k) (i:=0) J with⟨D,F⟩ | ⟨c,a1,a4,D,F,V,a2,_⟩
      . refine⟨z,false,fun a c=> ?_,by rw[F];exact M,by rw[F];rfl,fun _=>rfl⟩;have n:=fun em=>Sd s r a em
        have v:=AI s r a J;have M:(getObj y).run cx.P a= .ok (.map U R) a:=by simp[getObj,Sem.run,c.block y Y,W]
        unfold Instr.lookup;simp only[Sem.run_bind,run_underlying N,Result.andThen_ok,e,Sem.run_pure,M,n,v,D,g1w,pJ H]
      . refine⟨a1.val,true,fun a c=> ?_,by rw[V];exact a2,by rw[V];rfl,fun V=>(by cases V)⟩;have n:=fun em=>Sd s r a em
        have v:=AI s r a J;have M:(getObj y).run cx.P a= .ok (.map U R) a:=by simp[getObj,Sem.run,c.block y Y,W]
        rw[sF]at D;unfold Instr.lookup;simp only[Sem.run_bind,run_underlying N,Result.andThen_ok,e,Sem.run_pure,M,n,v,D,vY,F,vW]
   obtain⟨u,t,n,r,s,v⟩:=a3;rcases X with⟨Q,rfl,rfl,rfl,rfl,rfl⟩ | ⟨_,b⟩
   . have O:K9 o k es=none:=O;have o:u= .slice none 0 0:=by
      rw[v (by rw[s,O];rfl)];unfold NL at f;rw[H]at f;cases z with
      |agg v=>simp at f
      |tuple _=>simp at f
      |slice f v A=>simp[Dv,Value.cells]at I;obtain⟨rfl,rfl,rfl⟩:=I;rfl
      | _=>simp[Dv,Value.cells]at I
     refine⟨u,fun a c=>fun _ _ _ _=> ?_,fun E'=> ?_,fun A j=> ?_⟩
     . have:=n a (c rfl);simp at this;simp[execOp,this]
     . rw[o];exact⟨_,[],rfl,⟨rfl,rfl⟩,rfl⟩
     . simp at j;subst j;trivial
   cases g with
   |true=>
    simp only[qT]at b;cases b;refine⟨.tuple #[u, .bool t],fun a c=>fun _ _ _ _=> ?_,fun E'=>⟨[u, .bool t],rfl,u,_,rfl,Bj.explode r,_,_,rfl,⟨_,[],rfl,by rw[s];rfl,rfl⟩,rfl⟩,fun a0 G=> ?_⟩
    . simp[execOp,n a (c rfl)]
    . simp at G;rcases G with rfl|rfl
      . exact E2
      . intro A j;simp at j;subst j;trivial
   |false=>
    simp only[rF]at b;cases b;refine⟨u,fun a c=>fun _ _ _ _=> ?_,fun E'=>Bj.explode r,E2⟩;simp[execOp,n a (c rfl)]
 . cases b
def B3e (h:B7 za w0 st E w Z B) (c:P9 E ctx) {fn:Fn} {first b:List Operand} (a:B3d st ctx fn first b=some (φ,d)):Zf cx.P st E w Z B ty (.makeFunc fn first.toArray b.toArray) d:=by
 unfold B3d at a;split at a
 . simp only[qH,bind_some]at a;obtain⟨i,f,g,b,a⟩:=a;cases a;exact C2l h c f b
 . cases a
def Vk {k:IntKind} {a b:Int} (c:OR k a) (d:OR k b):OR k (max a b)/\OR k (min a b):=by unfold OR at*;omega
def RC.int {k:IntKind} {a:Int} {v:Value} (h:RC w Z B (.val (.int k) a) v):v= .int k a/\OR k a:=by
 obtain⟨b,c⟩:=h;simp only[sI,vN]at b;exact⟨b,c⟩
def gI (h:B7 za w0 st E w Z B) (O:H5 cx.P cx.tys=true) (f:P9 E ctx) {b:Builtin} {args:List Operand} {ts:List TypeId} (a:OG cx st ctx b args ts=some (φ,d)):Zf cx.P st E w Z B ty (.call ⟨.builtin b,args.toArray,ts.toArray⟩) d:=by
 unfold OG at a;split at a
 . simp only[qH,bind_some]at a;obtain⟨ti,N,u,⟨s,j,i⟩,U,J,a⟩:=a;have g:=h.c1 f (bind_some.2 ⟨s,j,i⟩);split at a
   . cases a
   . rename_i V F I;cases a;refine C2f h g.1 J (EZ (B9 O N) F).1 (fun k H=> ?_);subst H;exact I _ rfl
   . cases a
 . simp only[qH,bind_some]at a;obtain⟨u,⟨s,j,i⟩,x,⟨t,o,n⟩,a⟩:=a;have g:=h.c1 f (bind_some.2 ⟨s,j,i⟩);have l:=h.c1 f (bind_some.2 ⟨t,o,n⟩);split at a
   . rename_i k v r b;cases c:decide (k=r)with
     |false=>simp[c]at a
     |true=>
      simp only[c,qT]at a;cases a;have:=qA c;subst this;have y:=RC.int g.1;have z:=RC.int l.1;exact Ja (fun A _=>C3t y.1 z.1) ⟨rfl,(Vk y.2 z.2).1⟩ trivial
   . cases a
 . simp only[qH,bind_some]at a;obtain⟨u,⟨s,j,i⟩,x,⟨t,o,n⟩,a⟩:=a;have g:=h.c1 f (bind_some.2 ⟨s,j,i⟩);have l:=h.c1 f (bind_some.2 ⟨t,o,n⟩);split at a
   . rename_i k v r b;cases c:decide (k=r)with
     |false=>simp[c]at a
     |true=>
      simp only[c,qT]at a;cases a;have:=qA c;subst this;have y:=RC.int g.1;have z:=RC.int l.1;exact Ja (fun A _=>C3v y.1 z.1) ⟨rfl,(Vk y.2 z.2).2⟩ trivial
   . cases a
 . simp only[qH,bind_some]at a;obtain⟨u,⟨s,j,i⟩,x,⟨t,o,n⟩,T,⟨R,M,G⟩,a⟩:=a;have g:=h.c1 f (bind_some.2 ⟨s,j,i⟩);have l:=h.c1 f (bind_some.2 ⟨t,o,n⟩);have D:=h.c1 f (bind_some.2 ⟨R,M,G⟩);split at a
   . rename_i k v r b Q u;cases c:decide (k=r)&&decide (k=Q)with
     |false=>simp only[c,rF]at a;cases a
     |true=>
      simp only[c,qT]at a;cases a;simp only[qC,rS]at c;obtain⟨rfl,rfl⟩:=c;have y:=RC.int g.1;have z:=RC.int l.1;have A:=RC.int D.1;exact Ja (fun W _=>C3u y.1 z.1 A.1) ⟨rfl,(Vk (Vk y.2 z.2).1 A.2).1⟩ trivial
   . cases a
 . cases a
def ET (h:B7 za w0 st E w Z B) (c:H5 cx.P cx.tys=true) (b:P9 E ctx) {op:Op} (a:BC cx st ctx op=some (φ,d)) (f:RH φ):Zf cx.P st E w Z B ty op d:=by
 unfold BC at a;split at a
 . exact(A4p h b a).1
 . exact(A4p h b a).2
 . exact A7r h b a
 . exact B5i h b a
 . exact A5y h c b a f
 . exact gW h a
 . exact WM h c b a
 . exact A0y h c b a
 . exact A7f h c b a
 . exact B1y h c b a f
 . exact A1b h c b a f
 . exact nN h c b a f
 . exact A2o h c b a f
 . exact A6m h c b a
 . rename_i T f;have:=A0o (ty:=ty) h c b a;simpa using this
 . exact B3i h b a
 . have:=B3e (cx:=cx) (ty:=ty) h b a;simpa using this
 . have:=gI (ty:=ty) h c b a;simpa using this
 . cases a
end
def B4w (sz:Nat) (lo a:Int):C->C
 | .val (.sl t) l=>bif Nat.beq sz t.size then .val (.sl t) ((l.take a.toNat).drop lo.toNat)else .dead
 | _=> .dead
def AE (k:Nat) (a:C):C->C
 | .win j sz d b=>bif Nat.beq j k then B4w sz d b a else .win j sz d b
 | .row j=>bif Nat.beq j k then a else .row j
 | .mp j=>bif Nat.beq j k then a else .mp j
 |c=>c
def iC (k:Nat) (a:C) (s:SV):SV:=⟨s.agg,s.cs.map (AE k a)⟩
def FQ (k:Nat) (a:C):DV->DV
 | .one s=> .one (iC k a s)
 | .tup b=> .tup (b.map (iC k a))
 | .cnd t b s=> .cnd t b (iC k a s)
 | .dead=> .dead
def gZ (k:Nat) (a:C):LC->LC
 | .box T b=> .box T (b.map (AE k a))
 |x=>x
def bG (k:Nat):C->Bool
 | .win j _ _ _=>Nat.beq j k
 | .row j=>Nat.beq j k
 | .mp j=>Nat.beq j k
 | _=>false
def Wu (k:Nat):DV->Bool
 | .one s=>s.cs.any (bG k)
 | .tup a=>a.any fun s=>s.cs.any (bG k)
 | .cnd _ _ s=>s.cs.any (bG k)
 | .dead=>false
def WQ (k:Nat):LC->Bool
 | .box _ a=>a.any (bG k)
 | _=>false
def mapV {a:Type} (p:a->Bool) (f:a->a) (g:Nat):List (Nat×Nat×a)->List (Nat×Nat×a)
 | []=> []
 | (s,x)::l=>(s,bif p x.2 then(g,f x.2)else x)::mapV p f g l
def EC {a:Type} (p:a->Bool) (f:a->a) (g:Nat) (d:Nat×a) (b:p d.2=false) (q:Nat):∀l:List (Nat×Nat×a),find d q (mapV p f g l)=bif p (find d q l).2 then(g,f (find d q l).2)else find d q l
 | []=>by simp[mapV,find,b]
 | (s,x)::l=>by
  simp only[mapV,find,EC p f g d b q l];cases Nat.beq s q<;>rfl
def AG {k:Nat} {a:C} :∀ {cs:List C},cs.any (bG k)=false->cs.map (AE k a)=cs
 | [],_=>rfl
 |c::cs,h=>by
  simp only[yH,rJ]at h;rw[sA,AG h.2];congr 1;cases c with
  |row j=>simp only[bG]at h;simp only[AE,h.1,rF]
  |mp j=>simp only[bG]at h;simp only[AE,h.1,rF]
  |win j _ _ _=>simp only[bG]at h;simp only[AE,h.1,rF]
  | _=>rfl
def OQ {k:Nat} {a:C} {d:DV} (h:Wu k d=false):FQ k a d=d:=by
 cases d with
 |one s=>simp only[FQ,iC,AG h]
 |cnd t b s=>simp only[FQ,iC,AG h]
 |dead=>rfl
 |tup a=>
  simp only[FQ];congr 1;simp only[Wu]at h
  induction a with
  |nil=>rfl
  |cons s a b=>
   simp only[yH,rJ]at h;rw[sA,b h.2];congr 1;simp only[iC,AG h.1]
def dJ {k:Nat} {a:C} {l:LC} (h:WQ k l=false):gZ k a l=l:=by
 cases l with
 |box T a=>simp only[gZ,AG h]
 | _=>rfl
def St.freeze (a:St) (k:Nat) (b:C):St:=⟨mapV (Wu k) (FQ k b) (a.ct+1) a.sl,mapV (WQ k) (gZ k b) (a.ct+1) (put k (a.ct+1, .none) a.lc),a.nx,a.ct+1,a.nm,a.fr.map (mapV (Wu k) (FQ k b) (a.ct+1))⟩
def St.eS_freeze (a:St) (k:Nat) (b:C) (s:Nat):(a.freeze k b).eS s=bif Wu k (a.S s)then(a.ct+1,FQ k b (a.S s))else a.eS s:=EC _ _ _ _ rfl _ _
def St.S_freeze (a:St) (k:Nat) (b:C) (s:Nat):(a.freeze k b).S s=FQ k b (a.S s):=by
 show((a.freeze k b).eS s).2= _;rw[St.eS_freeze];cases h:Wu k (a.S s)with
 |true=>rfl
 |false=>exact(OQ h).symm
def St.eL_freeze (a:St) (k:Nat) (b:C) (q:Nat):(a.freeze k b).eL q=bif WQ k (if q=k then(a.ct+1,LC.none)else a.eL q).2 then(a.ct+1,gZ k b (if q=k then(a.ct+1,LC.none)else a.eL q).2)else(if q=k then(a.ct+1,LC.none)else a.eL q):=by
 show find (0, .none) q (mapV (WQ k) (gZ k b) (a.ct+1) (put k (a.ct+1, .none) a.lc))= _;rw[EC _ _ _ _ rfl,AD];rfl
def St.L_freeze (a:St) (k:Nat) (b:C) (q:Nat):(a.freeze k b).L q=gZ k b (if q=k then .none else a.L q):=by
 show((a.freeze k b).eL q).2= _;rw[St.eL_freeze];have e:(if q=k then(a.ct+1,LC.none)else a.eL q).2=if q=k then LC.none else a.L q:=by split<;>rfl
 rw[e];cases h:WQ k (if q=k then LC.none else a.L q)with
 |true=>rfl
 |false=>rw[rF,e];exact(dJ h).symm
def dI {w:World} {v:Value} {b k:Nat} {a:C} {l:LC} :A9 w v (gZ k a l) b↔A9 w v l b:=by cases l<;>exact yN
section
variable {za:Zn} {w0 w w':World} {Z:Nat->Prop} {B:Nat->Value} {st:St} {E:G2} {n:Nat}
section frz
variable {k:Nat} {c':C} (hc':∀v,v=B k->RC w Z B c' v) (hr':Cr n c')
include hc' in
theorem B7b {c:C} {v:Value} (h:RC w Z B c v):RC w Z B (AE k c' c) v:=by
 cases c with
 |row j=>
  simp only[AE];cases a:Nat.beq j k with
  |true=>have:=qE a;subst this;exact hc' v h
  |false=>exact h
 |mp j=>
  simp only[AE];cases a:Nat.beq j k with
  |true=>have:=qE a;subst this;exact hc' v h
  |false=>exact h
 |win j sz b a=>
  simp only[AE];cases a:Nat.beq j k with
  |true=>
   have:=qE a;subst this;have a:=hc' (B j) rfl;simp only[qT];unfold B4w;split
   . rename_i t l;cases b:Nat.beq sz t.size with
     |false=>trivial
     |true=>
      have:=qE b;subst this;obtain⟨j,n,l,g,s,t,b,d,f,o,r,i⟩:=h;rw[g]at a;rw[i];exact A5d a b d f
   . trivial
  |false=>exact h
 | _=>exact h
include hr' in
theorem B1i {c:C} (h:Cr n c):Cr n (AE k c' c):=by
 cases c with
 |row j=>
  simp only[AE];cases Nat.beq j k with
  |true=>exact hr'
  |false=>exact h
 |mp j=>
  simp only[AE];cases Nat.beq j k with
  |true=>exact hr'
  |false=>exact h
 |win j sz b a=>
  simp only[AE];cases Nat.beq j k with
  |true=>
   simp only[qT];unfold B4w;split
   . cases Nat.beq sz _ <;>trivial
   . trivial
  |false=>exact h
 | _=>exact h
include hc' in
theorem KW:∀ {cs:List C} {vs:List Value},Dw w Z B cs vs->Dw w Z B (cs.map (AE k c')) vs
 | [],_,h=>h
 | _:: _,_,⟨v,c,e,a,b⟩=>⟨v,c,e,B7b hc' a,KW b⟩
include hr' in
theorem EF {cs:List C} (h:∀c∈cs,Cr n c):∀c∈cs.map (AE k c'),Cr n c:=fun c d=>by
 obtain⟨a,b,rfl⟩:=sQ.1 d;exact B1i hr' (h a b)
include hc' in
theorem iD:∀ {s:SV} {v:Value},RS w Z B s v->RS w Z B (iC k c' s) v
 | ⟨true,_⟩,_,⟨a,e,h⟩=>⟨a,e,KW hc' h⟩
 | ⟨false,_⟩,_,h=>KW hc' h
include hc' in
theorem mR:∀ {ss:List SV} {vs:List Value},Rp w Z B ss vs->Rp w Z B (ss.map (iC k c')) vs
 | [],_,h=>h
 | _:: _,_,⟨v,c,e,a,b⟩=>⟨v,c,e,iD hc' a,mR b⟩
include hc' in
theorem A3z:∀ {d:DV} {v:Value},RD w Z B E d v->RD w Z B E (FQ k c' d) v
 | .one _,_,h=>iD hc' h
 | .tup _,_,⟨a,e,h⟩=>⟨a,e,mR hc' h⟩
 | .cnd _ _ _,_,h=>h.imp (fun⟨a,b⟩=>⟨a,iD hc' b⟩) id
 | .dead,_,_=>trivial
include hr' in
theorem mQ:∀ {d:DV},Oo n d->Oo n (FQ k c' d)
 | .one _,h=>EF hr' h
 | .tup a,h=>fun s b=>by
  obtain⟨c,a,rfl⟩:=sQ.1 b;exact EF hr' (h c a)
 | .cnd _ _ _,h=>EF hr' h
 | .dead,_=>trivial
theorem mS (s:Nat) (f:List (Nat×Nat×DV)) (g:Nat):(find (0, .dead) s (mapV (Wu k) (FQ k c') g f)).2=FQ k c' (find (0, .dead) s f).2:=by
 rw[EC _ _ _ _ rfl];cases h:Wu k (find (0,DV.dead) s f).2 with
 |true=>rfl
 |false=>exact(OQ h).symm
include hc' in
theorem A4a {g:Nat} :∀ {es:List G2} {fr:List (List (Nat×Nat×DV))},RF w Z B es fr->RF w Z B es (fr.map (mapV (Wu k) (FQ k c') g))
 | [],[],_=>trivial
 | _:: _,_:: _,⟨a,b⟩=>⟨fun s=>by rw[mS];exact A3z hc' (a s),A4a b⟩
 | [],_:: _,h=>h.elim
 | _:: _,[],h=>h.elim
include hr' in
theorem B1j {g:Nat} {fr:List (List (Nat×Nat×DV))} (h:kR n fr):kR n (fr.map (mapV (Wu k) (FQ k c') g)):=fun f c s=>by
 obtain⟨a,b,rfl⟩:=sQ.1 c;rw[mS];exact mQ hr' (h a b s)
include hr' in
theorem B1k:∀ {d:LC},Lw n d->Lw n (gZ k c' d)
 | .box _ _,h=>EF hr' h
 | .none,_=>trivial
 | .row _ _ _,_=>trivial
 | .map _ _ _ _ _,_=>trivial
 | .rows _ _ _ _ _ _,h=>h
 | .al _,h=>h
 | .sbox _ _ _,h=>h
 | .iter _ _ _ _ _ _,h=>h
 | .mapE _ _ _ _ _ _ _,h=>h
 | .nest _ _ _ _ _ _,h=>h
 | .itM _ _ _ _ _ _ _ _,h=>h
end frz
def Sq {a e sz m:Nat} {v:Value} {xs:List Value} {b c:Nat} (f:w.ownsRow a e sz v m xs) (d:v= .slice (some ⟨b,0,none⟩) m c):J4 w ⟨b,0,none⟩ xs:=fun j u a=>by
 subst d;rcases f.2 with⟨c,_⟩ | ⟨j,h,i,c,_,d,_,_,_,g⟩
 . cases c
 . cases c;rw[K5,sF];simp only[World.cell?,d];rw[<-g,wM]at a;split at a
   . simpa using a
   . cases a
def Cm {t:Ty} {a e:Nat} {v:Value} {l:List t.den} {xs:List Value} (c:w.ownsRow a e t.size v l.length xs) (h:G1 (C5 t w Z) xs l) (k:∀b,v.ownBlock=some b->Z b):C5 (.sl t) w Z [v] l:=by
 rcases c.2 with⟨a,i⟩ | ⟨g,d,n,a,_,o,f,j,_⟩
 . have:l= []:=qR i;subst this;subst a;exact⟨none,0,rfl,qZ _,rK _,fun _=>rfl, .inl rfl⟩
 . exact⟨some ⟨g,0,none⟩,d,by rw[a],f,j,fun i=>(by cases i), .inr ⟨g,0,xs,rfl,k g (by rw[a];rfl),Sq c a,h⟩⟩
def AH {t:Ty} {k e e':Nat} {ls:List (List t.den)} {al:List (Nat×Nat)} {d:Option Nat} {xs:List Value} (c:w.ownsRow 0 e 1 (B k) ls.length xs) {i b:Nat} {x:Value} (n:Ko d i=false) (a:xs[i]? =some x) (j:root x=some b):A9 w (B k) (.rows t e e' ls al d) b:=by
 refine .inr ?_;rcases c.2 with⟨d,o⟩ | ⟨h,f,g,d,_,l,s,_,u,r⟩
 . have:=c.1;rw[o]at this;have o:xs= []:=qR (by omega);rw[o]at a;cases a
 . have o:i<ls.length:=by have:=(rU.1 a).1;have s:=c.1;omega
   refine⟨h,_,f,g,e,i,x,d,l,o,n, ?_,j⟩;rw[<-r,rT (by omega)]at a;simpa using a
def WE {b:Type} {R:List Value->b->Prop} :∀ {l:List b} {cs:List Value},cs.length=l.length->(∀(i:Nat) (a:b) (x:Value),l[i]? =some a->cs[i]? =some x->R [x] a)->G1 R cs l
 | [],cs,h,_=>qR h
 |a::l,[],h,_=>by simp at h
 |a::l,x::cs,h,b=>⟨[x],cs,rfl,b 0 a x rfl rfl,WE (by simpa using h) fun i a x c d=>b (i+1) a x (by simpa using c) (by simpa using d)⟩
def YX {t:Ty} {e e' i b n:Nat} {v x:Value} {ls:List (List t.den)} {al:List (Nat×Nat)} {xs:List Value} (c:w.ownsRow 0 e 1 v n xs) (a:xs[i]? =some x) (j:root x=some b):A9 w v (.rows t e e' ls al none) b:=by
 refine .inr ?_;rcases c.2 with⟨d,l⟩ | ⟨h,f,g,d,_,k,r,_,s,o⟩
 . have:=c.1;rw[l]at this;have l:xs= []:=qR (by omega);rw[l]at a;cases a
 . have l:i<n:=by have:=(rU.1 a).1;have r:=c.1;omega
   refine⟨h,_,f,g,e,i,x,d,k,l,rfl, ?_,j⟩;rw[<-o,rT (by omega)]at a;simpa using a
def eY {Z':Nat->Prop} {t:Ty} {e e':Nat} {v:Value} {ls:List (List t.den)} {al:List (Nat×Nat)} (h:Ky w Z t e e' v ls) (l:∀b,Z b->Z' b) (f:∀b,A9 w v (.rows t e e' ls al none) b->Z' b):C5 (.sl (.sl t)) w Z' [v] ls:=by
 obtain⟨g,a,j,c,d⟩:=h;refine Cm (t:= .sl t) a (WE (by have:=a.1;omega) fun n o x k g=> ?_) (fun b c=>f b (.inl ((F5 a).trans c)));obtain⟨r,d,i⟩:=j n o x k g;exact Cm d (i.mono fun _ _=>C5.mono l (fun _ _=>rfl)) (fun b c=>f b (YX a g ((F5 d).trans c)))
def oJ {U Z':Nat->Prop} {t:Ty} {k e e':Nat} {ls:List (List t.den)} {al:List (Nat×Nat)} (h:RL U w Z B k (.rows t e e' ls al none)) (c:∀b,Z b->Z' b) (a:∀b,A9 w (B k) (.rows t e e' ls al none) b->Z' b):C5 (.sl (.sl t)) w Z' [B k] ls:=eY h.rowsR c a
def Ky.wf {t:Ty} {e e':Nat} {v:Value} {ls:List (List t.den)} (h:Ky w Z t e e' v ls):(Ty.sl (Ty.sl t)).wf ls:=C5.wf (eY (al:= []) h (Z':=fun _=>True) (fun _ _=>trivial) (fun _ _=>trivial))
def B7.freeze (h:B7 za w0 st E w Z B) {k:Nat} {f:C} (a:st.nm<=k) (l:RC w (fun b=>Z b\/A9 w (B k) (st.L k) b) B f (B k)) (i:∀n,Cr n f):B7 za w0 (st.freeze k f) E w (fun b=>Z b\/A9 w (B k) (st.L k) b) B:=by
 have c:B7 za w0 (st.setL k .none) E w (fun b=>Z b\/A9 w (B k) (st.L k) b) B:=by
  refine(h.drop k).keep h.ext (qZ _) (fun _ _=>rfl) (fun _=> .inl) (fun b d=> ?_);rcases d with d|d
  . exact .inl d
  . obtain⟨g,j,_⟩:=(h.locs k).root d;refine .inr ⟨j, ?_,fun q a=> ?_⟩
    . rcases g with g|g
      . exact g.2
      . have:=h.nms.1;omega
    . rw[St.L_setL]at a;by_cases g:q=k
      . rw[qQ g]at a;exact a.elim
      . rw[qK g]at a;exact h.disj q k b g a d
 have d:∀v,v=B k->RC w (fun b=>Z b\/A9 w (B k) (st.L k) b) B f v:=fun v hv=>by subst hv;exact l
 refine⟨c.ext,c.zlt,fun s=> ?_,fun q=> ?_,fun q x b u g j=> ?_,fun s=> ?_,fun q=> ?_,fun q a=> ?_,c.bone,c.zin,c.nms,c.bfix,⟨c.mrk.1,fun q b l f=>c.mrk.2 q b l (by rw[St.L_freeze,dI, <-St.L_setL]at f;exact f)⟩,A4a d c.frs,B1j (i _) c.frf⟩
 . rw[St.S_freeze];exact A3z d (c.slots s)
 . rw[St.L_freeze, <-St.L_setL];have:=c.locs q;cases a:(st.setL k .none).L q with
   |box T f=>
    rw[a]at this;obtain⟨b,y,f,l,o,r,t⟩:=this;exact⟨b,y,f,l,o,r,KW d t⟩
   |none=>trivial
   |row _ _ _=>rw[a]at this;exact this
   |map _ _ _ _ _=>rw[a]at this;exact this
   |rows _ _ _ _ _ _=>rw[a]at this;exact this
   |al _=>trivial
   |sbox _ _ _=>rw[a]at this;exact this
   |iter _ _ _ _ _ _=>rw[a]at this;exact this
   |mapE _ _ _ _ _ _ _=>rw[a]at this;exact this
   |nest _ _ _ _ _ _=>rw[a]at this;exact this
   |itM _ _ _ _ _ _ _ _=>rw[a]at this;exact this
 . rw[St.L_freeze,dI, <-St.L_setL]at g j;exact c.disj q x b u g j
 . rw[St.S_freeze];exact mQ (i _) (c.refs s)
 . rw[St.L_freeze, <-St.L_setL];exact B1k (i _) (c.refl q)
 . rw[St.L_freeze, <-St.L_setL,c.fresh q a];rfl
def iY {f g:Bool} {c d:Ty} {b:Nat} {a:Array MapEntry} {cl:Nat} {es:List (c.den×d.den)} (h:w.heap[b]? =some (.map a cl)) (j:MOk a cl) (i:Rr w Z f c g d a.toList es) (k:Z b):C5 (.mp f c g d) w Z [.map (some b)] es:= .inr ⟨b,a,cl,rfl,k,h,j,i⟩
def settle:St->List C->St
 |st,[]=>st
 |st, .row k::a=>match st.L k with
  | .row t _ l=>settle (bif Nat.ble st.nm k then st.freeze k (.val (.sl t) l)else st) a
  | .rows t _ _ b _ none=>settle (bif Nat.ble st.nm k then st.freeze k (.val (.sl (.sl t)) b)else st) a
  | _=>settle st a
 |st, .win k _ _ _::a=>match st.L k with
  | .row t _ l=>settle (bif Nat.ble st.nm k then st.freeze k (.val (.sl t) l)else st) a
  | _=>settle st a
 |st, .mp k::a=>match st.L k with
  | .map c d f g b=>settle (bif Nat.ble st.nm k then st.freeze k (.val (.mp c d f g) b)else st) a
  | _=>settle st a
 |st,_::a=>settle st a
def B7.settle (h:B7 za w0 st E w Z B):∀cs:List C,∃Z',B7 za w0 (settle st cs) E w Z' B:=by
 intro cs
 induction cs generalizing st Z with
 |nil=>exact⟨Z,h⟩
 |cons c cs a=>
  cases c with
  |row k=>
   simp only[Vc.settle];cases b:st.L k with
   |row t e l=>
    cases g:Nat.ble st.nm k with
    |false=>exact a h
    |true=>
     have c:=h.locs k;rw[b]at c;obtain⟨j,d,f,i⟩:=c;have i:=F5 d;exact a (h.freeze (qS g) (Cm d (f.mono fun _ _=>C5.mono (fun _=> .inl) (fun _ _=>rfl)) (fun d c=> .inr (by rw[b];exact i.trans c))) (fun _=>trivial))
   |rows t e d f al c=>
    cases c with
    |some _=>exact a h
    |none=>
     cases d:Nat.ble st.nm k with
     |false=>exact a h
     |true=>
      have c:=h.locs k;rw[b]at c;exact a (h.freeze (qS d) (oJ c (fun _=> .inl) fun d c=> .inr (by rw[b];exact c)) (fun _=>trivial))
   | _=>exact a h
  |win k _ _ _=>
   simp only[Vc.settle];cases c:st.L k with
   |row t e l=>
    cases g:Nat.ble st.nm k with
    |false=>exact a h
    |true=>
     have b:=h.locs k;rw[c]at b;obtain⟨j,d,f,i⟩:=b;have i:=F5 d;exact a (h.freeze (qS g) (Cm d (f.mono fun _ _=>C5.mono (fun _=> .inl) (fun _ _=>rfl)) (fun d b=> .inr (by rw[c];exact i.trans b))) (fun _=>trivial))
   | _=>exact a h
  |mp k=>
   simp only[Vc.settle];cases c:st.L k with
   |map d f g i b=>
    cases i:Nat.ble st.nm k with
    |false=>exact a h
    |true=>
     have b:=h.locs k;rw[c]at b;obtain⟨j,l,k,e,_,_,d,g,f⟩:=b;exact a (h.freeze (qS i) (by rw[e];exact iY d g (f.mono (fun _=> .inl) (fun _ _=>rfl)) (.inr (by rw[c];rfl))) (fun _=>trivial))
   | _=>exact a h
  | _=>exact a h
def stillB (cx:Cx) (st:St) (k:Nat):St:=match st.L k with
 | .box T a=>bif Nat.ble st.nm k then(match cx.ti T with
  |some ti=>match(settle st a).L k with
   | .box _ b=>(match Mz ti.ty b with
    |some (x,[])=>((settle st a).setL k .none).setL k (.sbox k ti.ty x)
    | _=>st)
   | _=>st
  |none=>st)else st
 | _=>st
def B7.stillB (h:B7 za w0 st E w Z B) (cx:Cx) (k:Nat):∃Z',B7 za w0 (stillB cx st k) E w Z' B:=by
 unfold Vc.stillB;split
 . rename_i T b a;cases r:Nat.ble st.nm k with
   |false=>exact⟨Z,h⟩
   |true=>
    simp only[qT];split
    . rename_i ti a;obtain⟨Z1,a⟩:=h.settle b;split
      . rename_i T' c d;split
        . rename_i x s;have i:k<(Vc.settle st b).nx:=by
           by_cases c:k<(Vc.settle st b).nx
           . exact c
           . rw[a.fresh k (by omega)]at d;cases d
          have c:=a.locs k;rw[d]at c;obtain⟨f,u,e,g,n,j,l⟩:=c;have o:∀c,A9 w (B k) ((Vc.settle st b).L k) c↔c=f:=fun c=>by
           rw[d,e];simp only[A9,root,rD];exact eq_comm
          have n:B7 za w0 ((Vc.settle st b).setL k .none) E w (fun c=>Z1 c\/A9 w (B k) ((Vc.settle st b).L k) c) B:=by
           refine(a.drop k).keep a.ext (qZ _) (fun _ _=>rfl) (fun _=> .inl) (fun c b=> ?_);rcases b with b|b
           . exact .inl b
           . obtain⟨g,t,_⟩:=(a.locs k).root b;refine .inr ⟨t, ?_,fun q d=> ?_⟩
             . rcases g with g|g
               . exact g.2
               . have g:=a.nms.1;have g:=h.nms.1;have:=qS r;omega
             . rw[St.L_setL]at d;by_cases g:q=k
               . rw[qQ g]at d;exact d.elim
               . rw[qK g]at d;exact a.disj q k c g d b
          have a:=n.addL (k:=k) (lc:= .sbox k ti.ty x) i ⟨rfl,⟨f,0,u.toList,by rw[e], .inr ((o f).2 rfl),j.cellsAt,(Hg l s).mono (fun _=> .inl) (fun _ _=>rfl)⟩,f,e⟩ (fun _ _ _ hh=>hh.elim) i (fun _ _ hh=>hh.elim);exact⟨_,a⟩
        . exact⟨Z,h⟩
      . exact⟨Z,h⟩
    . exact⟨Z,h⟩
 . exact⟨Z,h⟩
def settleO (st:St) (x:Operand):St:=match st.ev [] x with
 |some s=>settle st s.cs
 |none=>st
def B7.settleO (h:B7 za w0 st E w Z B) (x:Operand):∃Z',B7 za w0 (settleO st x) E w Z' B:=by
 unfold Vc.settleO;split
 . exact h.settle _
 . exact⟨Z,h⟩
end
section
variable {P:Program} {all:List Oper} {E:G2} {w w':World} {next:G2->World->Prop} {d:Nat} {op:Op} {ty:TypeId} {pos:String} {aft:Array Edge} {g:Option (Nat×Bool)} {v:Value}
def V3 (b:Gw.E7 P E ty op w v w') (a:E5 all ⟨some d,op,ty,pos,aft,g⟩ E=true) (h:next (upd E d v) w'):I5 P all ⟨some d,op,ty,pos,aft,g⟩ next E w:=by
 unfold I5;rw[qQ a,b];exact h
def A5m (b:Gw.E7 P E ty op w v w') (a:E5 all ⟨none,op,ty,pos,aft,g⟩ E=true) (h:next E w'):I5 P all ⟨none,op,ty,pos,aft,g⟩ next E w:=by
 unfold I5;rw[qQ a,b];exact h
def BM (b:Gw.QO P E ty op w w') (a:E5 all ⟨none,op,ty,pos,aft,g⟩ E=true) (h:next E w'):I5 P all ⟨none,op,ty,pos,aft,g⟩ next E w:=by
 unfold I5;rw[qQ a,b];exact h
def BL {f:FuncId} {args:List Value} {Φ:Value->World->Prop} (a:Gw.A9g P E ty op w f args) (b:Gw.cK P f args w Φ) (c:E5 all ⟨some d,op,ty,pos,aft,g⟩ E=true)
 (h:∀v w',Φ v w'->next (upd E d v) w'):I5 P all ⟨some d,op,ty,pos,aft,g⟩ next E w:=by
 unfold I5;rw[qQ c,a];exact Calls.mono b fun _ _ ⟨v,a,hv⟩=>⟨v,a,h _ _ hv⟩
def Tx (a:E5 all ⟨some d,op,ty,pos,aft,g⟩ E=false) (h:next (upd E d undef) w):I5 P all ⟨some d,op,ty,pos,aft,g⟩ next E w:=by
 unfold I5;rw[qK (by rw[a];simp)];exact h
end
def wrB:Op->Bool
 | .store _ _ _=>true
 | .mapUpdate _ _ _ _=>true
 | .insert _ _ _ _=>true
 | .next _ _=>true
 | .mapEntry _ _ _=>true
 | .entryStore _ _ _ _=>true
 | .call ⟨.builtin .append,_,_⟩=>true
 | .call ⟨.builtin .copy,_,_⟩=>true
 | .call ⟨.builtin .delete,_,_⟩=>true
 | .call ⟨.builtin .clear,_,_⟩=>true
 | _=>false
def Nx (c:Zn) (b:World) (k:St->Prop) (E:G2) (w:World):Prop:=∃a Z B,B7 c b a E w Z B/\k a
def kQ (b:Zn) (a w:World) (wr:Bool) (k:St->Prop) (E:G2) (w':World):Prop:=(wr=false->R8 w w')/\Nx b a k E w'
def Sr (t:Ty):Nat->List (Nat×List C)->Option (List t.den)
 | _,[]=>some []
 |i,(j,a)::r=>bif Nat.beq i j then(match Mz t a with
  |some (x,[])=>(Sr t (i+1) r).map (x:: ·)
  | _=>none)else none
def settleP:St->List (Nat×Operand)->St
 |a,[]=>a
 |a,(_,x)::r=>settleP (settleO a x) r
def iJ (a:St) (x:Operand):Option Int:=(a.ev [] x).bind iI
def EJ:Value->Bool
 | .slice none 0 0=>true
 | _=>false
def Vi {v:Value} (h:EJ v=true):v= .slice none 0 0:=by
 unfold EJ at h;split at h
 . rfl
 . cases h
def WF (a:St) (t:Ty):C->Option (List t.den)
 | .val (.sl b) l=>if h:b=t then some (h▸l)else none
 | .row k=>match a.L k with
  | .row b _ l=>if h:b=t then some (h▸l)else none
  | _=>none
 | .win k sz c b=>match a.L k with
  | .row a _ l=>if h:a=t then(bif Nat.beq sz a.size then some (h▸((l.take b.toNat).drop c.toNat))else none)else none
  | _=>none
 | .raw v=>bif EJ v then some []else none
 | _=>none
def PV (a:St) (t:Ty) (e:TypeId):C->Option (List t.den)
 | .row k=>match a.L k with
  | .row c b l=>if h:c=t then(bif Nat.beq b e&&Nat.ble a.nm k then some (h▸l)else none)else none
  | _=>none
 | .raw v=>bif EJ v then some []else none
 | _=>none
def boxS (a:St) (d:Tmp) (T:TypeId) (cs:List C):St:=(a.newL (.box T cs)).setS d (one1 (.box a.nx 0))
def rowS (a:St) (d:Tmp) (t:Ty) (e:TypeId) (l:List t.den):St:=(a.newL (.row t e l)).setS d (one1 (.row a.nx))
def C2i (a:St) (d:Tmp) (b:Bool) (c:Ty) (f:Bool) (g:Ty):St:=(a.newL (.map b c f g [])).setS d (one1 (.mp a.nx))
def C0g (a:St) (d:Tmp) (t:Ty) (e e':TypeId) (ls:List (List t.den)):St:=(a.newL (.rows t e e' ls [] none)).setS d (one1 (.row a.nx))
def XE (cx:Cx) (a:St) (d:Tmp) (ti:TI) (n:Nat):Option St:=match ti.ty with
 | .sl (.sl t)=>(cx.ti ti.elem).map fun b=>C0g a d t ti.elem b.elem (List.replicate n [])
 | _=>none
def B4v (c:Bool) (a:Ty) (d:Bool) (b:Ty):C->Option (List (a.den×b.den))
 | .val t f=>if h:t=Ty.mp c a d b then some (h▸f:(Ty.mp c a d b).den)else none
 | .raw (.map none)=>some []
 | _=>none
def A9q (a:St) (d:Tmp) (k:Nat) (t:Ty) (e e':TypeId) (ls:List (List t.den)) (al:List (Nat×Nat)) (i:Nat):St:=((a.newL (.al k)).setL k (.rows t e e' ls ((i,a.nx)::al) none)).setS d (one1 (.row a.nx))
def dropR (a:St):C->St
 | .row k=>a.setL k .none
 | _=>a
def jB (c:C):C->Bool
 | .win k _ _ _=>match c with
  | .row j=> !(Nat.beq j k)
  | _=>true
 | .row k=>match c with
  | .row j=> !(Nat.beq j k)
  | _=>true
 | _=>true
def slT:Ty->Option Ty
 | .sl t=>some t
 | _=>none
def C0t (cx:Cx) (a:St) (d:Tmp) (T:TypeId) (x y:Operand):Option (Option Prop×St):=do
 let ti<-cx.ti T
 let t<-slT ti.ty
 let b<-(a.ev [] x).bind c1
 let f<-(a.ev [] y).bind c1
 let l<-PV a t ti.elem b
 let c<-WF a t f
 bif jB b f&&Nat.ble 1 t.size then some (some ((l.length+c.length)*ti.bytes<=140737488355328/\l.length+c.length<=9223372036854775807),rowS (dropR a b) d t ti.elem (l++c))else none
def Ml {b:Type} (l a:List b):List b:=a.take l.length++l.drop a.length
def lZ (cx:Cx) (a:St) (d:Tmp) (T:TypeId) (x y:Operand):Option St:=do
 let ti<-cx.ti T
 let t<-slT ti.ty
 let c<-(a.ev [] x).bind c1
 let b<-(a.ev [] y).bind c1
 let f<-WF a t b
 match c with
 | .row k=>match a.L k with
  | .row c e l=>if h:c=t then(bif jB (.row k) b then some ((a.setL k (.row c e (Ml l (h▸f)))).setS d (one1 (.val (.int .i64) (min (f.length:Int) (l.length:Int)))))else none)else none
  | _=>none
 | _=>none
def dX (cx:Cx) (a:St) (d:Tmp) (T:TypeId) (x:Operand):Option St:=do
 let ti<-cx.ti T
 let c<-(a.ev [] x).bind c1
 match c with
 | .elp k sz i f=>match a.L k with
  | .rows t e b c al none=>bif Nat.beq sz 1&&Nat.beq f 0&& !ti.agg then some (A9q a d k t e b c al i)else none
  | _=>none
 | _=>none
def B6r (a:St):C->St
 | .row q=>match a.L q with
  | .al k=>match a.L k with
   | .rows t e b c al none=>match QY q al with
    |some i=>bif Nat.ble a.nm k&&Nat.ble a.nm q then(a.setL k (.rows t e b c [] (some i))).setL q (.row t b (c.getD i []))else a
    |none=>a
   | _=>a
  | _=>a
 | _=>a
def detO (a:St) (x:Operand):St:=match(a.ev [] x).bind c1 with
 |some c=>B6r a c
 |none=>a
def B1b (cx:Cx) (a:St) (d:Tmp):Op->Option (Option Prop×St)
 | .box T x=>do
  let s<-a.ev [] x
  bif s.cs.all Fu then some (none,boxS a d T s.cs)else none
 | .alloc T=>do
  let ti<-cx.ti T
  some (none,boxS a d T (Kw ti.ty))
 | .buildSlice T len b=>do
  let ti<-cx.ti T
  let t<-slT ti.ty
  let c:=settleP a b.toList
  let f<-Lp c [] b.toList
  let b<-Sr t 0 f
  bif Nat.beq b.length len&&Nat.ble (len*t.size) 16777216&&Nat.ble 1 t.size then some (none,rowS c d t ti.elem b)else none
 | .makeSlice T c b=>do
  let ti<-cx.ti T
  let t<-slT ti.ty
  let l<-iJ a c
  let c<-iJ a b
  bif ti.rows then(XE cx a d ti l.toNat).map fun b=>(some (0<=l/\l<=c/\(ti.bytes:Int)*c<=281474976710656/\c<=9223372036854775807),b)
  else bif Sj t then some (some (0<=l/\l<=c/\(ti.bytes:Int)*c<=281474976710656/\c<=9223372036854775807),rowS a d t ti.elem (List.replicate l.toNat t.dflt))else none
 | .call ⟨.builtin .append,b,c⟩=>match b.toList,c.toList with
  | [x,y],[T,T']=>bif Nat.beq T T' then C0t cx (detO a x) d T x y else none
  | _,_=>none
 | .makeMap T r=>do
  let ti<-cx.ti T
  match ti.ty,r with
  | .mp b c f g,none=>some (none,C2i a d b c f g)
  | .mp b c f g,some o=>(iJ a o).map fun _=>(none,C2i a d b c f g)
  | _,_=>none
 | .call ⟨.builtin .len,b,c⟩=>match b.toList,c.toList with
  | [x],[T]=>do
   let ti<-cx.ti T
   match ti.ty with
   | .mp f g h i=>do
    let c<-(a.ev [] x).bind c1
    let b<-B7q a f g h i c
    some (some (b.length<=9223372036854775807),a.setS d (one1 (.val (.int .i64) (b.length:Int))))
   | _=>none
  | _,_=>none
 | .load T x=>(dX cx a d T x).map fun b=>(none,b)
 | .range T x=>do
  let ti<-cx.ti T
  match ti.ty with
  | .mp b c f g=>do
   let h<-((settleO a x).ev [] x).bind c1
   let i<-B4v b c f g h
   some (none,((settleO a x).newL (.iter b c f g i none)).setS d (one1 (.box (settleO a x).nx 0)))
  | _=>none
 | .entry x=>do
  let c<-(a.ev [] x).bind c1
  match c with
  | .box k f=>match a.L k with
   | .iter b c g h _ (some y)=>bif Nat.beq f 0 then some (none,a.setS d (.tup [⟨b,explode c y.1⟩,⟨g,explode h y.2⟩]))else none
   | _=>none
  | _=>none
 | .call ⟨.builtin .copy,b,c⟩=>match b.toList,c.toList with
  | [x,y],[T,_]=>(lZ cx a d T x y).map fun b=>(none,b)
  | _,_=>none
 | _=>none
section
variable {za:Zn} {w0 w w':World} {Z Z':Nat->Prop} {B:Nat->Value} {st st':St} {E:G2} {cx:Cx} {φ:Option Prop} {d:Tmp}
def R7.len {a b:Type} {Rk:Value->a->Prop} {Rv:Value->b->Prop} :∀ {l:List (a×b)} {es:List MapEntry},R7 Rk Rv es l->es.length=l.length
 | [],_,h=>by rw[show _= _ from h];rfl
 | _:: _,_,⟨e,c,b,_,_,a⟩=>by rw[b,rE,rE,R7.len a]
def Ft (h:B7 za w0 st E w Z B) {k:Nat} (a:live (st.L k)):k<st.nx:=by
 by_cases b:k<st.nx
 . exact b
 . rw[h.fresh k (by omega)]at a;exact a.elim
def AY {a b e sz n:Nat} {v:Value} {xs:List Value} (h:w.ownsRow a e sz v n xs) (i:b<=a):w.ownsRow b e sz v n xs:=by
 refine⟨h.1, ?_⟩;rcases h.2 with h| ⟨g,a,b,c,d,f⟩
 . exact .inl h
 . exact .inr ⟨g,a,b,c,qX i d,f⟩
def A2d {c a e sz n:Nat} {v:Value} {xs:List Value} (h:w.ownsRow c e sz v n xs) (i:∀b,v.ownBlock=some b->a<=b):w.ownsRow a e sz v n xs:=by
 refine⟨h.1, ?_⟩;rcases h.2 with h| ⟨g,c,d,a,j,f⟩
 . exact .inl h
 . exact .inr ⟨g,c,d,a,i g (by rw[a];rfl),f⟩
def B7.newBox (h:B7 za w0 st E w Z B) (d:Tmp) {T:TypeId} {cs:List C} {vs:Array Value} (o:Dw w Z B cs vs.toList) (i:∀c∈cs,Cr st.nx c):
 ∃B',B7 za w0 (boxS st d T cs) (upd E d (.pointer (some ⟨w.heap.size,0,none⟩))) (w.alloc (.cells vs T)) Z B':=by
 have f:R8 w (w.alloc (.cells vs T)):=R8.alloc w _;have j:=h.more (Z':=Z) f (fun _=>id) (fun _=> .inl);have g:∀b,Z b->b<w.heap.size:=h.zlt;have r:O5 Z w (w.alloc (.cells vs T)):=fun b a=>f.block b (g b a)
 have l:=j.new (v:= .pointer (some ⟨w.heap.size,0,none⟩)) (lc:= .box T cs) ⟨w.heap.size,vs,C3 _ _ _, .inl ⟨h.nms.2,h.ext.size⟩,fun hz=>absurd (g _ hz) (xC _),Ma w vs T,
  Dw.mono (n:=st.nx) (fun _=>id) r (fun k g=>C4 _ _ _ _ (tT g)) i o⟩
  (fun k b a g=>by
   simp only[A9,root,rD]at a;have:=((h.locs k).root (h.ft f g)).2.1;omega)
  (fun c f=>(i c f).le (uY _)) rfl (fun b _ a=>by simp only[A9,root,rD]at a;have:=h.mrk.1;omega)
 refine⟨_,l.setS d (x:=one1 (.box st.nx 0)) ⟨_,[],rfl,⟨w.heap.size,C3 _ _ _,rfl⟩,rfl⟩ (fun c f=> ?_)⟩;simp at f;subst f;exact rW _
def B7.newRowE (h:B7 za w0 st E w' Z B) (d:Tmp) {t:Ty} {e:TypeId} {l:List t.den} {v:Value} {xs:List Value} (c:w'.ownsRow w0.heap.size e t.size v l.length xs) (j:G1 (C5 t w' Z) xs l) (f:∀b,v.ownBlock=some b->¬Z b/\∀k,¬A9 w' (B k) (st.L k) b) (n:∀b,za.k0<=st.nx->v.ownBlock=some b->za.b0<=b):
 B7 za w0 (rowS st d t e l) (upd E d v) w' Z (upd B st.nx v):=by
 have g:=F5 c;have o:v.oneCell'=true:=by rcases c.2 with⟨hv,_⟩ | ⟨_,_,_,hv,_⟩<;>rw[hv]<;>rfl
 have i:=h.new (v:=v) (lc:= .row t e l) ⟨xs,by rw[C3];exact AY c (rK _),j,fun b a=>by rw[C3]at a;exact⟨.inl ⟨h.nms.2,(World.ownsRow.lt c b a).1⟩,(f b a).1⟩⟩
  (fun k b a c=>(f b (g.symm.trans a)).2 k c) trivial o (fun b j a=>n b j (g.symm.trans a))
 refine i.setS d (x:=one1 (.row st.nx)) ⟨_,[],rfl,(C3 _ _ _).symm,rfl⟩ (fun c a=> ?_);simp at a;subst a;exact rW _
def B7.newRow (h:B7 za w0 st E w' Z B) (d:Tmp) {t:Ty} {e:TypeId} {l:List t.den} {v:Value} {xs:List Value} (g:w'.ownsRow w0.heap.size e t.size v l.length xs) (a:G1 (C5 t w' Z) xs l) (f:∀b,v.ownBlock=some b->¬Z b/\∀k,¬A9 w' (B k) (st.L k) b) (c:∀b,za.k0<=st.nx->v.ownBlock=some b->za.b0<=b):
 ∃B',B7 za w0 (rowS st d t e l) (upd E d v) w' Z B':=⟨_,h.newRowE d g a f c⟩
def AZ {b d e e' sz n:Nat} {v:Value} {xs a:List Value} (h:w.ownsRow b e sz v n xs) (c:w.ownsRow d e' sz v n a):xs=a:=by
 rcases h.2 with⟨b,g⟩ | ⟨j,a,d,b,_,f,_,_,_,i⟩
 . have a:=h.1;have d:=c.1;rw[g,yD]at a d;rw[qR a,qR d]
 . rcases c.2 with⟨a,_⟩ | ⟨l,j,k,a,_,d,_,_,_,g⟩
   . rw[b]at a;cases a
   . rw[b]at a;cases a;rw[f]at d;cases d;rw[<-i, <-g]
def B7.newRows (h:B7 za w0 st E w' Z B) (d:Tmp) (t:Ty) {e:TypeId} (e':TypeId) {n:Nat} {v:Value} {xs:List Value} (f:w'.ownsRow w0.heap.size e 1 v n xs) (a:∀x∈xs,x= .slice none 0 0) (w:∀b,v.ownBlock=some b->¬Z b/\∀k,¬A9 w' (B k) (st.L k) b) (A:∀b,za.k0<=st.nx->v.ownBlock=some b->za.b0<=b):
 ∃B',B7 za w0 (C0g st d t e e' (List.replicate n [])) (upd E d v) w' Z B':=by
 have o:=F5 f;have F:v.oneCell'=true:=by rcases f.2 with⟨g,_⟩ | ⟨_,_,_,g,_⟩<;>rw[g]<;>rfl
 have r:∀(i:Nat) (x:Value),xs[i]? =some x->x= .slice none 0 0:=fun i x c=>a x (sO c)
 have s:∀b,A9 w' v (.rows t e e' (List.replicate n []) [] none) b->v.ownBlock=some b:=fun b a=>by
  rcases a with a| ⟨H,m,u,D,G,i,x,g,z,I,_,c,a⟩
  . exact o.symm.trans a
  . exfalso;rcases f.2 with⟨o,_⟩ | ⟨I,G,H,o,_,u,J,_,M,D⟩
    . rw[g]at o;cases o
    . rw[g]at o;cases o;rw[z]at u;cases u;have:xs[i]? =some x:=by rw[<-D,rT (by omega)];simpa using c
      rw[r i x this]at a;simp[root]at a
 have o:=h.new (v:=v) (lc:= .rows t e e' (List.replicate n []) [] none) ⟨xs,by rw[C3,rI];exact AY f (rK _),⟨fun p g=>(by cases g),fun i l x _ hl c=>⟨[], ?_, ?_⟩,fun i j x y b _ _ _ c _ a=> ?_⟩,fun i x b _ c a=> ?_,fun b a=> ?_⟩
  (fun k b a u=>(w b (s b a)).2 k u) (fun p g=>by cases g) F (fun b hk a=>A b hk (s b a))
 . refine⟨_,o.setS d (x:=one1 (.row st.nx)) ⟨_,[],rfl,(C3 _ _ _).symm,rfl⟩ (fun o g=> ?_)⟩;simp at g;subst g;exact rW _
 . have:=(zM.1 (sO hl)).2;subst this;exact⟨by simp, .inl ⟨r i x c,rfl⟩⟩
 . have:=(zM.1 (sO hl)).2;subst this;rfl
 . rw[r i x c]at a;simp[root]at a
 . rw[r i x c]at a;simp[root]at a
 . rw[C3]at a;have a:=s b a;have:=World.ownsRow.lt f b a;exact⟨.inl ⟨h.nms.2,this.1⟩,(w b a).1,this.2⟩
def B7.alias (h:B7 za w0 st E w Z B) (d:Tmp) {k:Nat} {t:Ty} {e e':TypeId} {ls:List (List t.den)} {al:List (Nat×Nat)} {i:Nat} {v:Value} {xs:List Value} (f:st.L k= .rows t e e' ls al none) (y:w.ownsRow 0 e 1 (B k) ls.length xs) (z:xs[i]? =some v) (c:v.oneCell'=true):
 ∃B',B7 za w0 (A9q st d k t e e' ls al i) (upd E d v) w Z B':=by
 have l:k<st.nx:=Ft h (by rw[f];trivial);have a:=h.new (v:=v) (lc:= .al k) trivial (fun _ _ b=>b.elim) trivial c (fun _ _ b=>b.elim);have c:(st.newL (.al k)).L k= .rows t e e' ls al none:=by rw[St.L_newL,qK (tT l),f]
 have g:=a.locs k;have j:=a.refl k;rw[c]at g j;have u:(upd B st.nx v) k=B k:=C4 _ _ _ _ (tT l);obtain⟨A,f,⟨l,n,o⟩,r,s⟩:=g;have g:xs=A:=AZ y (by rw[<-u];exact f);subst g;have g:=a.relc (k:=k) (lc:= .rows t e e' ls ((i,st.nx)::al) none) (by rw[c];trivial) ⟨xs,f,⟨fun p a=> ?_,n,o⟩,r,s⟩ (fun p a=> ?_) (fun f b=> .inr (by rw[c];exact b))
 . refine⟨_,g.setS d (x:=one1 (.row st.nx)) ⟨_,[],rfl,(C3 _ _ _).symm,rfl⟩ (fun c b=> ?_)⟩;simp at b;subst b;exact rW _
 . rcases qG.1 a with rfl|a
   . simp only[C3];exact z
   . exact l p a
 . rcases qG.1 a with rfl|a
   . exact rW _
   . exact j p a
def B7.newMap (h:B7 za w0 st E w Z B) (d:Tmp) (a:Bool) (f:Ty) (g:Bool) (i:Ty):
 ∃B',B7 za w0 (C2i st d a f g i) (upd E d (.map (some w.heap.size))) (w.alloc (.map #[] 0)) Z B':=by
 have c:R8 w (w.alloc (.map #[] 0)):=R8.alloc w _;have j:=h.more (Z':=Z) c (fun _=>id) (fun _=> .inl);have l:∀b,Z b->b<w.heap.size:=h.zlt;have k:=j.new (v:= .map (some w.heap.size)) (lc:= .map a f g i []) ⟨w.heap.size, #[],0,C3 _ _ _, .inl ⟨h.nms.2,h.ext.size⟩,fun hz=>absurd (l _ hz) (xC _),heap_alloc_new w _,⟨by simp,by simp⟩,rfl⟩
  (fun g b a f=>by
   simp only[A9,root,rD]at a;have:=((h.locs g).root (h.ft c f)).2.1;omega)
  trivial rfl (fun b _ a=>by simp only[A9,root,rD]at a;have:=h.mrk.1;omega)
 refine⟨_,k.setS d (x:=one1 (.mp st.nx)) ⟨_,[],rfl,(C3 _ _ _).symm,rfl⟩ (fun c a=> ?_)⟩;simp at a;subst a;exact rW _
def Vs {t:Ty} :∀ {i:Nat} {b:List (Nat×List C)} {a:List (Nat×Value)} {xs:List t.den},A3l w Z B b a->Sr t i b=some xs->a=((a.map (·.2)).zipIdx i).map (fun x=>(x.2,x.1))/\(∀v∈a.map (·.2),v.cells.size=t.size)/\xs.length=a.length/\G1 (C5 t w Z) ((a.map (·.2)).flatMap (·.cells.toList)) xs
 |i,[],a,xs,h,b=>by cases b;rw[show a= []from h];exact⟨rfl,by simp,rfl,rfl⟩
 |i,(j,d)::r,a,xs,⟨v,f,e,h,c⟩,b=>by
  simp only[Sr]at b;cases a:Nat.beq i j with
  |false=>simp[a]at b
  |true=>
   have d:=qE a;subst d;simp only[a,qT]at b;split at b
   . rename_i x j;simp only[qN]at b;obtain⟨a,k,rfl⟩:=b;obtain⟨a,d,f,g⟩:=Vs c k;have c:=Hg h j;subst e;refine⟨?_, ?_,by simp[f],⟨v.cells.toList,_,by simp,c,g⟩⟩
     . simp only[sA,g1s];rw[<-a]
     . intro u a;simp only[sA,qG]at a;rcases a with rfl|a
       . have:=C5.length c;simpa using this
       . exact d u (by simpa using a)
   . cases b
def B7.settleP (h:B7 za w0 st E w Z B):∀a:List (Nat×Operand),∃Z',B7 za w0 (settleP st a) E w Z' B:=by
 intro a
 induction a generalizing st Z with
 |nil=>exact⟨Z,h⟩
 |cons x a b=>
  obtain⟨Z1,a⟩:=h.settleO x.2;exact b a
def HP {P:Program} {T e ty:TypeId} {sz len:Nat} {c:List (Nat×Operand)} {z:Value} (vs:List Value) (f:Ho P T e sz=true) (n:Hw P e=some z) (h:len*sz<=16777216) (j:1<=sz) (a:z.cells.size=sz)
 (d:(c.map fun x=>(x.1,Gw.ev E x.2))=(vs.zipIdx 0).map fun x=>(x.2,x.1)) (l:∀v∈vs,v.cells.size=sz) (b:vs.length=len):
 ∃cs:Array Value,cs.toList=vs.flatMap (·.cells.toList)/\Gw.E7 P E ty (.buildSlice T len c.toArray) w (.slice (some ⟨w.heap.size,0,none⟩) len len) (w.alloc (.cells cs e)):=by
 by_cases a:len=0
 . subst a;have:vs= []:=qR b;subst this;refine⟨#[],rfl,fun _ _ _ _=> ?_⟩;obtain⟨k,i⟩:=Kc f;have g:=Gw.Ga (P:=P) (w:=w) i;have i:c= []:=by simpa using d
   subst i;simp only[execOp];unfold Instr.buildSlice;have a:Array.range 0= #[]:=by apply Array.ext<;>simp
   simp[run_underlying k,g,Instr.fill,newRow,a]
 . obtain⟨r,c,a,g⟩:=mK sz vs 0 ((Array.range (len*sz)).map (z.cells[· %z.cells.size]!)) l (by simp[b]);refine⟨r,by rw[a];simp[b], ?_⟩;have a:len*sz≠0:=by
    have:1<=len:=by omega
    have:=yV this j;omega
   exact kG r f n h (by rw[d];exact c) a
def VM {P:Program} {o:Nat} {t ty e:TypeId} {i:TypeInfo} {z:Value} {size:Nat} (k:P.underlying t=some (.slice e)) (f:P.info? e=some i) (A:i.zero=some z) (E:i.size=size) (M:z.cells.size=size) (J:0<size)
 {v:Value} {n:Nat} {xs:List Value} (d:w.ownsRow o e size v n xs) {ao:Option Addr} {m c:Nat} {news:List Value} (h:news.length=m*size) (G:∀a,ao=some a->J4 w a news) (b:ao=none->m=0/\c=0) (B:∀u∈news,u.oneCell'=true)
 (l:n+m<=9223372036854775807) (y:(n+m)*i.bytes<=140737488355328) (F:o<=w.heap.size):
 ∃l w',(Builtin.append_ #[t,t] ty #[v, .slice ao m c]).run P w= .ok l w'/\w'.ownsRow o e size l (n+m) (xs++news)/\w.grownBy w' v.ownBlock/\(l.ownBlock=v.ownBlock\/l.ownBlock=some w.heap.size)/\w.drawn<=w'.drawn:=by
 cases ao with
 |none=>
  obtain⟨rfl,rfl⟩:=b rfl;have b:news= []:=qR (by simpa using h);subst b;refine⟨v,w,run_append_owned_none (P:=P) w o t ty e i size k f v n xs d,by simpa using d,⟨rfl,rfl,rfl,qZ _,fun _ _ _=>rfl⟩, .inl rfl,qZ _⟩
 |some a=>
  by_cases b:m=0
  . subst b;have b:news= []:=qR (by simpa using h);subst b;have b:(Builtin.append_ #[t,t] ty #[v, .slice (some a) 0 c]).run P w= .ok v w:=by
     have s:(loadCells a 0).run P w= .ok #[] w:=by simpa using run_loadCells_list (P:=P) w a [] (by simp)
     rcases d.2 with⟨rfl,rfl⟩ | ⟨g,r,x,rfl,_,_,D,_⟩
     . simp[Builtin.append_,run_underlying k,sizeOf,typeInfo,f,Builtin.lenOf,Builtin.firstCells,s]
     . simp[Builtin.append_,run_underlying k,sizeOf,typeInfo,f,Builtin.lenOf,Builtin.firstCells,D,storeCells,s]
    exact⟨v,w,b,by simpa using d,⟨rfl,rfl,rfl,qZ _,fun _ _ _=>rfl⟩, .inl rfl,qZ _⟩
  . have H:n+m<=maxLen:=by simp only[maxLen];omega
    have s:=G a rfl;obtain⟨l,N,b,I,G,_⟩:=run_append_own (P:=P) w o t ty e i z size i.bytes k f A E rfl M J v n xs d a m c news h s B H y F;refine⟨l,N,b,I,G, ?_⟩;subst E;rcases d.2 with⟨rfl,rfl⟩ | ⟨o,r,x,rfl,_,F,D,_,E,_⟩
    . have D:m*i.bytes<=281474976710656:=by simp only[sF]at y;omega
      have l:=run_append_nil (P:=P) w t ty e i z k f A a m c news h s (by omega) (by omega) D;rw[l]at b;cases b;exact⟨.inr rfl,by simp[World.drawn_alloc,World.drawn_drew]<;>omega⟩
    . by_cases D:n+m<=r
      . have G:n*i.size+news.length<=x.size:=by rw[h,E, <-uU];exact rM _ D
        have l:=run_append_room (P:=P) w t ty e i k f o n r x F a m c news h s B D G;rw[l]at b;cases b;exact⟨.inl rfl,by simp<;>omega⟩
      . have x:∀j u,xs[j]? =some u->w.cell? ((⟨o,0,none⟩:Addr).add j)=some u:=d.cells (g:=o) rfl;have l:=run_append_grow (P:=P) w t ty e i z k f A ⟨o,0,none⟩ n r xs d.1 x a m c news h s (by omega) (by omega) (growslice_fits (by omega) y);rw[l]at b;cases b;exact⟨.inr rfl,by simp[World.drawn_alloc,World.drawn_drew]<;>omega⟩
def WH (h:B7 za w0 st E w Z B) {t:Ty} {c:C} {l:List t.den} {v:Value} (n:RC w Z B c v) (b:WF st t c=some l):
 ∃ao f k,v= .slice ao l.length f/\l.length<=f/\(ao=none->f=0)/\(∀a,ao=some a->J4 w a k)/\G1 (C5 t w Z) k l:=by
 unfold WF at b;split at b
 . rename_i d u;split at b
   . rename_i z;subst z;cases b;obtain⟨a,f,o,r,_,g,j⟩:=n;simp only[sI,vN]at o;rcases j with j| ⟨x,A,k,i,I,s,y⟩
     . subst j;exact⟨a,f,[],o,r,g,fun _ _ M N G=>by simp at G,rfl⟩
     . subst i;exact⟨_,f,k,o,r,g,fun a i=>by cases i;exact s,y⟩
   . cases b
 . rename_i D;split at b
   . rename_i d J u H;split at b
     . rename_i z;subst z;cases b;have x:=h.locs D;rw[H]at x;obtain⟨A,r,y,_⟩:=x;have n:v=B D:=n;rcases r.2 with⟨s,g⟩ | ⟨F,f,o,s,_,_,k,_⟩
       . have:u= []:=qR g;subst this;exact⟨none,0,[],by rw[n,s];rfl,qZ _,fun _=>rfl,fun a i=>(by cases i),rfl⟩
       . exact⟨some ⟨F,0,none⟩,f,A,by rw[n,s],k,fun j=>(by cases j),fun a i=>by cases i;exact Sq r s,y⟩
     . cases b
   . cases b
 . rename_i D sz k o;split at b
   . rename_i d J u H;split at b
     . rename_i z;subst z;cases z:Nat.beq sz d.size with
       |false=>simp only[z,rF]at b;cases b
       |true=>
        simp only[z,qT]at b;cases b;have:=qE z;subst this;have x:=h.locs D;rw[H]at x;obtain⟨A,r,y,_⟩:=x;obtain⟨a,H,f,x,z,D,J,O,P,Q,R,s⟩:=n;have g:H=u.length:=by
         rcases r.2 with⟨j,H⟩ | ⟨_,_,_,j,_⟩<;>rw[x]at j<;>cases j
         . exact H.symm
         . rfl
        subst g;have j:((u.take o.toNat).drop k.toNat).length=o.toNat-k.toNat:=by simp;omega
        refine⟨_,_,(A.take (o.toNat*d.size)).drop (k.toNat*d.size),by rw[s,j],by rw[j];omega,fun I=> ?_,fun s j=> ?_,G1.drop (fun _ _ h=>C5.length h) k.toNat (G1.take (fun _ _ h=>C5.length h) o.toNat y)⟩
        . split at I
          . omega
          . have:=D (by simpa using I);omega
        . by_cases y:f=k.toNat
          . intro M N G;have f:=GW G;rw[sL,qU]at f;have s:A.length=u.length*d.size:=r.1;have s:k.toNat=o.toNat:=by omega
            rw[s]at f;omega
          . rw[qK y]at j;cases a with
            |none=>cases j
            |some f=>
             obtain⟨F,rfl⟩:=z f rfl;cases j;show J4 w ((⟨F,0,none⟩:Addr).add (k.toNat*d.size)) _;rw[K5,sF];have f:=S6 (Sq r x) 0 (o.toNat*d.size);rw[tW,tC]at f;have j:=S6 f (k.toNat*d.size) ((A.take (o.toNat*d.size)).drop (k.toNat*d.size)).length;rw[uW,sF]at j;exact j
     . cases b
   . cases b
 . rename_i d;cases g:EJ d with
   |false=>simp[g]at b
   |true=>
    simp[g]at b;subst b;exact⟨none,0,[],by rw[n.1,Vi g];rfl,qZ _,fun _=>rfl,fun a i=>(by cases i),rfl⟩
 . cases b
def Ls {P:Program} {T:TypeId} {ti:TI} {t:Ty} (h:Wi P T ti=true) (j:ti.ty= .sl t):∃i z,P.underlying T=some (.slice ti.elem)/\P.info? ti.elem=some i/\i.zero=some z/\i.size=t.size/\z.cells.toList=Dv t/\z.cells.size=t.size/\i.bytes=ti.bytes/\Ho P T ti.elem t.size=true:=by
 obtain⟨b,g,i,c,k⟩:=EZ h j;obtain⟨n,a⟩:=Kc b;obtain⟨z,d,f⟩:=Gk g;unfold Hw at d;unfold Tu at a;simp only[c,vY]at d;simp only[c,g0c]at a;have l:(Dv t).length=t.size:=by
  clear f a b g j
  induction t with
  |pair o r g j=>simp[Dv,Ty.size,g,j]
  | _=>rfl
 exact⟨i,z,n,c,d,a,f,by rw[<-sR,f,l],k,b⟩
def Kb {ty t:Ty} (h:slT ty=some t):ty= .sl t:=by
 unfold slT at h;split at h
 . cases h;rfl
 . cases h
variable {all:List Oper} {ty:TypeId} {pos:String} {aft:Array Edge} {g:Option (Nat×Bool)} {k:St->Prop}
def F8 (E:G2):P9 E []:=fun _ _ h=>by cases h
def G1.of_index {a:Type} {R:List Value->a->Prop} {s:Nat} :∀ {l:List a} {cs:List Value},cs.length=l.length*s->(∀(i:Nat) (x:a),l[i]? =some x->R ((cs.drop (i*s)).take s) x)->G1 R cs l
 | [],cs,a,_=>qR (by simpa using a)
 |x::l,cs,a,h=>by
  have b:cs.length=s+l.length*s:=by rw[a,rE,uR,wD]
  refine⟨cs.take s,cs.drop s,(uJ s cs).symm, ?_,G1.of_index (s:=s) (by rw[sL];omega) (fun i y a=> ?_)⟩
  . have:=h 0 x rfl;simpa using this
  . have:=h (i+1) y (by simpa using a);rw[uR,wD, <-vT]at this;exact this
def OV {t:Ty} {z:Array Value} (f:z.toList=Dv t) (k:Sj t=true) (d:z.size=t.size) (c l:Nat) (b:l<=c):G1 (C5 t w Z) ((madeCells z (c*t.size)).toList.take (l*t.size)) (List.replicate l t.dflt):=by
 have g:((madeCells z (c*t.size)).toList.take (l*t.size)).length=l*t.size:=by
  rw[qU,sR,size_madeCells];exact sX (rM _ b)
 refine G1.of_index (s:=t.size) (by rw[g,rI]) (fun i x a=> ?_);have h:i<l:=by have:=GW a;simpa using this
 have g:x=t.dflt:=by
  have:=sO a;exact(zM.1 this).2
 subst g;have g:(((madeCells z (c*t.size)).toList.take (l*t.size)).drop (i*t.size)).take t.size=Dv t:=by
  have a:(Dv t).length=t.size:=by rw[<-f,sR,d]
  have a:i*t.size+t.size<=l*t.size:=by rw[<-uR];exact rM _ h
  have a:l*t.size<=c*t.size:=rM _ b;apply vO;intro j;by_cases a:j<t.size
  . rw[wM,qQ a,xE,wM,qQ (by omega)];have b:(i*t.size+j)%z.size=j:=by rw[d,tG,g2i,tP a]
    have d:(madeCells z (c*t.size)).toList[i*t.size+j]? =some (z[(i*t.size+j)%z.size]!):=by
     simp only[madeCells,wJ,Array.getElem?_map];rw[Array.getElem?_range,qQ (by omega)];rfl
    rw[d,b, <-f,wJ];rw[tZ (by omega),g0r z j (by omega)]
  . rw[wM,qK a,rR (by omega)]
 rw[g];exact NM k
def nL (h:B7 za w0 st E w Z B) (o:H5 cx.P cx.tys=true) {T:TypeId} {x:Operand} (b:dX cx st d T x=some st'):∃v B',(∀w',R8 w w'->Gw.E7 cx.P E ty (.load T x) w' v w')/\B7 za w0 st' (upd E d v) w Z B':=by
 unfold dX at b;simp only[qH,bind_some]at b;obtain⟨ti,j,c,⟨r,k,l⟩,b⟩:=b;split at b
 . rename_i q sz i f;split at b
   . rename_i g e c t al n;cases c:Nat.beq sz 1&&Nat.beq f 0&& !ti.agg with
     |false=>simp only[c,rF]at b;cases b
     |true=>
      simp only[c,qT]at b;cases b;simp only[qC,rO]at c;have g:=qE c.1.1;have f:=qE c.1.2;subst g f;have u:Jn cx.P T=true:=by
       rcases(O4 (B9 o j)).2.1 with⟨f,_⟩ | ⟨_,f,_⟩
       . rw[c.2]at f;cases f
       . exact f
      obtain⟨f,y,c,j,s,g⟩:=(h.c1 (F8 E) (bind_some.2 ⟨r,k,l⟩)).1;have k:=h.locs q;rw[n]at k;obtain⟨o,c,⟨l,r,z⟩,A,D⟩:=k;have l:y=t.length:=by
       rw[j]at c;rcases c.2 with⟨k,_⟩ | ⟨_,_,_,k,_⟩<;>cases k
       rfl
      subst l;have l:i<o.length:=by have:=c.1;omega
      have k:=qP l;have l:=Sq c j i _ k;rw[K5,sF]at l;have t:=qP s;obtain⟨y,s,_⟩:=r i _ _ rfl t k;have r:(o[i]).oneCell'=true:=by rcases s.2 with⟨g,_⟩ | ⟨_,_,_,g,_⟩<;>rw[g]<;>rfl
      obtain⟨B',o⟩:=h.alias d n c k r;refine⟨_,B',fun w' k=>A3g g u ?_,o⟩;have g:f<w.heap.size:=by rw[j]at c;exact(World.ownsRow.lt c f rfl).2
      have e:=World.cell?_of_block (a:=⟨f,i,none⟩) (k.block f g);rw[show i*1+0=i from by omega,e];exact l
   . cases b
 . cases b
def A7y {P:Program} {w:World} {d sT ty elem:TypeId} {size g a dCap b:Nat} {c:Value} {cur:Array Value} {t:TypeId} {cs:List Value} (n:P.underlying d=some (.slice elem)) (f:(P.info? elem).map (·.size)=some size)
 (k:w.heap[g]? =some (.cells cur t (0,0))) (l:(Builtin.lenOf c).run P w= .ok b w) (i:(Builtin.firstCells size (Nat.min b a) c).run P w= .ok cs.toArray w) (j:cs.length<=cur.size) (h:∀v∈cs,v.oneCell'=true):
 (Builtin.copy_ #[d,sT] ty #[.slice (some ⟨g,0,none⟩) a dCap,c]).run P w= .ok (goInt (Nat.min b a)) (w.setRow g (cs++cur.toList.drop cs.length).toArray):=by
 have b:=run_storeCells_at P g 0 t cs 0 cur w k (by simpa using j) h;cases a:P.info? elem with
 |none=>simp[a]at f
 |some d=>
  have c:d.size=size:=by simpa[a]using f
  simp only[sF,g0z,vK]at b;simp[Builtin.copy_,run_underlying n,l,sizeOf,typeInfo,a,c,i,b]
def A7x {P:Program} {w:World} {b sT ty elem:TypeId} {size dCap h:Nat} {a:Value} (g:P.underlying b=some (.slice elem)) (c:(P.info? elem).map (·.size)=some size)
 (f:(Builtin.lenOf a).run P w= .ok h w) (d:(Builtin.firstCells size 0 a).run P w= .ok #[] w):
 (Builtin.copy_ #[b,sT] ty #[.slice none 0 dCap,a]).run P w= .ok (goInt 0) w:=by
 cases a:P.info? elem with
 |none=>simp[a]at c
 |some i=>
  have b:i.size=size:=by simpa[a]using c
  simp[Builtin.copy_,run_underlying g,f,sizeOf,typeInfo,a,b,d]
def B0u (h:B7 za w0 st E w Z B) (b5:H5 cx.P cx.tys=true) {T sT:TypeId} {x y:Operand} (f:lZ cx st d T x y=some st'):∃v w' B',Gw.E7 cx.P E ty (.call ⟨.builtin .copy, #[x,y], #[T,sT]⟩) w v w'/\B7 za w0 st' (upd E d v) w' Z B':=by
 simp only[lZ,qH,bind_some]at f;obtain⟨ti,b3,bm,U,D,⟨b9,ah,ai⟩,z,⟨ba,ak,am⟩,a,b8,f⟩:=f;have U:=Kb U;obtain⟨bl,af,aa,av,ad,b2,bj,bk,bf,bi⟩:=Ls (B9 b5 b3) U;obtain⟨b6,_⟩:=h.c1 (F8 E) (bind_some.2 ⟨b9,ah,ai⟩);obtain⟨b7,_⟩:=h.c1 (F8 E) (bind_some.2 ⟨ba,ak,am⟩);obtain⟨ag,bb,c,ab,bg,ax,an,O⟩:=WH h b7 b8;cases D with
 |row k=>
  simp only at f;split at f
  . rename_i b e l t;split at f
    . rename_i aq;subst aq;cases a1:jB (.row k) z with
      |false=>simp only[a1,rF]at f;cases f
      |true=>
       simp only[a1,qT]at f;cases f;have X:=h.locs k;rw[t]at X;obtain⟨ae,Q,a2,I⟩:=X;have W:Gw.ev E x=B k:=b6;have a6:(Builtin.lenOf (Gw.ev E y)).run cx.P w= .ok a.length w:=by rw[ab];rfl
       have a5:(cx.P.info? ti.elem).map (·.size)=some b.size:=by rw[av,vW,b2]
       have bh:Nat.min a.length l.length=min a.length l.length:=rfl;have N:c.length=a.length*b.size:=O.length (fun i x=>C5.length);have a3:(Builtin.firstCells b.size (Nat.min a.length l.length) (Gw.ev E y)).run cx.P w= .ok (c.take (min a.length l.length*b.size)).toArray w:=by
        rw[ab];cases ag with
        |none=>
         have:a= []:=qR (by have:=ax rfl;omega);subst this;simp[Builtin.firstCells]
        |some D=>
         have F:(c.take (min a.length l.length*b.size)).length=min a.length l.length*b.size:=by
          rw[qU,N];exact sX (rM _ (g2g ..))
         have:=run_loadCells_list (P:=cx.P) w D (c.take (min a.length l.length*b.size)) (fun j v hj=>an D rfl j v (by
          have J:=GW hj;rw[rT (by omega)]at hj;exact hj))
         rw[F]at this;exact this
       have b0:∀u∈c.take (min a.length l.length*b.size),u.oneCell'=true:=fun u hu'=>O.oneCell u (rY hu')
       have ac:∀m:Nat,m<=l.length->RC w Z B (.val (.int .i64) (m:Int)) (.int .i64 (m:Int)):=fun m hm=>by
        have:l.length<=maxLen:=by
         rcases Q.2 with⟨_,V⟩ | ⟨_,_,_,_,_,_,J,aj,_⟩
         . omega
         . omega
        refine⟨rfl, ?_⟩;unfold OR;simp only[maxLen]at this;constructor
        . change(-9223372036854775808:Int)<= _;omega
        . change _ <=(9223372036854775807:Int);omega
       have a7:(min (a.length:Int) (l.length:Int))=((min a.length l.length:Nat):Int):=by omega
       rcases Q.2 with⟨s,V⟩ | ⟨g,G,n,s,au,a4,ay,ao,ap,b4⟩
       . have aw:l= []:=qR V;subst aw;have R:=A7x (sT:=sT) (ty:=ty) (dCap:=0) aa a5 a6 (by simpa using a3);refine⟨goInt 0,w,B,fun _ _ _ _=>by simp[execOp,resolve,invoke,builtin,W,s,R], ?_⟩;have H:B7 za w0 (st.setL k (.row b e (Ml [] a))) E w Z B:=by
          have J:Ml ([]:List b.den) a= []:=by simp[Ml]
          rw[J];exact h.relc (by rw[t];trivial) ⟨ae,Q,a2,I⟩ trivial (fun z aj=> .inl aj)
         refine H.setS d ?_ (fun i A=>by simp at A;subst A;trivial);rw[a7,show min a.length ([]:List b.den).length=0 from Nat.min_zero _];exact⟨_,_,rfl,ac _ (by simp),rfl⟩
       . have ar:(c.take (min a.length l.length*b.size)).length<=n.size:=by
          rw[qU,N,ap];have J:min a.length l.length*b.size<=G*b.size:=rM _ (by omega);omega
         have F:(c.take (min a.length l.length*b.size)).length=min a.length l.length*b.size:=by
          rw[qU,N];exact sX (rM _ (g2g ..))
         have R:=A7y (sT:=sT) (ty:=ty) (dCap:=G) aa a5 a4 a6 a3 ar b0;refine⟨goInt (Nat.min a.length l.length),w.setRow g (c.take (min a.length l.length*b.size)++n.toList.drop (c.take (min a.length l.length*b.size)).length).toArray,B,fun _ _ _ _=>by simp[execOp,resolve,invoke,builtin,W,s,R], ?_⟩;generalize a0:(c.take (min a.length l.length*b.size)++n.toList.drop (c.take (min a.length l.length*b.size)).length).toArray=r;have Y:aS g w (w.setRow g r):=⟨rfl,rfl,⟨rfl,qZ _⟩,by simp,fun k t=>setRow_other w g k _ t⟩;have b1:root (B k)=some g:=by rw[s];rfl
         obtain⟨be,az⟩:=I g (by rw[s];rfl);have a9:O5 Z w (w.setRow g r):=fun af ad=>Y.2.2.2.2 af (fun o=>az (o▸ad))
         have a8:G1 (C5 b (w.setRow g r) Z) (c.take (min a.length l.length*b.size)++ae.drop (min a.length l.length*b.size)) (Ml l a):=by
          have J:Ml l a=a.take (min a.length l.length)++l.drop (min a.length l.length):=by
           unfold Ml;rcases Nat.le_total a.length l.length with o|o
           . rw[sX o,qW o,qW (qZ _)]
           . rw[Nat.min_eq_right o,sD o,sD (qZ _)]
          rw[J];refine G1.append ?_ ?_
          . exact(O.take (fun i x=>C5.length) _).mono fun i x=>C5.mono (fun _=>id) a9
          . exact(a2.drop (fun i x=>C5.length) _).mono fun i x=>C5.mono (fun _=>id) a9
         have M:(Ml l a).length=l.length:=by
          unfold Ml;rw[rL,qU,sL];omega
         have H:B7 za w0 (st.setL k (.row b e (Ml l a))) E (w.setRow g r) Z B:=by
          refine h.chg (by rw[t];trivial) (by rw[t];exact b1) Y ⟨_,⟨?_, .inr ⟨g,G,r, ?_,au,setRow_heap w g n _ e _ a4, ?_,ao, ?_, ?_⟩⟩,a8,fun z J=> ?_⟩ trivial (fun z J=> .inl J)
          . rw[a8.length (fun i x=>C5.length)]
          . rw[M];exact s
          . rw[M];exact ay
          . have aj:n.toList.length=n.size:=sR;have bc:r.size=(c.take (min a.length l.length*b.size)).length+(n.toList.length-(c.take (min a.length l.length*b.size)).length):=by
             rw[<-a0, <-sL, <-rL];rfl
            omega
          . rw[M, <-a0,F, <-b4,g0w,zZ];have bd:min a.length l.length*b.size<=l.length*b.size:=rM _ (by omega);rw[F,qW (by omega)]
          . exact I z J
         refine H.setS d ?_ (fun i A=>by simp at A;subst A;trivial);rw[a7];exact⟨_,_,rfl,(ac _ (by omega)),rfl⟩
    . cases f
  . cases f
 | _=>simp at f
def C5f:LC->Bool
 | .al _=>true
 | _=>false
def B4n {v:Value} {e d:TypeId} {n a g b j:Nat} {xs:List Value} {cur:Array Value} {x:Value} (f:w.ownsRow 0 e 1 v n xs) (c:v= .slice (some ⟨g,0,none⟩) a b) (h:w.heap[g]? =some (.cells cur d (0,0))) (k:j<a) (i:cur[j]? =some x):xs[j]? =some x:=by
 rcases f.2 with⟨a,_⟩ | ⟨o,k,l,a,_,b,r,_,s,d⟩
 . rw[c]at a;cases a
 . rw[c]at a;cases a;rw[h]at b;cases b;rw[<-d,rT (by omega)];simpa using i
def B7.detach (h:B7 za w0 st E w Z B) {k q i:Nat} {t:Ty} {e e':TypeId} {ls:List (List t.den)} {al:List (Nat×Nat)} (n:st.L k= .rows t e e' ls al none) (a8:st.L q= .al k) (a3:QY q al=some i) (ah:st.nm<=k) (ak:st.nm<=q) (a0:za.b0=0):
 B7 za w0 ((st.setL k (.rows t e e' ls [] (some i))).setL q (.row t e' (ls.getD i []))) E w Z B:=by
 have P:=h.locs k;have Q:=h.refl k;rw[n]at P Q;obtain⟨F,s,⟨Y,J,M⟩,N,O⟩:=P;have U:=Sf a3;have o:F[i]? =some (B q):=Y (i,q) U;have am:F.length=ls.length:=by have:=s.1;omega
 have a4:i<ls.length:=by have:=(rU.1 o).1;omega
 have a6:ls[i]? =some (ls.getD i []):=by rw[qF,qP a4];rfl
 obtain⟨ag,X,ae⟩:=J i _ _ rfl a6 o;have a9:q<st.nx:=Q (i,q) U;have aj:k≠q:=fun hh=>by rw[hh,a8]at n;cases n
 have V:∀b,A9 w (B k) (.rows t e e' ls [] (some i)) b->A9 w (B k) (.rows t e e' ls al none) b:=fun b d=>by
  rcases d with d| ⟨g,W,G,H,I,j,x,D,v,T,_,r,d⟩
  . exact .inl d
  . exact .inr ⟨g,W,G,H,I,j,x,D,v,T,rfl,r,d⟩
 have ab:B7 za w0 (st.setL k (.rows t e e' ls [] (some i))) E w Z B:=
  h.relc (by rw[n];trivial) ⟨F,s,⟨fun p A=>(by cases A),fun j l x _ hl r=>J j l x rfl hl r,fun a c x y b hac _ _ hxa hyc=>M a c x y b hac rfl rfl hxa hyc⟩,fun j x b _ r=>N j x b rfl r,fun b d=>O b (V b d)⟩ (fun p A=>(by cases A)) (fun b d=> .inr (by rw[n];exact V b d))
 have aa:=F5 X;have R:∀b,root (B q)=some b->A9 w (B k) (.rows t e e' ls al none) b:=fun b d=>AH s rfl o d
 refine ab.addL (k:=q) a9 ⟨ag,X,ae,fun b d=> ?_⟩ (fun j b T d f=> ?_) trivial (fun b _ _=>by rw[a0];exact rK _)
 . obtain⟨u,af,_⟩:=O b (R b (aa.trans d));refine⟨.inl ?_,af⟩;have ai:=h.nms.1;rcases u with u|u
   . exact⟨by omega,u.2⟩
   . omega
 . have d:root (B q)=some b:=d;rw[St.L_setL]at f;by_cases z:j=k
   . subst z;rw[qQ rfl]at f;rcases f with f| ⟨g,W,G,H,I,m,x,D,v,a7,a2,ac,a1⟩
     . exact N i (B q) b rfl o d f
     . have ad:=B4n s D v a7 ac;have a5:i≠m:=fun hh=>by
        subst hh;simp[Ko]at a2
       exact M i m (B q) x b a5 rfl rfl o ad d a1
   . rw[qK z]at f;exact h.disj k j b (Ne.symm z) (by rw[n];exact R b d) f
def B7.detO (h:B7 za w0 st E w Z B) (x:Operand) (a:za.b0=0\/∀k,(st.ev [] x).bind Vc.c1=some (C.row k)->C5f (st.L k)=false):B7 za w0 (Vc.detO st x) E w Z B:=by
 unfold Vc.detO;split
 . rename_i c d;unfold B6r;split
   . rename_i q;split
     . rename_i k c;split
       . rename_i t e b f al g;split
         . rename_i i f;cases b:Nat.ble st.nm k&&Nat.ble st.nm q with
           |false=>exact h
           |true=>
            simp only[qC]at b;rcases a with a|a
            . exact h.detach g c f (qS b.1) (qS b.2) a
            . have:=a q d;rw[c]at this;cases this
         . exact h
       . exact h
     . exact h
   . exact h
 . exact h
def B6s (st:St) (x:Operand) (ctx:Kx) (y:Operand):(detO st x).ev ctx y=st.ev ctx y:=by
 have d:∀(b:Bool) (c a:St),c.ev ctx y=a.ev ctx y->(bif b then c else a).ev ctx y=a.ev ctx y:=by
  intro b c a h;cases b
  . rfl
  . exact h
 unfold detO;split
 . unfold B6r;split
   . split
     . split
       . split
         . exact d _ _ _ rfl
         . rfl
       . rfl
     . rfl
   . rfl
 . rfl
def jF (k0:Nat) (st:St):Op->Bool
 | .call ⟨.builtin .append,a,_⟩=>match a.toList with
  |x:: _=>(match(st.ev [] x).bind c1 with
   |some (.row k)=>Nat.ble k0 k&& !(C5f (st.L k))
   | _=>true)
  | _=>true
 | _=>true
def B6w {av:Op} (h:B7 za w0 st E w Z B) (bn:za.b0=0\/∀op,op=av->jF za.k0 st op=true) (a0:H5 cx.P cx.tys=true) (a:B1b cx st d av=some (φ,st')) (b3:RH φ) (H:k st') (O:E5 all ⟨some d,av,ty,pos,aft,g⟩ E=true):I5 cx.P all ⟨some d,av,ty,pos,aft,g⟩ (kQ za w0 w (wrB av) k) E w:=by
 unfold B1b at a;split at a
 . simp only[qH,bind_some]at a;obtain⟨s,cq,a⟩:=a;cases o:s.cs.all Fu with
   |false=>simp only[o,rF]at a;cases a
   |true=>
    simp only[o,qT]at a;cases a;obtain⟨y,ae⟩:=h.ev (F8 E) cq;obtain⟨B',am⟩:=h.newBox d (T:= _) (RS.cells h y o) ae;exact V3 (C7n rfl) O ⟨fun _=>R8.alloc w _,_,_,_,am,H⟩
 . simp only[qH,bind_some]at a;obtain⟨ti,N,a⟩:=a;cases a;obtain⟨J,z,ad⟩:=Gk (O4 (B9 a0 N)).2.2;have am:=Cw (w:=w) (Z:=Z) (B:=B) (n:=st.nx) (Dv ti.ty);obtain⟨B',W⟩:=h.newBox d (T:= _) (vs:=J.cells) (by rw[ad];exact am.1) am.2;exact V3 (A5p z) O ⟨fun _=>R8.alloc w _,_,_,_,W,H⟩
 . rename_i T len bu;simp only[qH,bind_some]at a;obtain⟨ti,N,t,U,dd,cm,xs,cw,a⟩:=a;have U:=Kb U;cases o:Nat.beq xs.length len&&Nat.ble (len*t.size) 16777216&&Nat.ble 1 t.size with
   |false=>simp only[o,rF]at a;cases a
   |true=>
    simp only[o,qT]at a;cases a;simp only[qC]at o;obtain⟨bb,J,I,b1,z,b9,ad,b7,f,b4⟩:=Ls (B9 a0 N) U;obtain⟨Z1,y⟩:=h.settleP bu.toList;obtain⟨ae,am⟩:=Mm y (F8 E) cm;obtain⟨ab,ag,an,G⟩:=Vs ae cw;have ay:=qE o.1.1;have b6:Hw cx.P ti.elem=some J:=by simp[Hw,b1,z]
    obtain⟨j,a1,a5⟩:=HP (w:=w) (ty:=ty) (len:=len) _ b4 b6 (qS o.1.2) (qS o.2) b7 ab ag (by rw[sV, <-an,ay]);have r:R8 w (w.alloc (.cells j ti.elem)):=R8.alloc w _;have W:=y.more (Z':=Z1) r (fun _=>id) (fun _=> .inl);have ac:O5 Z1 w (w.alloc (.cells j ti.elem)):=fun i f=>r.block i (y.zlt i f)
    have A:j.toList.length=len*t.size:=by rw[a1,G1.length (fun _ _ h=>C5.length h) G,ay]
    have b2:(w.alloc (.cells j ti.elem)).ownsRow w0.heap.size ti.elem t.size (.slice (some ⟨w.heap.size,0,none⟩) len len) xs.length j.toList:=by
     rw[ay];refine⟨A, .inr ⟨w.heap.size,len,j,rfl,h.ext.size,Ma w _ _,qZ _, ?_,by simpa using A,by rw[<-A,uW]⟩⟩;have M:=qS o.1.2;have ax:=qS o.2;have:len*1<=len*t.size:=sS _ ax;simp only[maxLen];omega
    obtain⟨B',M⟩:=W.newRow d (t:=t) (e:=ti.elem) (l:=xs) b2 (by rw[a1];exact G.mono fun _ _=>C5.mono (fun _=>id) ac) (fun i f=>by
     simp only[Value.ownBlock,rD]at f;refine⟨fun z=> ?_,fun q b=> ?_⟩
     . have:=y.zlt i z;omega
     . have:=((y.locs q).root (y.ft r b)).2.1;omega) (fun i _ f=>by simp only[Value.ownBlock,rD]at f;have:=h.mrk.1;omega)
    have:=V3 (pos:=pos) (aft:=aft) a5 (by simpa using O) (show kQ za w0 w (wrB (.buildSlice T len bu)) k _ _ from⟨fun _=>r,_,_,_,M,H⟩);simpa using this
 . rename_i T bt bg;simp only[qH,bind_some]at a;obtain⟨ti,N,t,U,l,u,c,D,a⟩:=a;have U:=Kb U;cases bq:ti.rows with
   |true=>
    simp only[bq,qT,qN]at a;obtain⟨d4,A,a⟩:=a;cases a;unfold XE at A;split at A
    case h_2=>cases A
    rename_i G b1;rw[U]at b1;cases b1;simp only[qN]at A;obtain⟨bp,_,A⟩:=A;subst A;obtain⟨b6,b7,b9,bb⟩:=b3;obtain⟨an,J,I,bc,z,ag,ad,b2,f,bv⟩:=Ls (B9 a0 N) U;obtain⟨bl,aj,_⟩:=h.int (F8 E) u;obtain⟨bo,b4,_⟩:=h.int (F8 E) D;have a4:=run_make (P:=cx.P) w T ti.elem an J I bc z bl bo l c b6 b7 (by rw[f];exact b9) bb;have a5:Gw.E7 cx.P E ty (.makeSlice T bt bg) w (.slice (some ⟨w.heap.size,0,none⟩) l.toNat c.toNat) (w.alloc (.cells (madeCells J.cells (c.toNat*an.size)) ti.elem)):=fun _ _ _ _=>by simp[execOp,aj,b4,a4]
    generalize a1:madeCells J.cells (c.toNat*an.size)=j at a5;have bi:(Ty.sl G).size=1:=rfl;rw[bi]at ag b2;have ax:j.size=c.toNat*1:=by rw[<-a1, <-ag];simp[madeCells]
    have r:R8 w (w.alloc (.cells j ti.elem)):=R8.alloc w _;have W:=h.more (Z':=Z) r (fun _=>id) (fun _=> .inl);have ab:l.toNat<=c.toNat:=by omega
    have bs:G1 (C5 (.sl G) (w.alloc (.cells j ti.elem)) Z) (j.toList.take (l.toNat*1)) (List.replicate l.toNat (Ty.sl G).dflt):=by
     rw[<-a1,ag];exact OV ad rfl b2 _ _ ab
    have bh:(w.alloc (.cells j ti.elem)).ownsRow w0.heap.size ti.elem 1 (.slice (some ⟨w.heap.size,0,none⟩) l.toNat c.toNat) l.toNat (j.toList.take (l.toNat*1)):=by
     refine⟨?_, .inr ⟨w.heap.size,c.toNat,j,rfl,h.ext.size,Ma w _ _,ab, ?_,ax,rfl⟩⟩
     . rw[qU,sR,ax];exact sX (rM _ ab)
     . simp only[maxLen];omega
    have bd:∀x∈j.toList.take (l.toNat*1),x= .slice none 0 0:=fun x r=>by
     have r:=rY r;rw[<-a1]at r;simp only[madeCells,g1m,sQ]at r;obtain⟨bw,_,rfl⟩:=r;have bj:J.cells.toList= [.slice none 0 0]:=ad;have bk:J.cells= #[.slice none 0 0]:=by rw[<-uX (xs:=J.cells),bj]
     rw[bk];simp[g4v]
    obtain⟨B',M⟩:=W.newRows d G bp.elem bh bd (fun i f=>by
     simp only[Value.ownBlock,rD]at f;refine⟨fun z=> ?_,fun q b=> ?_⟩
     . have:=h.zlt i z;omega
     . have:=((h.locs q).root (h.ft r b)).2.1;omega) (fun i _ f=>by simp only[Value.ownBlock,rD]at f;have:=h.mrk.1;omega)
    exact V3 a5 O ⟨fun _=>r,_,_,_,M,H⟩
   |false=>
   simp only[bq,rF]at a;cases o:Sj t with
   |false=>simp only[o,rF]at a;cases a
   |true=>
    simp only[o,qT]at a;cases a;obtain⟨ax,b1,b2,b4⟩:=b3;obtain⟨G,J,I,b7,z,ag,ad,bb,f,bh⟩:=Ls (B9 a0 N) U;obtain⟨bc,aj,_⟩:=h.int (F8 E) u;obtain⟨bd,an,_⟩:=h.int (F8 E) D;have a4:=run_make (P:=cx.P) w T ti.elem G J I b7 z bc bd l c ax b1 (by rw[f];exact b2) b4;have a5:Gw.E7 cx.P E ty (.makeSlice T bt bg) w (.slice (some ⟨w.heap.size,0,none⟩) l.toNat c.toNat) (w.alloc (.cells (madeCells J.cells (c.toNat*G.size)) ti.elem)):=fun _ _ _ _=>by simp[execOp,aj,an,a4]
    generalize a1:madeCells J.cells (c.toNat*G.size)=j at a5;have ab:j.size=c.toNat*t.size:=by rw[<-a1, <-ag];simp[madeCells]
    have r:R8 w (w.alloc (.cells j ti.elem)):=R8.alloc w _;have W:=h.more (Z':=Z) r (fun _=>id) (fun _=> .inl);have A:l.toNat<=c.toNat:=by omega
    have b6:G1 (C5 t (w.alloc (.cells j ti.elem)) Z) (j.toList.take (l.toNat*t.size)) (List.replicate l.toNat t.dflt):=by
     rw[<-a1,ag];exact OV ad o bb _ _ A
    have b9:(w.alloc (.cells j ti.elem)).ownsRow w0.heap.size ti.elem t.size (.slice (some ⟨w.heap.size,0,none⟩) l.toNat c.toNat) (List.replicate l.toNat t.dflt).length (j.toList.take (l.toNat*t.size)):=by
     rw[rI];refine⟨?_, .inr ⟨w.heap.size,c.toNat,j,rfl,h.ext.size,Ma w _ _,A, ?_,ab,rfl⟩⟩
     . rw[qU,sR,ab];exact sX (rM _ A)
     . simp only[maxLen];omega
    obtain⟨B',M⟩:=W.newRow d b9 b6 (fun i f=>by
     simp only[Value.ownBlock,rD]at f;refine⟨fun z=> ?_,fun q b=> ?_⟩
     . have:=h.zlt i z;omega
     . have:=((h.locs q).root (h.ft r b)).2.1;omega) (fun i _ f=>by simp only[Value.ownBlock,rD]at f;have:=h.mrk.1;omega)
    exact V3 a5 O ⟨fun _=>r,_,_,_,M,H⟩
 . rename_i ak aw;split at a
   . rename_i x ai T T' af ar;cases Y:Nat.beq T T' with
     |false=>simp[Y]at a
     |true=>
      simp only[Y,qT]at a;have c6:=qE Y;subst c6;have A:=h.detO x (bn.imp id fun F k H=>by
       have:=F _ rfl;simp only[jF,af,H,qC,rO]at this;exact this.2)
      have bk:=B6s st x;have ck:za.b0=0\/∀j,(st.ev [] x).bind Vc.c1=some (C.row j)->za.k0<=j:=bn.imp id fun F j G=>by
       have:=F _ rfl;simp only[jF,af,G,qC,rO]at this;exact qS this.1
      generalize Vc.detO st x=ah at a A bk;simp only[C0t,qH,bind_some]at a;obtain⟨ti,N,t,U,a1,⟨bv,bd,bj⟩,i,⟨d3,co,c8⟩,l,u,bw,cz,a⟩:=a;have U:=Kb U;cases o:jB a1 i&&Nat.ble 1 t.size with
      |false=>simp only[o,rF]at a;cases a
      |true=>
       simp only[o,qT]at a;cases a;simp only[qC]at o;obtain⟨c4,c5⟩:=b3;obtain⟨da,J,I,cd,z,cr,ad,d0,f,d9⟩:=Ls (B9 a0 N) U;have ax:=A.c1 (F8 E) (bind_some.2 ⟨bv,bd,bj⟩);have c7:=A.c1 (F8 E) (bind_some.2 ⟨d3,co,c8⟩);obtain⟨ao,bx,c2,cu,d8,ci,c9,b7⟩:=WH A c7.1 cz;have cc:=G1.length (R:=C5 t w Z) (s:=t.size) (fun _ _ h=>C5.length h) b7;have an:za.b0=0\/∀j,a1= .row j->za.k0<=j:=ck.imp id fun F j G=>F j (by
        rw[bk]at bd;exact bind_some.2 ⟨bv,bd,by rw[bj,G]⟩)
       have cn:∃xs,w.ownsRow w0.heap.size ti.elem t.size (Gw.ev E x) l.length xs/\G1 (C5 t w Z) xs l/\(∀q,(Gw.ev E x).ownBlock=some q->¬Z q/\w0.heap.size<=q/\∀j,¬A9 w (B j) ((dropR ah a1).L j) q)/\B7 za w0 (dropR ah a1) E w Z B/\(∀q,(Gw.ev E x).ownBlock=some q->za.b0<=q):=by
        unfold PV at u;split at u
        . rename_i j;split at u
          . rename_i de bz dc G;split at u
            . rename_i b8;subst b8;cases X:Nat.beq bz ti.elem&&Nat.ble ah.nm j with
              |false=>simp only[X,rF]at u;cases u
              |true=>
               simp only[X,qT]at u;cases u;simp only[qC]at X;have d7:=qS X.2;have cb:=qE X.1;subst cb;have bh:=A.locs j;rw[G]at bh;obtain⟨xs,ab,b6,bo⟩:=bh;have ct:∀q,(B j).ownBlock=some q->w0.heap.size<=q:=fun q b=>by
                rcases(bo q b).1 with g|g
                . exact g.2
                . have:=A.nms.1;omega
               replace ab:=A2d ab ct;have cj:=fun q b=>(bo q b).2
               have b1:Gw.ev E x=B j:=ax.1;have bp:=F5 ab;rw[<-b1]at ab;refine⟨xs,ab,b6,fun q b=> ?_,A.drop j,fun q b=> ?_⟩
               case refine_2=>
                rw[b1]at b;rcases an with an|an
                . rw[an];exact rK _
                . exact A.mrk.2 j q (an j rfl) (by rw[G];exact bp.trans b)
               rw[b1]at b;refine⟨cj q b,(World.ownsRow.lt ab q (by rw[b1];exact b)).1,fun bs ag=> ?_⟩;simp only[dropR,St.L_setL]at ag;by_cases bb:bs=j
               . rw[qQ bb]at ag;exact ag.elim
               . rw[qK bb]at ag;exact A.disj bs j q bb ag (by rw[G];exact bp.trans b)
            . cases u
          . cases u
        . rename_i d6;cases Q:EJ d6 with
          |false=>simp[Q]at u
          |true=>
           simp[Q]at u;subst u;have ag:Gw.ev E x= .slice none 0 0:=by rw[ax.1.1];exact Vi Q
           refine⟨[],by rw[ag];exact World.ownsRow_nil _ _ _ _,rfl,fun q b=> ?_,A,fun q b=> ?_⟩<;>(rw[ag]at b;cases b)
        . cases u
       obtain⟨xs,ab,b6,b2,bc,cv⟩:=cn;obtain⟨d5,b4,a4,cl,b9,bi,ca⟩:=VM (P:=cx.P) (ty:=ty) I cd z cr d0 (qS o.2) ab (ao:=ao) (m:=bw.length) (c:=bx) (news:=c2) cc (fun a1 ax=>c9 a1 ax) (fun Q=>by have:=ci Q;omega) (G1.oneCell b7) c5 (by rw[f];exact c4) A.ext.size;have ac:∀q,(Z q\/∃j,A9 w (B j) ((dropR ah a1).L j) q)->b4.heap[q]? =w.heap[q]?:=fun q b=>by
        refine b9.block q ?_ (fun F=> ?_)
        . rcases b with b| ⟨j,G⟩
          . exact A.zlt q b
          . exact((bc.locs j).root G).2.1
        . have:=b2 q F.symm;rcases b with b| ⟨j,G⟩
          . exact this.1 b
          . exact this.2.2 j G
       have W:=bc.keep (Z':=Z) (A.ext.grown b9 ca (fun q b=> .inl (b2 q b).2.1)) b9.size ac (fun _=>id) (fun _=> .inl);have cs:O5 Z w b4:=fun q b=>ac q (.inl b)
       have bl:∀j q,A9 b4 (B j) ((dropR ah a1).L j) q->A9 w (B j) ((dropR ah a1).L j) q:=fun j q hf=>(A9.iff fun c D=>ac c (.inr ⟨j,D⟩)).1 hf
       obtain⟨B',M⟩:=W.newRow d (l:=l++bw) (by rw[rL];exact cl) ((b6.append b7).mono fun _ _=>C5.mono (fun _=>id) cs) (fun q b=>by
        rcases bi with ag|ag
        . rw[ag]at b;exact⟨(b2 q b).1,fun j G=>(b2 q b).2.2 j (bl j q G)⟩
        . rw[ag]at b;cases b;exact⟨fun z=>absurd (A.zlt _ z) (xC _),fun j G=>absurd ((bc.locs j).root (bl j _ G)).2.1 (xC _)⟩) (fun q b1 b=>by
        rcases bi with ag|ag
        . rw[ag]at b;exact cv q b
        . rw[ag]at b;cases b;exact A.mrk.1)
       have b5:ak= #[x,ai]:=by rw[<-af]
       have be:aw= #[T,T]:=by rw[<-ar]
       subst b5 be;refine V3 (v:=d5) (w':=b4) (fun _ _ _ _=> ?_) O ⟨fun F=>(by cases F),_,_,_,M,H⟩;simp[execOp,resolve,invoke,builtin,cu,a4]
   . cases a
 . rename_i T d2;simp only[qH,bind_some]at a;obtain⟨ti,N,a⟩:=a;split at a
   . rename_i a6 a7 a8 a9 Y;cases a;obtain⟨B',M⟩:=h.newMap d a6 a7 a8 a9;exact V3 A8y O ⟨fun _=>R8.alloc w _,_,_,_,M,H⟩
   . rename_i a6 a7 a8 a9 au Y;simp only[qN]at a;obtain⟨n,Q,a⟩:=a;cases a;obtain⟨I,_⟩:=Wj (B9 a0 N) Y;obtain⟨db,aj,_⟩:=h.int (F8 E) Q;obtain⟨B',M⟩:=h.newMap d a6 a7 a8 a9;refine V3 (v:= .map (some w.heap.size)) (w':=w.alloc (.map #[] 0)) (fun _ _ _ _=> ?_) O ⟨fun _=>R8.alloc w _,_,_,_,M,H⟩;simp[execOp,Instr.makeMap,aj,run_underlying I,asInt,go_sem]
   . cases a
 . rename_i ak aw;split at a
   . rename_i x T af ar;simp only[qH,bind_some]at a;obtain⟨ti,N,a⟩:=a;split at a
     . rename_i a6 a7 a8 a9 Y;simp only[bind_some]at a;obtain⟨c,⟨s,ap,aq⟩,aa,a3,a⟩:=a;cases a;have ay:(aa.length:Int)<=9223372036854775807:=by have:aa.length<=9223372036854775807:=b3;omega
       have b5:ak= #[x]:=by rw[<-af]
       have be:aw= #[T]:=by rw[<-ar]
       subst b5 be;obtain⟨I,_⟩:=Wj (B9 a0 N) Y;have y:=h.c1 (F8 E) (bind_some.2 ⟨s,ap,aq⟩);have ce:OR .i64 (aa.length:Int):=by
        unfold OR;have aj:i64.min= -9223372036854775808:=by decide
        have j:i64.max=9223372036854775807:=by decide
        omega
       have cy:Gw.E7 cx.P E ty (.call ⟨.builtin .len, #[x], #[T]⟩) w (.int .i64 (aa.length:Int)) w:=by
        intro _ _ _ _;rcases A4o h y.1 a3 with⟨e,Q⟩ | ⟨i,a2,V,e,cg,f,X⟩
        . simp[execOp,resolve,invoke,builtin,Builtin.len_,e,run_underlying I,goInt,Q]
        . have bm:(getObj i).run cx.P w= .ok (.map a2 V) w:=by simp[getObj,Sem.run,f]
          have u:=R7.len X;simp[execOp,resolve,invoke,builtin,Builtin.len_,e,run_underlying I,bm,goInt]at u⊢;exact tR Int.ofNat u
       exact V3 cy O ⟨fun _=>R8.refl w,_,_,_,h.setS d (x:=one1 (.val (.int .i64) (aa.length:Int))) ⟨_,[],rfl,⟨rfl,ce⟩,rfl⟩ (fun c D=>by simp at D;subst D;trivial),H⟩
     . cases a
   . cases a
 . rename_i T x;simp only[qN]at a;obtain⟨d4,u,a⟩:=a;cases a;obtain⟨v,B',y,ae⟩:=nL (ty:=ty) h a0 u;exact V3 (y w (R8.refl w)) O ⟨fun _=>R8.refl w,_,_,_,ae,H⟩
 . rename_i T x;simp only[qH,bind_some]at a;obtain⟨ti,N,a⟩:=a;split at a
   . rename_i a6 a7 a8 a9 Y;simp only[bind_some]at a;obtain⟨c,⟨s,ap,aq⟩,aa,a3,a⟩:=a;cases a;obtain⟨I,_⟩:=Wj (B9 a0 N) Y;obtain⟨Z1,y⟩:=h.settleO x;have D:=(y.c1 (F8 E) (bind_some.2 ⟨s,ap,aq⟩)).1;have bf:∀au,(Instr.range T (Gw.ev E x)).run cx.P w= .ok (.pointer (some ⟨w.heap.size,0,none⟩)) (w.alloc au)->ItR (w.alloc au) Z1 a6 a7 a8 a9 w.heap.size aa none->I5 cx.P all ⟨some d, .range T x,ty,pos,aft,g⟩ (kQ za w0 w (wrB (.range T x)) k) E w:=fun au a4 ba=>by
      have r:R8 w (w.alloc au):=R8.alloc w _;have W:=y.more (Z':=Z1) r (fun _=>id) (fun _=> .inl);have ae:=W.new (v:= .pointer (some ⟨w.heap.size,0,none⟩)) (lc:= .iter a6 a7 a8 a9 aa none) ⟨w.heap.size,C3 _ _ _, .inl ⟨y.nms.2,h.ext.size⟩,fun z=>absurd (y.zlt _ z) (xC _),ba⟩
       (fun k i f j=>by
        simp only[A9,root,rD]at f;have:=((y.locs k).root (y.ft r j)).2.1;omega)
       trivial rfl (fun i _ f=>by simp only[A9,root,rD]at f;have:=h.mrk.1;omega)
      have M:=ae.setS d (x:=one1 (.box (settleO st x).nx 0)) (v:= .pointer (some ⟨w.heap.size,0,none⟩)) ⟨_,[],rfl,⟨w.heap.size,C3 _ _ _,rfl⟩,rfl⟩ (fun c D=>by simp at D;subst D;exact rW _);exact V3 (fun _ _ _ _=>by simp[execOp,a4]) O ⟨fun _=>r,_,_,_,M,H⟩
     unfold B4v at a3;split at a3
     . split at a3
       . rename_i b8;subst b8;cases a3;rcases D with⟨e,Q⟩ | ⟨i,a2,V,e,f,F,ch,X⟩
         . simp only[sI,vN]at e;exact bf (.mapIter none 0 #[] 0) (by rw[e];exact run_range_nilMap (P:=cx.P) w T _ _ I) (.inl ⟨heap_alloc_new w _,Q,rfl⟩)
         . simp only[sI,vN]at e;have cg:=y.zlt i f;have bm:(getObj i).run cx.P w= .ok (.map a2 V) w:=by simp[getObj,Sem.run,F]
           have ac:O5 Z1 w (w.alloc (.mapIter (some i) V #[] V)):=fun q b=>(R8.alloc w _).block q (y.zlt q b)
           refine bf (.mapIter (some i) V #[] V) (by rw[e];exact run_range_map (P:=cx.P) w T _ _ i a2 V I F) (.inr ⟨i, #[],a2,V,heap_alloc_new w _,f,(ac i f).trans F,ch, ?_,fun x r=>by cases r⟩);have cf:leftOf a2 #[]=a2:=by simp[leftOf]
           rw[cf];exact Rr.mono (fun _=>id) ac X
       . cases a3
     . cases a3;have e:Gw.ev E x= .map none:=D.1;exact bf (.mapIter none 0 #[] 0) (by rw[e];exact run_range_nilMap (P:=cx.P) w T _ _ I) (.inl ⟨heap_alloc_new w _,rfl,rfl⟩)
     . cases a3
   . cases a
 . rename_i x;simp only[qH,bind_some]at a;obtain⟨c,⟨s,ap,aq⟩,a⟩:=a;split at a
   . rename_i q d1;split at a
     . rename_i a6 a7 a8 a9 left ai b;cases o:Nat.beq d1 0 with
       |false=>simp only[o,rF]at a;cases a
       |true=>
        simp only[o,qT]at a;cases a;have ab:=qE o;subst ab;obtain⟨i,A,an⟩:=(h.c1 (F8 E) (bind_some.2 ⟨s,ap,aq⟩)).1;have j:=h.locs q;rw[b]at j;obtain⟨d2,az,_,_,ba⟩:=j;rw[A]at az;cases az;rcases ba with⟨_,_,Q⟩ | ⟨m,seen,a2,V,ax,b7,b1,b2,b9,b4⟩
        . cases Q
        . obtain⟨e,X,⟨b6,ag⟩,G,a1⟩:=b4 ai rfl;subst ag;have a4:=run_entry_at (P:=cx.P) w i m V b6 a2 V e ax b1 X b2.2;refine V3 (v:= .tuple #[e.key,e.val]) (w':=w) (fun _ _ _ _=>by simp[execOp,an,a4]) O ⟨fun _=>R8.refl w,_,_,_,h.setS d (x:= .tup [⟨a6,explode a7 ai.1⟩,⟨a8,explode a9 ai.2⟩]) ⟨[e.key,e.val],rfl,_,_,rfl,Bj.explode G,_,_,rfl,Bj.explode a1,rfl⟩ (fun s a c D=> ?_),H⟩;simp only[qG,rZ,vJ]at a;rcases a with rfl|rfl<;>exact E2 c D
     . cases a
   . cases a
 . rename_i ak aw;split at a
   . rename_i x ai T sT af ar;obtain⟨ah,cp,a⟩:=qN.1 a;cases a;have c0:ak= #[x,ai]:=zX.1 af;have c3:aw= #[T,sT]:=zX.1 ar;subst c0 c3;obtain⟨v,w',B',a5,az⟩:=B0u (ty:=ty) (sT:=sT) h a0 cp;exact V3 a5 O ⟨fun F=>(by cases F),_,_,_,az,H⟩
   . cases a
 . cases a
end
def BK (off n:Nat) (cs a:List C):List C:=cs.take off++a++cs.drop (off+n)
def A3o (a:St) (k r:Nat) (lc:LC):St:=(((a.setL r .none).setL k .none).setL k lc).setL r (.al k)
def hoP (i:Nat):Option Nat->Option Prop
 |none=>none
 |some j=>some (i=j)
def attach (a:St) (k r i:Nat) (t:Ty) (e e':TypeId) (ls:List (List t.den)) (c:Option Nat):Option (Option Prop×St):=match a.L r with
 | .row d b l=>if h:d=t then(bif Nat.beq b e'&&Nat.ble a.nm r&&Nat.ble a.nm k&&Nat.blt k r then some (hoP i c,A3o a k r (.rows t e e' (ls.set i (h▸l)) [(i,r)] none))else none)else none
 | _=>none
def jZ (ti:TI) (a:St) (s:SV) (k sz i off:Nat):Option St:=match a.L k with
 | .row t e l=>bif s.cs.all Fu&&Nat.beq s.cs.length ti.ty.size&&Nat.beq sz t.size&&Nat.ble (off+ti.ty.size) t.size then
  (match Mz t (BK off ti.ty.size (explode t (l.getD i t.dflt)) s.cs)with
   |some (x,[])=>some (a.setL k (.row t e (l.set i x)))
   | _=>none)else none
 | .al j=>match a.L j with
  | .rows t e d c al none=>match QY k al with
   |some b=>bif s.cs.all Fu&&Nat.beq s.cs.length ti.ty.size&&Nat.beq sz t.size&&Nat.ble (off+ti.ty.size) t.size then
    (match Mz t (BK off ti.ty.size (explode t ((c.getD b []).getD i t.dflt)) s.cs)with
     |some (x,[])=>some (a.setL j (.rows t e d (c.set b ((c.getD b []).set i x)) al none))
     | _=>none)else none
   |none=>none
  | _=>none
 | _=>none
def ZE (cx:Cx) (a:St) (T:TypeId) (p v:Operand):Option (Option Prop×St):=do
 let ti<-cx.ti T
 let c<-(a.ev [] p).bind c1
 match c with
 | .box k c=>do
  let s<-a.ev [] v
  match a.L k with
  | .box T' b=>bif s.cs.all Fu&&Nat.beq s.cs.length ti.ty.size&&Nat.ble (c+ti.ty.size) b.length then some (none,a.setL k (.box T' (BK c ti.ty.size b s.cs)))else none
  | _=>none
 | .elp k sz i b=>match a.L k with
  | .rows t e c f _ d=>match a.ev [] v with
   |some ⟨false,[.row r]⟩=>bif Nat.beq sz 1&&Nat.beq b 0&&Nat.beq ti.ty.size 1 then attach a k r i t e c f d else none
   | _=>none
  | _=>do
   let s<-(settleO a v).ev [] v
   (jZ ti (settleO a v) s k sz i b).map fun c=>(none,c)
 | _=>none
def mapM (d:St) (c:Bool) (a:Ty) (g:Bool) (b:Ty) (k:Nat):Option (List (a.den×b.den)):=match d.L k with
 | .map d f h i j=>if l:Ty.mp d f h i=Ty.mp c a g b then some (l▸(show(Ty.mp d f h i).den from j):(Ty.mp c a g b).den)else none
 | _=>none
def XF (cx:Cx) (a:St) (d:Tmp) (T:TypeId) (m x:Operand):Option St:=none
def WI (a:St) (m s y:Operand):Option St:=none
def OW (cx:Cx) (a:St) (T:TypeId) (m x y:Operand):Option St:=do
 let ti<-cx.ti T
 let c<-((settleO a y).ev [] m).bind c1
 let i<-(settleO a y).ev [] x
 let j<-(settleO a y).ev [] y
 match ti.ty,c with
 | .mp c b d f, .mp k=>do
  let g<-mapM (settleO a y) c b d f k
  let h<-Ss c b i
  let v<-Ss d f j
  some ((settleO a y).setL k (.map c b d f (Fy b h v g)))
 | _,_=>none
section
variable {za:Zn} {w0 w w':World} {Z Z':Nat->Prop} {B:Nat->Value} {st st':St} {E:G2} {cx:Cx} {φ:Option Prop} {d:Tmp} {all:List Oper} {ty:TypeId} {pos:String} {aft:Array Edge} {g:Option (Nat×Bool)} {k:St->Prop}
def Dw.one (h:B7 za w0 st E w Z B):∀ {cs:List C} {vs:List Value},cs.all Fu=true->Dw w Z B cs vs->∀u∈vs,u.oneCell'=true
 | [],_,_,a=>by rw[show _= _ from a];exact Lv
 |c::cs,_,a,⟨v,f,e,b,d⟩=>by
  simp only[sY,qC]at a;rw[e];exact My (RC.one h a.1 b) (Dw.one h a.2 d)
def fE {off n:Nat} {cs a:List C} {vs us:List Value} (h:Dw w Z B cs vs) (b:Dw w Z B a us) (c:a.length=n):Dw w Z B (BK off n cs a) (vs.take off++us++vs.drop (off+us.length)):=by
 have:us.length=n:=by rw[<-c,b.len]
 rw[this];exact((h.take off).append b).append (h.drop (off+n))
def oR {b:Type} {cur us:List b} {n a sz off m:Nat} (c:us.length=m) (d:a+sz<=n) (f:n<=cur.length) (g:off+m<=sz):
 (cur.take (a+off)++us++cur.drop (a+off+m)).take n=(cur.take n).take a++((((cur.take n).drop a).take sz).take off++us++(((cur.take n).drop a).take sz).drop (off+m))++(cur.take n).drop (a+sz):=by
 have b:(cur.take n).take a=cur.take a:=by rw[g0y,sX (by omega)]
 have d:((cur.take n).drop a).take sz=(cur.drop a).take sz:=by rw[g0w,g0y,sX (by omega)]
 have f:((cur.drop a).take sz).take off=(cur.drop a).take off:=by rw[g0y,sX (by omega)]
 have g:((cur.drop a).take sz).drop (off+m)=(cur.drop (a+off+m)).take (sz-(off+m)):=by rw[g0w,vT,uN]
 have h:(cur.take n).drop (a+sz)=(cur.drop (a+sz)).take (n-(a+sz)):=by rw[g0w]
 have i:cur.take a++(cur.drop a).take off=cur.take (a+off):=by rw[List.take_add]
 have j:(cur.drop (a+off+m)).take (sz-(off+m))++(cur.drop (a+sz)).take (n-(a+sz))=(cur.drop (a+off+m)).take (n-(a+off+m)):=by
  have:n-(a+off+m)=(sz-(off+m))+(n-(a+sz)):=by omega
  rw[this,List.take_add,vT];congr 3;omega
 rw[b,d,f,g,h];have b:(cur.take (a+off)).length=a+off:=by rw[qU];omega
 rw[zZ,qW (by rw[rL,b,c];omega),rL,b,c, <-j, <-i];simp only[uE]
def frE (k0 k:Nat) (a b:LC):Bool:=match a with
 | .rows _ _ _ _ _ _=>Nat.ble k0 k
 | _=>match b with
  | .al j=>Nat.ble k0 j
  | _=>Nat.ble k0 k
def frO (k0:Nat) (st:St):Op->Bool
 | .store _ p v=>match(st.ev [] p).bind c1 with
  |some (.box k _)=>Nat.ble k0 k
  |some (.elp k _ _ _)=>frE k0 k (st.L k) ((settleO st v).L k)
  | _=>false
 | _=>false
def DO {B0 b:Nat} (a:aS b w w') (c:B0<=b):Below B0 w w'/\True:=⟨⟨a.1,a.2.1,a.2.2.1.1,by rw[a.2.2.2.1];exact qZ _,fun k c=>a.2.2.2.2 k (by omega)⟩,trivial⟩
def V5 {b:Type} {c:Bool} {a:Option b} {x:b} (h:(bif c then a else none)=some x):c=true/\a=some x:=by
 cases c with
 |true=>exact⟨rfl,h⟩
 |false=>cases h
def C1u {k0 sz i off q:Nat} {T:TypeId} {p v:Operand} (a:frO k0 st (.store T p v)=true) (b:(st.ev [] p).bind c1=some (.elp q sz i off)) (d:(match(settleO st v).L q with| .al _=>false| _=>true)=true):k0<=q:=by
 simp only[frO,b]at a;generalize st.L q=b at*;generalize (settleO st v).L q=c at*;unfold frE at a;cases b<;>cases c<;>simp at d a<;>exact a
def C1t {k0 sz i off q j:Nat} {T:TypeId} {p v:Operand} (a:frO k0 st (.store T p v)=true) (f:(st.ev [] p).bind c1=some (.elp q sz i off)) (d:∀t e e' ls al c,st.L q= .rows t e e' ls al c->False) (b:(settleO st v).L q= .al j):k0<=j:=by
 simp only[frO,f,b]at a;cases b:st.L q with
 |rows t e e' ls al c=>exact(d _ _ _ _ _ _ b).elim
 | _=>simp[b,frE]at a;exact a
def cV {v:Value} (h:v.oneCell'=true):v.cells.toList= [v]:=by
 have:v.cells= #[v]:=by cases v<;>simp[Value.cells,Value.oneCell']at h⊢
 rw[this]
def eW {P:Program} (j:B7 za w0 st E w Z B) {T e:TypeId} {p v:Operand} {t:Ty} {l:List t.den} {xs:List Value} {b m d i off n:Nat} {s:SV} {x:t.den} (X:Tu P T n=true) (y:w.ownsRow 0 e t.size (.slice (some ⟨b,0,none⟩) m d) l.length xs) (u:G1 (C5 t w Z) xs l) (W:¬Z b) (f:i<m) (a0:Gw.ev E p= .pointer (some ⟨b,i*t.size+off,none⟩))
 (o:Dw w Z B s.cs (Gw.ev E v).cells.toList) (V:s.cs.all Fu=true) (F:s.cs.length=n) (N:off+n<=t.size) (I:Mz t (BK off n (explode t (l.getD i t.dflt)) s.cs)=some (x,[])):
 ∃w',Gw.QO P E ty (.store T p v) w w'/\aS b w w'/\∃a,w'.ownsRow 0 e t.size (.slice (some ⟨b,0,none⟩) m d) (l.set i x).length a/\G1 (C5 t w' Z) a (l.set i x):=by
 have c:(Gw.ev E v).cells.toList.length=n:=by rw[<-F,o.len]
 rcases y.2 with⟨a,_⟩ | ⟨A,H,g,a,J,D,G,M,r,Y⟩
 . cases a
 . cases a;have y:=G1.length (R:=C5 t w Z) (s:=t.size) (fun _ _ h=>C5.length h) u;have O:=G1.get (R:=C5 t w Z) (s:=t.size) (fun _ _ h=>C5.length h) u (qP f);have y:l.getD i t.dflt=l[i]:=by rw[qF,qP f];rfl
   rw[y]at I;have Q:i*t.size+t.size<=l.length*t.size:=by rw[<-uR];exact rM _ f
   have U:l.length*t.size<=d*t.size:=rM _ G;generalize A:(Gw.ev E v).cells.toList=y at*;have H:=UK (P:=P) (ty:=ty) (w:=w) y a0 rfl A X c D (by rw[c,r];omega) (Dw.one j V o);generalize A:(g.toList.take (i*t.size+off)++y++g.toList.drop (i*t.size+off+y.length)).toArray=j at H;have y:aS b w (w.setRow b j):=⟨rfl,rfl,⟨rfl,qZ _⟩,by simp,fun k hk=>setRow_other w b k _ hk⟩;have X:O5 Z w (w.setRow b j):=fun z hz=>y.2.2.2.2 z (fun a=>W (a▸hz))
   have V:=Hg (fE (off:=off) (T9 (B:=B) O) o F) I;have a:=G1.set (R:=C5 t w Z) (s:=t.size) (fun _ _ h=>C5.length h) u V f;refine⟨_,H,y,_, ?_,a.mono fun _ _=>C5.mono (fun _=>id) X⟩;rw[qM];have f:=G1.length (R:=C5 t w Z) (s:=t.size) (fun _ _ h=>C5.length h) a;refine⟨by rw[f,qM], .inr ⟨b,d,j,rfl,J,setRow_heap w b g _ e _ D,G,M, ?_, ?_⟩⟩
   . rw[<-A];simp only[zU,rL,qU,sL,sR,r,c];omega
   . rw[<-A];simp only[g0o];rw[c, <-Y];exact oR c Q (by simpa[r]using U) N
def B7.attach (h:B7 za w0 st E w Z B) {k r i g:Nat} {t:Ty} {e e':TypeId} {ls:List (List t.den)} {al:List (Nat×Nat)} {o:Option Nat} {l:List t.den} {xs:List Value} (u:st.L k= .rows t e e' ls al o) (c:st.L r= .row t e' l) (H:k≠r) (T:st.nm<=k) (a:st.nm<=r) (a0:i<ls.length) (G:∀j,o=some j->i=j)
 (f:w.ownsRow 0 e 1 (B k) ls.length xs) (I:root (B k)=some g) (s:aS g w w') (J:w'.ownsRow 0 e 1 (B k) ls.length (xs.set i (B r))) (a2:za.k0<=k->∀b,root (B r)=some b->za.b0<=b):B7 za w0 (A3o st k r (.rows t e e' (ls.set i l) [(i,r)] none)) E w' Z B:=by
 have a:=h.locs k;have d:=h.locs r;rw[u]at a;rw[c]at d;obtain⟨x,A,⟨n,R,X⟩,P,v⟩:=a;have a:=AZ f A;subst a;obtain⟨a6,V,a5,a⟩:=d;have D:A9 w (B k) (st.L k) g:=by rw[u];exact .inl I
 have y:¬Z g:=((h.locs k).root D).2.2;have Q:O5 Z w w':=fun n hc'=>s.2.2.2.2 n (fun e=>y (e▸hc'))
 have z:∀b,root (B r)=some b->A9 w (B r) (st.L r) b:=fun b a=>by rw[c];exact a
 have a4:root (B r)≠some g:=fun a=>h.disj k r g H D (z g a)
 have a1:k<st.nx:=Ft h (by rw[u];trivial);have U:r<st.nx:=Ft h (by rw[c];trivial);have c:xs.length=ls.length:=by have:=A.1;omega
 have M:∀b,A9 w' (B k) (.rows t e e' (ls.set i l) [(i,r)] none) b->root (B r)=some b\/A9 w (B k) (st.L k) b:=fun b a=>by
  rcases a with a| ⟨O,Y,c,f,v,j,x,F,N,W,_,d,a⟩
  . exact .inr (by rw[u];exact .inl a)
  . have f:(xs.set i (B r))[j]? =some x:=by
     rcases J.2 with⟨c,_⟩ | ⟨a3,W,Y,c,_,v,a7,_,a8,O⟩
     . rw[F]at c;cases c
     . rw[F]at c;cases c;rw[N]at v;cases v;rw[<-O,rT (by omega)];simpa using d
    by_cases c:i=j
    . subst c;rw[tB (by omega)]at f;cases f;exact .inl a
    . rw[tF c]at f;refine .inr ?_;rw[u];have v:Ko o j=false:=by
       cases o with
       |none=>rfl
       |some q=>have:=G q rfl;subst this;exact D1 c
      exact AH A v f a
 have f:=(h.drop r).drop k;have O:B7 za w0 ((st.setL r .none).setL k .none) E w' Z B:=by
  refine f.keep (h.ext.chg s ((h.locs k).root D).1.m) (by rw[s.2.2.2.1];exact qZ _) (fun q f=>s.2.2.2.2 q ?_) (fun _=>id) (fun _=> .inl);rintro rfl;rcases f with f| ⟨j,f⟩
  . exact y f
  . rw[St.L_setL]at f;split at f
    . exact f.elim
    . rename_i v;rw[St.L_setL]at f;split at f
      . exact f.elim
      . exact h.disj j k q v f D
 have Y:∀b,(root (B r)=some b\/A9 w (B k) (st.L k) b)->up za w0 k b/\¬Z b/\b<w.heap.size:=fun b a=>by
  rcases a with a|a
  . obtain⟨f,v,y⟩:=(h.locs r).root (z b a);refine⟨?_,y,v⟩;rcases f with f|f
    . exact .inl ⟨by rw[<-h.nms.1];exact T,f.2⟩
    . have:=h.nms.1;omega
  . obtain⟨f,v,y⟩:=(h.locs k).root a;exact⟨f,y,v⟩
 have a3:∀(j:Nat) (v:List t.den) (x:Value),i≠j->ls[j]? =some v->xs[j]? =some x->Ko o j=false/\∃f,w'.ownsRow 0 e' t.size x v.length f/\G1 (C5 t w' Z) f v:=fun j v x c y d=>by
  have F:Ko o j=false:=by
   cases o with
   |none=>rfl
   |some q=>have:=G q rfl;subst this;exact D1 c
  obtain⟨f,N,T⟩:=R j v x F y d;refine⟨F,f,Hf N (fun n R=>s.2.2.2.2 n ?_),T.mono fun _ _=>C5.mono (fun _=>id) Q⟩;rintro rfl;exact P j x n F d ((F5 N).trans R) I
 have F:∀(j:Nat) (x:Value),i≠j->(xs.set i (B r))[j]? =some x->xs[j]? =some x/\Ko o j=false:=fun j x c d=>by
  rw[tF c]at d;refine⟨d, ?_⟩;cases o with
  |none=>rfl
  |some q=>have:=G q rfl;subst this;exact D1 c
 have o:(xs.set i (B r))[i]? =some (B r):=tB (by omega);have W:B7 za w0 (((st.setL r .none).setL k .none).setL k (.rows t e e' (ls.set i l) [(i,r)] none)) E w' Z B:=by
  refine O.addL a1 ⟨_,by rw[qM];exact J,⟨fun p G=> ?_,fun j v x _ y d=> ?_,fun j J x O b R _ _ d I a f=> ?_⟩,fun j x b _ d a=> ?_,fun b a=> ?_⟩ (fun j b N a f=> ?_) (fun p G=> ?_) (fun b T a=> ?_)
  . simp only[qO]at G;subst G;exact o
  . by_cases c:i=j
    . subst c;rw[tB a0]at y;rw[o]at d;cases y;cases d;exact⟨a6,Hf V (fun n a0=>s.2.2.2.2 n (fun e=>a4 (e▸(F5 V).trans a0))),a5.mono fun _ _=>C5.mono (fun _=>id) Q⟩
    . rw[tF c]at y;exact(a3 j v x c y (F j x c d).1).2
  . by_cases c:i=j
    . subst c;rw[o]at d;cases d;have:=F J O R I;exact h.disj k r b H (by rw[u];exact AH A this.2 this.1 f) (z b a)
    . have v:=F j x c d;by_cases Q:i=J
      . subst Q;rw[o]at I;cases I;exact h.disj k r b H (by rw[u];exact AH A v.2 v.1 a) (z b f)
      . have y:=F J O Q I;exact X j J x O b R v.2 y.2 v.1 y.1 a f
  . by_cases c:i=j
    . subst c;rw[o]at d;cases d;exact fun f=>h.disj k r b H (by rw[u];exact .inl f) (z b a)
    . have:=F j x c d;exact P j x b this.2 this.1 a
  . obtain⟨c,d,o⟩:=Y b (M b a);exact⟨c,d,by rw[s.2.2.2.1];exact o⟩
  . rw[St.L_setL,qK N,St.L_setL]at f;split at f
    . exact f.elim
    . rename_i d;have c:A9 w (B j) (st.L j) b:=(A9.iff fun n hcf=>s.2.2.2.2 n (fun e=>h.disj j k n N hcf (e▸D))).1 f;rcases M b a with a|a
      . exact h.disj j r b d c (z b a)
      . exact h.disj j k b N c a
  . simp only[qO]at G;subst G;exact U
  . rcases M b a with a|a
    . exact a2 T b a
    . exact h.mrk.2 k b T a
 exact W.addL U trivial (fun _ _ _ a=>a.elim) trivial (fun _ _ a=>a.elim)
def fF (h:B7 za w0 st E w Z B) (c:H5 cx.P cx.tys=true) {T:TypeId} {p v:Operand} (a:ZE cx st T p v=some (φ,st')) (an:RH φ) (A:k st') (M:E5 all ⟨none, .store T p v,ty,pos,aft,g⟩ E=true):I5 cx.P all ⟨none, .store T p v,ty,pos,aft,g⟩ (fun E' w'=>(frO za.k0 st (.store T p v)=true->Below za.b0 w w'/\True)/\Nx za w0 k E' w') E w:=by
 simp only[ZE,qH,bind_some]at a;obtain⟨ti,b,F,⟨W,R,Q⟩,a⟩:=a;have a2:=(O4 (B9 c b)).1;have s:=h.c1 (F8 E) (bind_some.2 ⟨W,R,Q⟩);split at a
 . rename_i q u;simp only[bind_some]at a;obtain⟨V,a6,a⟩:=a;split at a
   . rename_i T' t j;cases b:V.cs.all Fu&&Nat.beq V.cs.length ti.ty.size&&Nat.ble (u+ti.ty.size) t.length with
     |false=>simp only[b,rF]at a;cases a
     |true=>
      simp only[b,qT]at a;cases a;simp only[qC]at b;have N:=qE b.1.2;have a0:=qS b.2;obtain⟨i,X⟩:=h.ev (F8 E) a6;have H:=RS.cells h i b.1.1;have r:=h.locs q;have x:=h.refl q;rw[j]at r x;obtain⟨c,l,e,Y,I,y,U⟩:=r;obtain⟨f,G,O⟩:=s.1;rw[e]at G;cases G;have f:(Gw.ev E v).cells.toList.length=ti.ty.size:=by rw[<-N,H.len]
      have D:=UK (P:=cx.P) (ty:=ty) (w:=w) (Gw.ev E v).cells.toList O rfl rfl a2 f y (by rw[f];have:=U.len;simp at this;omega) (Dw.one h b.1.1 H);have o:aS c w (w.setRow c (l.toList.take u++(Gw.ev E v).cells.toList++l.toList.drop (u+(Gw.ev E v).cells.toList.length)).toArray):=⟨rfl,rfl,⟨rfl,qZ _⟩,by simp,fun k A=>setRow_other w c k _ A⟩;have z:root (B q)=some c:=by rw[e];rfl
      have a1:O5 Z w (w.setRow c (l.toList.take u++(Gw.ev E v).cells.toList++l.toList.drop (u+(Gw.ev E v).cells.toList.length)).toArray):=fun a7 a3=>o.2.2.2.2 a7 (fun f=>I (f▸a3))
      have J:∀F∈BK u ti.ty.size t V.cs,Cr st.nx F:=fun F s=>by
       simp only[BK,qY]at s;rcases s with(s|s) |s
       . exact x F (rY s)
       . exact X F s
       . exact x F (vG s)
      refine BM D M ⟨fun f=>DO o (h.mrk.2 q c (by simp only[frO,show(st.ev [] p).bind c1=some _ from bind_some.2 ⟨W,R,Q⟩]at f;exact qS f) (by rw[j];exact z)),_,_,_,h.chg (by rw[j];trivial) (by rw[j];exact z) o (lc:= .box T' (BK u ti.ty.size t V.cs)) ⟨c,_,e,Y,I,setRow_heap w c l _ T' _ y, ?_⟩ J (fun _ f=> .inl f),A⟩;exact Dw.mono (n:=st.nx) (fun _=>id) a1 (fun _ _=>rfl) J (by simpa using fE U H N)
   . cases a
 . rename_i q sz t u;split at a
   . rename_i X e G U al ab j;split at a
     . rename_i l y;cases b:Nat.beq sz 1&&Nat.beq u 0&&Nat.beq ti.ty.size 1 with
       |false=>simp only[b,rF]at a;cases a
       |true=>
        simp only[b,qT]at a;simp only[qC]at b;have u:=qE b.1.1;have x:=qE b.1.2;have a9:=qE b.2;subst u x;unfold Vc.attach at a;split at a
        . rename_i x u ad ac;split at a
          . rename_i x;subst x;cases I:Nat.beq u G&&Nat.ble st.nm l&&Nat.ble st.nm q&&Nat.blt q l with
            |false=>simp only[I,rF]at a;cases a
            |true=>
             simp only[I,qT]at a;cases a;simp only[qC]at I;have u:=qE I.1.1.1;subst u;have ak:q<l:=qS I.2;obtain⟨Y,af⟩:=h.ev (F8 E) y;obtain⟨ao,J,u,x,y⟩:=Y;cases u;have J:Gw.ev E v=B l:=x;have r:=h.locs q;rw[j]at r;obtain⟨ae,i,_⟩:=r;obtain⟨c,m,a4,x,a1,O⟩:=s.1;have y:m=U.length:=by
              rw[x]at i;rcases i.2 with⟨f,_⟩ | ⟨_,_,_,f,_⟩<;>cases f
              rfl
             subst y;have a8:(B l).oneCell'=true:=h.bone l;have ah:(Gw.ev E v).cells.toList= [B l]:=by rw[J];exact cV a8
             have y:=i;rw[x]at y;rcases y.2 with⟨f,_⟩ | ⟨ap,aq,J,f,ag,aa,aj,ai,a5,am⟩
             . cases f
             . cases f;have D:=UK (P:=cx.P) (ty:=ty) (w:=w) [B l] O rfl ah a2 (by rw[a9];rfl) aa (by rw[a5];simp;omega) (fun ao u=>by simp at u;subst u;exact a8);generalize a9:(J.toList.take (t*1+0)++ [B l]++J.toList.drop (t*1+0+ [B l].length)).toArray=a8 at D;have o:aS c w (w.setRow c a8):=⟨rfl,rfl,⟨rfl,qZ _⟩,by simp,fun k A=>setRow_other w c k _ A⟩;have z:root (B q)=some c:=by rw[x];rfl
               have ah:A9 w (B q) (st.L q) c:=by rw[j];exact .inl z
               refine BM D M ⟨fun f=>DO o (h.mrk.2 q c (by simp only[frO,show(st.ev [] p).bind c1=some _ from bind_some.2 ⟨W,R,Q⟩,j,frE]at f;exact qS f) ah),_,_,_,h.attach j ac (tT ak) (qS I.1.2) (qS I.1.1.2) a1 (fun u y=> ?_) i z o ?_ ?_,A⟩
               . subst y;exact an
               . rw[x];refine⟨by rw[qM];exact i.1, .inr ⟨c,a4,a8,rfl,ag,setRow_heap w c J _ e _ aa,aj,ai, ?_, ?_⟩⟩
                 . rw[<-a9];simp only[zU,rL,qU,sL,sR,a5,rE,xL];omega
                 . rw[<-a9, <-am];simp only[g0o];apply vO;intro u;have I:J.toList.length=a4*1:=by rw[sR,a5]
                   simp only[yW,tC,rE,xL,sF];by_cases y:u<U.length
                   . rw[rT y];by_cases I:t=u
                     . subst I;rw[tB (by rw[qU];omega),uE,tX (by rw[qU];omega),qU];rw[show t-min t J.toList.length=0 from by omega];rfl
                     . rw[tF I,rT y,uE];by_cases I:u<t
                       . rw[uO (by rw[qU];omega),rT I]
                       . rw[tX (by rw[qU];omega),qU,show min t J.toList.length=t from by omega];obtain⟨d,b⟩:∃d,u-t=d+1:=⟨u-t-1,by omega⟩;rw[b];simp only[wK,vK,uM,xE];rw[show t+1+d=u from by omega]
                   . rw[rR (by rw[qU];omega),rR (by rw[qM,qU];omega)]
               . exact fun a5 I J=>h.mrk.2 l I (by omega) (by rw[ac];exact J)
          . cases a
        . cases a
     . cases a
   . rename_i a5;simp only[bind_some,qN]at a;obtain⟨V,a6,I,l,a⟩:=a;cases a;obtain⟨Z1,i⟩:=h.settleO v;have I:=fun X e G U al ab=>a5 X e G U al ab
     obtain⟨Y,af⟩:=i.ev (F8 E) a6;obtain⟨c,m,a4,x,a1,O⟩:=s.1;have z:root (B q)=some c:=by rw[x];rfl
     unfold jZ at l;split at l
     . rename_i X e ad j;obtain⟨b,l⟩:=V5 l;simp only[qC]at b;split at l
       . rename_i a8 a4;cases l;have N:=qE b.1.1.2;have V:=qE b.1.2;have a0:=qS b.2;subst V;have H:=RS.cells i Y b.1.1.1;have r:=i.locs q;rw[j]at r;obtain⟨ae,a6,a9,I⟩:=r;rw[x]at a6 I;obtain⟨w',D,o,aa,J,s⟩:=eW (P:=cx.P) (ty:=ty) i a2 a6 a9 (I c rfl).2 a1 O H b.1.1.1 N a0 a4;refine BM D M ⟨fun f=>DO o ?_,_,_,_,i.chg (by rw[j];trivial) (by rw[j];exact z) o (lc:= .row X e (ad.set t a8)) ⟨_,by rw[x];exact J,s,fun a7 a3=>by rw[x]at a3;exact I a7 a3⟩ trivial (fun _ f=> .inl f),A⟩;exact i.mrk.2 q c (C1u f (bind_some.2 ⟨W,R,Q⟩) (by rw[j])) (by rw[j];exact z)
       . cases l
     . rename_i u j;split at l
       . rename_i X e G U al y;split at l
         . rename_i G t;obtain⟨b,l⟩:=V5 l;simp only[qC]at b;split at l
           . rename_i a8 a4;cases l;have N:=qE b.1.1.2;have V:=qE b.1.2;have a0:=qS b.2;subst V;have H:=RS.cells i Y b.1.1.1;have r:=i.locs u;rw[y]at r;obtain⟨ae,X,G,U,V,I,Y⟩:=A5j r t;have G:¬Z1 c:=by
              obtain⟨a8,X,⟨U,a3,a6⟩,a7,V⟩:=r;exact(V c (AH X rfl (U _ (Sf t)) z)).2.1
             rw[x]at I;obtain⟨w',D,o,aa,J,s⟩:=eW (P:=cx.P) (ty:=ty) i a2 I Y G a1 O H b.1.1.1 N a0 a4;have b:=B4o r (Sf t) z o G (by rw[x];exact J) s;refine BM D M ⟨fun f=>DO o ?_,_,_,_,i.chg (k:=u) (by rw[y];trivial) (by rw[y];exact b.2.1) o b.1 (by have:=i.refl u;rw[y]at this;exact this) (fun F r=> .inr (by rw[y];exact(Aa fun g M=>o.2.2.2.2 g (fun e=>b.2.2 (e▸M))).1 r)),A⟩;exact i.mrk.2 u c (C1t f (bind_some.2 ⟨W,R,Q⟩) a5 j) (by rw[y];exact b.2.1)
           . cases l
         . cases l
       . cases l
     . cases l
 . cases a
def oK:∀(v:Value) (n:Nat),(∃k a,v= .int k a)\/(∃b,v= .bool b)->Instr.sameBits n v v=true:=by
 rintro v n (⟨k,a,rfl⟩ | ⟨b,rfl⟩)
 . cases n<;>simp[Instr.sameBits]
 . cases n<;>simp[Instr.sameBits]
def Vt:∀ {t:Ty} {cs:List Value} {x:t.den},Hh t=true->C5 t w Z cs x->∀v∈cs,(∃k a,v= .int k a)\/(∃b,v= .bool b)
 | .int k,_,x,_,h=>by rw[h.1];intro v c;simp at c;exact .inl ⟨_,_,c⟩
 | .bool,_,x,_,h=>by rw[show _= _ from h];intro v c;simp at c;exact .inr ⟨_,c⟩
 | .unit,_,_,_,h=>by rw[show _= _ from h];intro v c;cases c
 | .pair a b,_,_,d,⟨c1,c,e,f,g⟩=>by
  simp only[Hh,qC]at d;rw[e];intro v c;rcases qY.1 c with c|c
  . exact Vt d.1 f v c
  . exact Vt d.2 g v c
 | .str,_,_,h,_=>by cases h
 | .sl _,_,_,h,_=>by cases h
 | .ptr _,_,_,h,_=>by cases h
 | .mp _ _ _ _,_,_,h,_=>by cases h
def oL:∀(cs:List Value) (n:Nat),(∀v∈cs,(∃k a,v= .int k a)\/(∃b,v= .bool b))->(cs.zip cs).all (fun x=>Instr.sameBits n x.1 x.2)=true
 | [],_,_=>rfl
 |c::cs,n,h=>by
  simp only[List.zip_cons_cons,sY,qC];exact⟨oK c n (h c (by simp)),oL cs n (fun v d=>h v (by simp[d]))⟩
def B2k {a:Bool} {t:Ty} {v:Value} {x:t.den} (b:Hh t=true) (h:T6 (C5 t w Z) a v x):Instr.sameBits 10000 v v=true:=by
 cases a with
 |true=>
  obtain⟨cs,e,h⟩:=h;subst e;have:=oL cs 9999 (Vt b h);simp only[Instr.sameBits,beq_self_eq_true,g0e];exact this
 |false=>exact oK v 10000 (Vt (cs:= [v]) b h v (by simp))
def B2l {a:Bool} {t:Ty} {v c:Value} {x:t.den} (d:Hh t=true) (h:T6 (C5 t w Z) a v x) (b:T6 (C5 t w Z) a c x):v=c:=by
 cases a with
 |true=>
  obtain⟨cs,e,h⟩:=h;obtain⟨cs',f,b⟩:=b;rw[e,f,Pq d h b]
 |false=>
  have:=Pq (cs:= [v]) (cs':= [c]) d h b;simpa using this
def mG {a:Ty} {d:Type} {Rk:Value->a.den->Prop} {Rv:Value->d->Prop} {k:a.den} {v:d} {kv vv:Value} {cl:Nat} (b:Rk kv k) (g:Rv vv v):∀ {l:List (a.den×d)} {es:List MapEntry} {i:Nat},R7 Rk Rv es l->
 (N5 a k l i=none->R7 Rk Rv (es++ [{key:=kv,val:=vv,born:=cl}]) (Fy a k v l))/\(∀j,N5 a k l i=some (i+j)->R7 Rk Rv (es.modify j fun e=> {e with key:=kv,val:=vv}) (Fy a k v l))
 | [],es,i,h=>by
  rw[show es= []from h];exact⟨fun _=>⟨_,[],rfl,b,g,rfl⟩,fun j c=>by cases c⟩
 |x::l,_,i,⟨e,f,c,h,n,o⟩=>by
  subst c;simp only[N5,Fy];cases f:GY a k x.1 with
  |true=>
   refine⟨fun c=>by simp at c,fun j r=> ?_⟩;simp only[qT,rD]at r;have:j=0:=by omega
   subst this;exact⟨_,_,rfl,b,g,o⟩
  |false=>
   simp only[rF];have c:=mG (cl:=cl) b g (i:=i+1) o;refine⟨fun b=>⟨e,_,rfl,h,n,c.1 b⟩,fun j g=> ?_⟩;cases j with
   |zero=>
    exfalso;have:∀(l:List (a.den×d)) (i j:Nat),N5 a k l i=some j->i<=j:=by
     intro l
     induction l with
     |nil=>intro i j b;cases b
     |cons y l c=>
      intro i j b;unfold N5 at b;cases f:GY a k y.1 with
      |true=>simp[f]at b;omega
      |false=>simp[f]at b;have:=c _ _ b;omega
    have:=this _ _ _ g;omega
   |succ j=>exact⟨e,_,rfl,h,n,c.2 j (by rw[g];congr 1;omega)⟩
def Kq (f:MapEntry->MapEntry) (a:∀e,(f e).born=e.born):∀(l:List MapEntry) (j:Nat),(l.modify j f).map (·.born)=l.map (·.born)
 | [],j=>by cases j<;>rfl
 |x::l,0=>by simp[a]
 |x::l,j+1=>by simp[Kq f a l j]
def eC (h:B7 za w0 st E w Z B) (z:H5 cx.P cx.tys=true) {T:TypeId} {m x y:Operand} (d:OW cx st T m x y=some st'):
 ∃w',Gw.QO cx.P E ty (.mapUpdate T m x y) w w'/\Gw.QO cx.P E ty (.insert T m x y) w w'/\∃Z' B',B7 za w0 st' E w' Z' B':=by
 simp only[OW,qH,bind_some]at d;obtain⟨ti,v,a,⟨H,n,c⟩,b,F,f,r,d⟩:=d;obtain⟨Z1,l⟩:=h.settleO y;split at d
 . rename_i s f t u k b;simp only[bind_some]at d;obtain⟨j,a,key,g,G,D,d⟩:=d;cases d;obtain⟨U,A,_,_⟩:=Wj (B9 z v) b;have I:=l.c1 (F8 E) (bind_some.2 ⟨H,n,c⟩);have n:=Eu (l.ev (F8 E) F).1 g;have Y:=Eu (l.ev (F8 E) r).1 D;have D:=II A;have N:live ((settleO st y).L k):=by
    simp only[mapM]at a;cases g:(settleO st y).L k<;>rw[g]at a<;>simp at a<;>trivial
   have H:∃b c cl,B k= .map (some b)/\up za w0 k b/\¬Z1 b/\w.heap[b]? =some (.map c cl)/\MOk c cl/\Rr w Z1 s f t u c.toList j:=by
    simp only[mapM]at a;have:=l.locs k;cases g:(settleO st y).L k with
    |map v z J M r=>
     rw[g]at a this;simp only at a;split at a
     . rename_i r;cases r;cases a;exact this
     . cases a
    | _=>rw[g]at a;simp at a
   obtain⟨b,c,cl,a,X,Q,v,r,z⟩:=H;have O:Gw.ev E m= .map (some b):=(show Gw.ev E m=B k from I.1).trans a;have V:b<w.heap.size:=(rV.1 v).1;have I:=fun em=>Sd A n w em
   have J:=AI A n w z;have M:(getObj b).run cx.P w= .ok (.map c cl) w:=by simp[getObj,Sem.run,v]
   have R:∀o,(setObj b o).run cx.P w= .ok () {w with heap:=w.heap.setIfInBounds b o} :=fun o=>by simp[setObj,Sem.run,v]
   have H:∀o,aS b w {w with heap:=w.heap.setIfInBounds b o} :=fun o=>⟨rfl,rfl,⟨rfl,qZ _⟩,by simp,fun q g=>by simp[tA,Ne.symm g]⟩
   have W:∀o,({w with heap:=w.heap.setIfInBounds b o} :World).heap[b]? =some o:=fun o=>by simp[tA,V]
   have fin:∀ents' cl',MOk ents' cl'->Rr w Z1 s f t u ents'.toList (Fy f key G j)->∃Z' B',B7 za w0 ((settleO st y).setL k (.map s f t u (Fy f key G j))) E {w with heap:=w.heap.setIfInBounds b (.map ents' cl')} Z' B':=fun ents' cl' hmo' he'=>by
    have V:O5 Z1 w {w with heap:=w.heap.setIfInBounds b (.map ents' cl')} :=fun A v=>(H _).2.2.2.2 A (fun g=>Q (g▸v))
    exact⟨Z1,B,l.chg N (A9.of N (by rw[a];rfl)) (H _) (lc:= .map s f t u (Fy f key G j)) ⟨b,ents',cl',a,X,Q,W _,hmo',he'.mono (fun _=>id) V⟩ trivial (fun _ g=> .inl g)⟩
   have G:=mG (cl:=cl) (kv:=Gw.ev E x) (vv:=Gw.ev E y) n Y (i:=0) z;rcases EB (k:=key) (i:=0) z with⟨g,_⟩ | ⟨s,H,Q,g,t,a,l,u,N⟩
   . have l:(Instr.mapUpdate T (Gw.ev E m) (Gw.ev E x) (Gw.ev E y)).run cx.P w= .ok () {w with heap:=w.heap.setIfInBounds b (.map (c.push {key:=Gw.ev E x,val:=Gw.ev E y,born:=cl}) (cl+1))} :=by
      unfold Instr.mapUpdate;simp only[Sem.run_bind,run_underlying U,Result.andThen_ok,O,M,I,J,g,g1w,R]
     refine⟨_,fun _ _ _ _=> ?_,fun _ _ _ _=> ?_,fin _ (cl+1) ⟨fun x a=> ?_, ?_⟩ (by rw[g1g];exact G.1 g)⟩
     . simp[execOp,l]
     . simp[execOp,l]
     . rw[g1g,qY]at a;rcases a with a|a
       . have:=r.1 x a;omega
       . simp at a;subst a;exact rW _
     . rw[g1g,uF,sW];refine⟨r.2,by simp,fun V z b Q=> ?_⟩;simp at Q;obtain⟨x,a,rfl⟩:=sQ.1 z;have:=r.1 x a;omega
   . have z:=(TZ D).1 N;rw[<-z]at u;have F:=B2l D u n;have u:c[s]? =some H:=by simpa using t
     have z:=B2k D n;have l:(Instr.mapUpdate T (Gw.ev E m) (Gw.ev E x) (Gw.ev E y)).run cx.P w= .ok () {w with heap:=w.heap.setIfInBounds b (.map (c.modify s fun e=> {e with key:=Gw.ev E x,val:=Gw.ev E y}) cl)} :=by
      have b:N5 f key j 0=some s:=by rw[g,sF]
      unfold Instr.mapUpdate;simp only[Sem.run_bind,run_underlying U,Result.andThen_ok,O,M,I,J,b,vY,t,vW,u,vC,F];simp[Instr.keyThatStays,z,R]
     refine⟨_,fun _ _ _ _=> ?_,fun _ _ _ _=> ?_,fin _ cl ⟨fun A a=> ?_, ?_⟩ (by rw[g0l];exact G.2 s g)⟩
     . simp[execOp,l]
     . simp[execOp,l]
     . rw[g0l]at a;have:A.born∈(c.toList.modify s fun e=> {e with key:=Gw.ev E x,val:=Gw.ev E y}).map (·.born):=vE a;rw[Kq (fun e:MapEntry=> {e with key:=Gw.ev E x,val:=Gw.ev E y}) (fun _=>rfl)]at this;obtain⟨a,v,b⟩:=sQ.1 this;have:=r.1 a v;omega
     . rw[g0l,Kq (fun e:MapEntry=> {e with key:=Gw.ev E x,val:=Gw.ev E y}) (fun _=>rfl)];exact r.2
 . cases d
def UD {c d:Bool} {a b:Ty} {q:Nat} {es:List (a.den×b.den)} (h:mapM st c a d b q=some es):st.L q= .map c a d b es:=by
 unfold mapM at h;split at h
 . rename_i b;split at h
   . rename_i a;cases a;cases h;exact b
   . cases h
 . cases h
def A6p (h:B7 za w0 st E w Z B) {T:TypeId} {m s y:Operand} (a:WI st m s y=some st'):∃w',Gw.QO cx.P E ty (.entryStore T m s y) w w'/\∃Z' B',B7 za w0 st' E w' Z' B':=by unfold WI at a;cases a
def A7h (h:B7 za w0 st E w Z B) (f:H5 cx.P cx.tys=true) {T:TypeId} {m x:Operand} (a:XF cx st d T m x=some st') (c:k st') (b:E5 all ⟨some d, .mapEntry T m x,ty,pos,aft,g⟩ E=true):I5 cx.P all ⟨some d, .mapEntry T m x,ty,pos,aft,g⟩ (kQ za w0 w true k) E w:=by unfold XF at a;cases a
def VU (cx:Cx) (st:St) (T:TypeId) (x:Operand):Option St:=none
def A6c {ty:TypeId} {st':St} (h:B7 za w0 st E w Z B) (b:H5 cx.P cx.tys=true) {T:TypeId} {x:Operand} (a:VU cx st T x=some st'):∃v w',Gw.E7 cx.P E ty (.call ⟨.builtin .clear, #[x], #[T]⟩) w v w'/\B7 za w0 st' E w' Z B:=by unfold VU at a;cases a
end
end Go.Vc
