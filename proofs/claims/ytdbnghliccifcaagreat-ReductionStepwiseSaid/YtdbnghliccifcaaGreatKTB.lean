/- Part. -/
import Derived.Laws.CopyRow
import Derived.Test.YtdbnghliccifcaaGreatKTA
set_option linter.all false
namespace Go.Vc
open Go Go.RowKit Go.Gw
open Go.IntKind (i64)
section
variable {za:Zn} {w0 w:World} {Z:Nat->Prop} {B:Nat->Value} {st:St} {E:G9} {P:Program}
def A2p (w:World) (Z:Nat->Prop) (B:Nat->Value):List (Nat×List C)->List (Nat×Value)->Prop
 | [],a=>a= []
 | (i,b)::r,c=>∃v a,c=(i,v)::a/\Ct w Z B b v.cells.toList/\A2p w Z B r a
def gD {place:Nat->Option (Nat×Nat)} :∀ {parts:List (Nat×List C)} {j:List (Nat×Value)} {cs cs':List C} {vs:Array Value},A2p w Z B parts j->Ct w Z B cs vs.toList->Ys place cs parts=some cs'->∃d,Instr.fill place vs j=some d/\Ct w Z B cs' d.toList
 | [],_,cs,cs',vs,b,h,a=>by
  rw[show _= _ from b];simp only[Ys,rC]at a;subst a;exact⟨vs,rfl,h⟩
 | (z,i)::F,_,cs,cs',vs,⟨v,j,e,k,l⟩,h,b=>by
  subst e;simp only[Ys]at b;cases g:place z with
  |none=>simp[g]at b
  |some q=>
   obtain⟨a,sz⟩:=q;simp only[g]at b;cases c:Nat.beq i.length sz&&Nat.ble (a+sz) cs.length with
   |false=>simp[c]at b
   |true=>
    simp only[c,qR]at b;simp only[qC]at c;have s:i.length=sz:=qD c.1;have E:a+sz<=cs.length:=qP c.2;have u:v.cells.size=sz:=by rw[<-s,k.len];simp
    have D:cs.length=vs.size:=by rw[h.len];simp
    have f:=Vi a v.cells.toList 0 vs (by simp;omega);simp only[tJ]at f;generalize r:(v.cells.toList.zipIdx 0).foldl (λcs (x:Value×Nat)=>cs.setIfInBounds (a+x.2) x.1) vs=A at f;have t:Ct w Z B (cs.take a++i++cs.drop (a+sz)) A.toList:=by
     rw[f];have y:v.cells.toList.length=sz:=by simpa using u
     rw[y];exact((h.take a).append k).append (h.drop (a+sz))
    obtain⟨d,n,o⟩:=gD l t b;refine⟨d,?_,o⟩;unfold Instr.fill;simp only[g];rw[qL (by simp;omega)];rw[<-n, <-r, <-g3y];simp
def NU {place:Nat->Option (Nat×Nat)} {Q:C->Prop} :∀ {parts:List (Nat×List C)} {cs cs':List C},(∀x∈parts,∀c∈x.2,Q c)->(∀c∈cs,Q c)->Ys place cs parts=some cs'->∀c∈cs',Q c
 | [],cs,cs',_,h,a=>by
  simp only[Ys,rC]at a;subst a;exact h
 | (i,j)::r,cs,cs',f,h,b=>by
  simp only[Ys]at b;cases g:place i with
  |none=>simp[g]at b
  |some q=>
   simp only[g]at b;cases d:Nat.beq j.length q.2&&Nat.ble (q.1+q.2) cs.length with
   |false=>simp[d]at b
   |true=>
    simp only[d,qR]at b;refine NU (λx k=>f x (qI _ k)) ?_ b;intro c a;simp only[qS]at a;rcases a with(a|a) |a
    . exact h c (rQ a)
    . exact f (i,j) (by simp) c a
    exact h c (vM a)
def Km (st:St) (ctx:Hn):List (Nat×Operand)->Option (List (Nat×List C))
 | []=>some []
 | (i,x)::r=>match st.ev ctx x with
  |some s=>bif s.cs.all Ff then(Km st ctx r).map λl=>(i,s.cs)::l else none
  |none=>none
def RS.cells (h:C2 za w0 st E w Z B) {s:SV} {v:Value} (a:RS w Z B s v) (i:s.cs.all Ff=true):Ct w Z B s.cs v.cells.toList:=by
 obtain⟨f,b⟩:=s;cases f with
 |true=>obtain⟨d,e,a⟩:=a;subst e;exact a
 |false=>
  have a:Ct w Z B b [v]:=a
  match b,a with
  | [c],k=>
   obtain⟨u,l,e,d,g⟩:=k;cases e;have j:=RC.one h (by simpa using i) d;have:v.cells= #[v]:=by cases v<;>simp[Value.cells,Value.oneCell']at j|-
   rw[this];exact⟨v,[],rfl,d,g⟩
  | [],d=>cases d
  |c::j::r,g=>obtain⟨u,l,e,k,⟨_,_,d,_⟩⟩:=g;cases e;cases d
def Lg (h:C2 za w0 st E w Z B) {ctx:Hn} (i:P7 E ctx):∀ {parts:List (Nat×Operand)} {l:List (Nat×List C)},Km st ctx parts=some l->A2p w Z B l (parts.map λx=>(x.1,Gw.ev E x.2))/\∀x∈l,∀c∈x.2,Cq st.nx c
 | [],l,a=>by cases a;exact⟨rfl,by simp⟩
 | (t,x)::r,l,a=>by
  simp only[Km]at a;cases f:st.ev ctx x with
  |none=>simp[f]at a
  |some s=>
   simp only[f]at a;cases b:s.cs.all Ff with
   |false=>simp only[b,rG]at a;cases a
   |true=>
    simp only[b,qR]at a;cases d:Km st ctx r with
    |none=>simp[d]at a
    |some u=>
     simp[d]at a;subst a;obtain⟨j,k⟩:=h.ev i f;obtain⟨n,o⟩:=Lg h i d;refine⟨⟨Gw.ev E x,_,rfl,RS.cells h j b,n⟩,λy g=>?_⟩;rcases qV.1 g with rfl|g
     . exact k
     exact o y g
def BY (t:Ty):List C:=(Dz t).map Pg
def Fx {T:TypeId} {t:Ty} (h:Qk P T t=true):∃z,Fb P T=some z/\z.cells.toList=Dz t:=by
 unfold Qk at h;split at h
 . rename_i z a;split at h
   . rename_i b;exact⟨z,a,by rw[jL b];simp⟩
   cases h
 cases h
def A8y (h:C2 za w0 st E w Z B) {ctx:Hn} (a:P7 E ctx) {T ty:TypeId} {t:Ty} {parts:List (Nat×Operand)} {l:List (Nat×List C)} {cs:List C} {pl:List (Nat×Nat)} (d:Qk P T t=true) (k:DI P T=some pl)
 (b:Km st ctx parts=some l) (c:Ys (λi=>pl[i]?) (BY t) l=some cs):Wu P st E w Z B ty (.build T parts.toArray) (.one ⟨true,cs⟩):=by
 obtain⟨z,o,r⟩:=Fx d;obtain⟨d,f⟩:=Lg h a b;have b:=Cu (w:=w) (Z:=Z) (B:=B) (n:=st.nx) (Dz t);obtain⟨a,g,j⟩:=gD (vs:=z.cells) d (by rw[r];exact b.1) c;exact⟨.agg a,λd _=>B8f a o k g,λ_=>⟨a.toList,by simp,j⟩,NU f b.2 c⟩
def fO (h:C2 za w0 st E w Z B) {ctx:Hn} (a:P7 E ctx) {T ty e:TypeId} {t:Ty} {len sz:Nat} {parts:List (Nat×Operand)} {l:List (Nat×List C)} {cs:List C} (d:Qk P T t=true) (k:P.underlying T=some (.array len e)) (o:Sl P e sz=true)
 (b:Km st ctx parts=some l) (c:Ys (λi=>some (i*sz,sz)) (BY t) l=some cs):Wu P st E w Z B ty (.build T parts.toArray) (.one ⟨true,cs⟩):=by
 obtain⟨z,r,s⟩:=Fx d;obtain⟨d,f⟩:=Lg h a b;have b:=Cu (w:=w) (Z:=Z) (B:=B) (n:=st.nx) (Dz t);obtain⟨a,g,j⟩:=gD (vs:=z.cells) d (by rw[s];exact b.1) c;exact⟨.agg a,λd _=>oY a r k o g,λ_=>⟨a.toList,by simp,j⟩,NU f b.2 c⟩
def A5l:List SV->Option (List Nat)
 | []=>some []
 | ⟨false,[.box k 0]⟩::r=>(A5l r).map (k:: ·)
 | _=>none
def evL (st:St) (ctx:Hn):List Operand->Option (List SV)
 | []=>some []
 |x::r=>match st.ev ctx x with
  |some s=>(evL st ctx r).map (s:: ·)
  |none=>none
def VR (h:C2 za w0 st E w Z B) {ctx:Hn} (f:P7 E ctx):∀ {xs:List Operand} {ss:List SV},evL st ctx xs=some ss->Nh w Z B ss (xs.map (Gw.ev E))/\∀s∈ss,Ma st.nx s
 | [],ss,a=>by cases a;exact⟨rfl,by simp⟩
 |x::r,ss,a=>by
  simp only[evL]at a;cases c:st.ev ctx x with
  |none=>simp[c]at a
  |some s=>
   simp only[c]at a;cases b:evL st ctx r with
   |none=>simp[b]at a
   |some l=>
    simp[b]at a;subst a;obtain⟨g,i⟩:=h.ev f c;obtain⟨j,k⟩:=VR h f b;refine⟨⟨_,_,rfl,g,j⟩,λy d=>?_⟩;rcases qV.1 d with rfl|d
    . exact i
    exact k y d
def A2v {n:Nat} :∀ {ss:List SV} {b:List Nat} {vs:List Value},Nh w Z B ss vs->(∀s∈ss,Ma n s)->A5l ss=some b->vs=b.map B/\∀k∈b,k<n
 | [],b,vs,h,_,a=>by cases a;exact⟨h,by simp⟩
 |s::v,b,vs,⟨A,D,e,i,j⟩,g,a=>by
  unfold A5l at a;split at a
  . rename_i c;cases c
  . rename_i k z c;cases c;cases f:A5l v with
    |none=>simp[f]at a
    |some y=>
     simp[f]at a;subst a;obtain⟨l,o⟩:=A2v j (λs hs=>g s (qI _ hs)) f;obtain⟨_,_,h,⟨x,r,u⟩,_⟩:=i;cases h;have t:=g ⟨false,[.box k 0]⟩ (by simp) (.box k 0) (by simp);refine⟨by rw[e,l,u, <-r];rfl,λq d=>?_⟩;rcases qV.1 d with rfl|d
     . exact t
     exact o q d
  cases a
def C0w (h:C2 za w0 st E w Z B) {ctx:Hn} (g:P7 E ctx) {ty:TypeId} {f:FuncId} {a:List Operand} {ss:List SV} {b:List Nat} (c:evL st ctx a=some ss) (d:A5l ss=some b):
 Wu P st E w Z B ty (.makeFunc (.func f) #[] a.toArray) (.one ⟨false,[.fn f b]⟩):=by
 obtain⟨a,b⟩:=VR h g c;obtain⟨c,g⟩:=A2v a b d;exact Gt (λa _=>C5s c) rfl g
def B2r (e:Bool):C->C->Option C
 | .val t x, .val a y=>if h:a=t then some (.val t (M0 e x (h▸y)))else none
 | _,_=>none
def B2s {e:Bool} {c1 a c:C} {v1 v2:Value} (h:B2r e c1 a=some c) (b:e=true->RC w Z B c1 v1) (d:e=false->RC w Z B a v2):RC w Z B c (bif e then v1 else v2)/\∀n,Cq n c:=by
 unfold B2r at h;split at h
 . split at h
   . rename_i t x g y f;subst f;cases h;refine⟨?_,λ_=>trivial⟩;cases e with
     |true=>exact b rfl
     |false=>exact d rfl
   cases h
 cases h
end
def Ra:Ty->Bool
 | .ptr _=>false
 | .pair a b=>Ra a&&Ra b
 | _=>true
def MJ {w:World} {Z:Nat->Prop} :∀ {t:Ty},Ra t=true->C6 t w Z (Dz t) t.dflt
 | .int k,_=>⟨rfl,mP k⟩
 | .bool,_=>rfl
 | .str,_=>rfl
 | .unit,_=>rfl
 | .pair a b,h=>by
  simp only[Ra,qC]at h;exact⟨_,_,rfl,MJ h.1,MJ h.2⟩
 | .sl _,_=>⟨none,0,rfl,qU _,rS _,λ_=>rfl, .inl rfl⟩
 | .ptr _,h=>by cases h
 | .mp _ _ _ _,_=> .inl ⟨rfl,rfl⟩
def B6g (f:St) (c:Bool) (a:Ty) (d:Bool) (b:Ty):C->Option (List (a.den×b.den))
 | .mp k=>match f.L k with
  | .map f g h i j=>if k:Ty.mp f g h i=Ty.mp c a d b then some (k▸(show(Ty.mp f g h i).den from j):(Ty.mp c a d b).den)else none
  | .mapE f g h i j _ _=>if k:Ty.mp f g h i=Ty.mp c a d b then some (k▸(show(Ty.mp f g h i).den from j):(Ty.mp c a d b).den)else none
  | _=>none
 | .val t f=>if h:t=Ty.mp c a d b then some (h▸f:(Ty.mp c a d b).den)else none
 | .raw (.map none)=>some []
 | _=>none
def B6l (a:St) (ctx:Hn) (x:Operand):Option (Option Prop×DV):=
 match a.ev ctx x with
 |some s=>some (none, .one s)
 |none=>match x with
  | .tmp t=>match a.S t with
   | .tup a=>some (none, .tup a)
   | _=>none
  | _=>none
def C1c (a:St) (b:Bool):Operand->Hn
 | .tmp t=>gctx a 20 t b
 | _=> []
def one1 (c:C):DV:= .one ⟨false,[c]⟩
def A1o (d:St) (ctx:Hn) (c a b:Operand):Option (Option Prop×DV):=do
 let e<-(d.ev ctx c).bind PU
 let f<-(d.ev (C1c d true c++ctx) a).bind c1
 let g<-(d.ev (C1c d false c++ctx) b).bind c1
 (B2r e f g).map λc=>(none,one1 c)
def B3x (a:St) (ctx:Hn) (op:UnOp) (x:Operand):Option (Option Prop×DV):=do
 let c<-(a.ev ctx x).bind c1
 (unC op c).map λc=>(none,one1 c)
def gL:C->Bool
 | .val .bool _=>true
 | _=>false
def pX (cx:Cx) (a:St) (ctx:Hn) (op:BinOp) (T:TypeId) (x y:Operand):Option (Option Prop×DV):=do
 let b<-a.ev ctx x
 let c<-a.ev ctx y
 match c1 b,c1 c with
 |some a,some d=>bif gL a&& !(isB cx.P T)then none else(B9o op a d).map λr=>(r.1,one1 r.2)
 | _,_=>do
  let ti<-cx.ti T
  let a<-Ro true ti.ty b
  let b<-Ro true ti.ty c
  bif ti.eq&&ti.agg then(match op with
   | .eql=>some (none,one1 (.val .bool (FQ ti.ty a b)))
   | .neq=>some (none,one1 (.val .bool (!(FQ ti.ty a b))))
   | _=>none)else none
def NS (a:St) (x:Operand) (i:Nat):Option (Option Prop×DV):=
 match x with
 | .tmp t=>match a.S t with
  | .tup a=>(a[i]?).map λs=>(none, .one s)
  | _=>none
 | _=>none
def Yq (cx:Cx) (a:St) (ctx:Hn) (T:TypeId) (x:Operand) (f:Nat):Option (Option Prop×DV):=do
 let ti<-cx.ti T
 let q<-ti.fields[f]?
 let c<-(a.ev ctx x).bind c1
 (faC q.1 c).map λc=>(none,one1 c)
def gC (cx:Cx) (a:St) (ctx:Hn) (T:TypeId) (x:Operand) (f:Nat):Option (Option Prop×DV):=do
 let ti<-cx.ti T
 let q<-ti.fields[f]?
 let s<-a.ev ctx x
 bif s.agg then(cut q.1 q.2.1 s.cs).map λa=>(none, .one ⟨q.2.2,a⟩)else none
def WL (cx:Cx) (a:St) (ctx:Hn) (T:TypeId) (x:Operand):Option (Option Prop×DV):=do
 let ti<-cx.ti T
 let c<-(a.ev ctx x).bind c1
 (A3q a ti.ty.size c).map λb=>(none, .one ⟨ti.agg,b⟩)
def C3d (cx:Cx) (a:St) (ctx:Hn) (ti:TI) (x ix:Operand):Option (Option Prop×DV):=do
 let d<-cx.ti ti.elem
 let c<-(a.ev ctx x).bind c1
 let i<-(a.ev ctx ix).bind SE
 (faC (i.toNat*d.ty.size) c).map λb=>(some (0<=i/\i<(ti.arr:Int)),one1 b)
def A8q (u:Ty):Nat->Ty
 |0=> .unit
 |1=>u
 |n+2=> .pair u (A8q u (n+1))
def selA (u:Ty):(n:Nat)->(A8q u n).den->Int->u.den
 |0,_,_=>u.dflt
 |1,x,_=>x
 |n+2,x,i=>M0 (decide (i=0)) x.1 (selA u (n+1) x.2 (i-1))
def C3f (cx:Cx) (b:St) (ctx:Hn) (ti:TI) (x ix:Operand):Option (Option Prop×DV):=do
 let a<-cx.ti ti.elem
 let c<-(b.ev ctx x).bind c1
 let i<-(b.ev ctx ix).bind SE
 match c with
 | .pf t y 0=>if h:t=A8q a.ty ti.arr then some (some (0<=i/\i<(ti.arr:Int)),one1 (.pf a.ty (selA a.ty ti.arr (h▸y) i) 0))else none
 | _=>none
def A3k:Operand->Bool
 | .const _=>true
 | _=>false
def B0x (a:St) (ctx:Hn) (x:Operand):Bool:=match(a.ev ctx x).bind c1 with
 |some (.box _ _)=>true
 | _=>false
def C3e (cx:Cx) (a:St) (ctx:Hn) (T:TypeId) (x:Operand):Option (Option Prop×DV):=do
 let ti<-cx.ti T
 let c<-(a.ev ctx x).bind c1
 match ti.ty,c with
 | .sl t, .raw (.slice none 0 0)=>some (some False,one1 (.pf t t.dflt 0))
 | _,_=>none
def C0j (cx:Cx) (a:St) (ctx:Hn) (T:TypeId) (x ix:Operand):Option (Option Prop×DV):=do
 let ti<-cx.ti T
 let c<-(a.ev ctx x).bind c1
 let i<-(a.ev ctx ix).bind SE
 let r<-C0i a i c
 match ti.ty,r.2 with
 | .sl t, .pf a _ _=>bif decide (t=a)then some (r.1,one1 r.2)else none
 | .sl t, .elp _ sz _ _=>bif Nat.beq t.size sz then some (r.1,one1 r.2)else none
 | _,_=>none
def B0p (cx:Cx) (a:St) (ctx:Hn) (T:TypeId) (x ix:Operand):Option (Option Prop×DV):=
 match cx.ti T with
 |some ti=>bif Nat.beq ti.arr 0 then(match C3e cx a ctx T x with
  |some r=>some r
  |none=>C0j cx a ctx T x ix)else(bif A3k ix||B0x a ctx x then C3d cx a ctx ti x ix else C3f cx a ctx ti x ix)
 |none=>none
def C3o:C->Bool
 | .box _ _=>true
 | .elp _ _ _ _=>true
 | .pf _ _ _=>true
 | .fn _ _=>true
 | .fv _ _ _ _ _ _=>true
 | _=>false
def B1y (a:St) (ctx:Hn) (x:Operand):Option (Option Prop×DV):=do
 let c<-(a.ev ctx x).bind c1
 bif C3o c then some (none,one1 c)else none
def B6o (a:St) (ctx:Hn):Option Operand->Option (Option Int)
 |none=>some none
 |some o=>((a.ev ctx o).bind SE).map some
def YL (a:St) (ctx:Hn) (x lo b:Operand):Option (Option Prop×DV):=do
 let c<-(a.ev ctx x).bind c1
 let l<-(a.ev ctx lo).bind SE
 let h<-(a.ev ctx b).bind SE
 match c with
 | .val .str s=>some (some (0<=l/\l<=h/\h<=(s.data.toList.length:Int)),one1 (.val .str (s.extract l.toNat h.toNat)))
 | _=>none
def B0z (cx:Cx) (T:TypeId):Bool:=match cx.ti T with
 |some ti=>(match ti.ty with| .str=>true| _=>false)
 |none=>false
def jA (cx:Cx) (a:St) (ctx:Hn) (T:TypeId) (x:Operand) (lo b:Option Operand):Option (Option Prop×DV):=
 bif B0z cx T then(match lo,b with|some l,some h=>YL a ctx x l h| _,_=>none)else do
 let ti<-cx.ti T
 let c<-(a.ev ctx x).bind c1
 let l<-B6o a ctx lo
 let h<-B6o a ctx b
 let r<-A1v a l h c
 match ti.ty,r.2 with
 | .sl t, .val (.sl a) _=>bif decide (t=a)then some (r.1,one1 r.2)else none
 | .sl t, .win _ sz _ _=>bif Nat.beq t.size sz then some (r.1,one1 r.2)else none
 | _,_=>none
def A0d (cx:Cx) (a:St) (ctx:Hn) (T T':TypeId) (x:Operand):Option (Option Prop×DV):=do
 let ti<-cx.ti T
 let b<-cx.ti T'
 let c<-(a.ev ctx x).bind c1
 match ti.ty,b.ty,c with
 | .int _, .int a, .val (.int _) b=>some (none,one1 (.val (.int a) (a.wrap b)))
 | _,_,_=>none
def fN (cx:Cx) (a:St) (ctx:Hn) (T:TypeId) (parts:List (Nat×Operand)):Option (Option Prop×DV):=do
 let ti<-cx.ti T
 let l<-Km a ctx parts
 bif ti.fields.isEmpty then(do
  let b<-cx.ti ti.elem
  bif Nat.beq ti.arr 0 then none else(Ys (λi=>some (i*b.ty.size,b.ty.size)) (BY ti.ty) l).map λa=>(none, .one ⟨true,a⟩))
 else(Ys (λi=>(ti.fields.map λx=>(x.1,x.2.1))[i]?) (BY ti.ty) l).map λa=>(none, .one ⟨true,a⟩)
def HA (s:ByteArray) (i:Int):Int:=((s.data.toList.getD i.toNat 0).toNat:Int)
def WE (a:St) (ctx:Hn) (x ix:Operand):Option (Option Prop×DV):=do
 let c<-(a.ev ctx x).bind c1
 let i<-(a.ev ctx ix).bind SE
 match c with
 | .val .str s=>some (some (0<=i/\i<(s.data.toList.length:Int)),one1 (.val (.int .u8) (HA s i)))
 | _=>none
def WC (cx:Cx) (a:St) (ctx:Hn) (T:TypeId) (x ix:Operand):Option (Option Prop×DV):=none
def WB (cx:Cx) (b:St) (ctx:Hn) (T:TypeId) (x ix:Operand):Option (Option Prop×DV):=do
 let ti<-cx.ti T
 let a<-cx.ti ti.elem
 let s<-b.ev ctx x
 let i<-(b.ev ctx ix).bind SE
 bif s.agg&&a.agg&& !(Nat.beq ti.arr 0)then(cut (i.toNat*a.ty.size) a.ty.size s.cs).map λc=>(some (0<=i/\i<(ti.arr:Int)), .one ⟨true,c⟩)else none
def gI (cx:Cx) (a:St) (ctx:Hn) (T:TypeId) (x ix:Operand):Option (Option Prop×DV):=
 match((cx.ti T).map λt:TI=>t.ty:Option Ty)with
 |some .str=>WE a ctx x ix
 | _=>match WC cx a ctx T x ix with
  |some r=>some r
  |none=>WB cx a ctx T x ix
def C3i:C->Bool
 | .mp _=>true
 | _=>false
def C0l:Ty->Bool
 | .sl _=>true
 | _=>false
def WM (cx:Cx) (f:St) (ctx:Hn) (T:TypeId) (x ix:Operand) (h:Bool):Option (Option Prop×DV):=do
 let ti<-cx.ti T
 let g<-(f.ev ctx x).bind c1
 let j<-f.ev ctx ix
 match ti.ty with
 | .mp i b d a=>do
  let c<-B6g f i b d a g
  let k<-Ro i b j
  bif ti.rows&&C3i g&&C0l a&& !h&& !d then some (some (I6 b k c=none),one1 (.raw (.slice none 0 0)))else
  bif Ra a then some (none,bif h then .tup [⟨d,explode a ((I6 b k c).getD a.dflt)⟩,⟨false,[.val .bool (I6 b k c).isSome]⟩]else .one ⟨d,explode a ((I6 b k c).getD a.dflt)⟩)else none
 | _=>none
def B1t (c:St) (ctx:Hn) (fn:Fn) (first a:List Operand):Option (Option Prop×DV):=
 match fn,first with
 | .func f,[]=>do
  let b<-evL c ctx a
  let a<-A5l b
  some (none,one1 (.fn f a))
 | _,_=>none
def NG (cx:Cx) (a:St) (ctx:Hn) (b:Builtin) (args:List Operand) (ts:List TypeId):Option (Option Prop×DV):=
 match b,args,ts with
 | .len,[x],[T]=>do
  let ti<-cx.ti T
  let c<-(a.ev ctx x).bind c1
  let n<-B6a a c
  match ti.ty,c with
  | _, .mp _=>none
  | .str, .val .str _=>some (some (n<=9223372036854775807),one1 (.val (.int .i64) n))
  | _, .val .str _=>none
  | .sl _,_=>some (none,one1 (.val (.int .i64) n))
  | _,_=>none
 | .max,[x,y],_=>do
  match<-(a.ev ctx x).bind c1, <-(a.ev ctx y).bind c1 with
  | .val (.int k) c, .val (.int d) b=>bif decide (k=d)then some (none,one1 (.val (.int k) (max c b)))else none
  | _,_=>none
 | .min,[x,y],_=>do
  match<-(a.ev ctx x).bind c1, <-(a.ev ctx y).bind c1 with
  | .val (.int k) c, .val (.int d) b=>bif decide (k=d)then some (none,one1 (.val (.int k) (min c b)))else none
  | _,_=>none
 | .max,[x,y,z],_=>do
  match<-(a.ev ctx x).bind c1, <-(a.ev ctx y).bind c1, <-(a.ev ctx z).bind c1 with
  | .val (.int k) a, .val (.int d) b, .val (.int f) c=>bif decide (k=d)&&decide (k=f)then some (none,one1 (.val (.int k) (max (max a b) c)))else none
  | _,_,_=>none
 | _,_,_=>none
def Ut (cx:Cx) (a:St) (ctx:Hn):Op->Option (Option Prop×DV)
 | .move x=>B6l a ctx x
 | .assign x=>B6l a ctx x
 | .pick d b c=>A1o a ctx d b c
 | .unOp b _ x=>B3x a ctx b x
 | .binOp b T x y _=>pX cx a ctx b T x y
 | .extract x i=>NS a x i
 | .fieldAddr T x f=>Yq cx a ctx T x f
 | .field T x f=>gC cx a ctx T x f
 | .load T x=>WL cx a ctx T x
 | .indexAddr T x i=>B0p cx a ctx T x i
 | .index T x i=>gI cx a ctx T x i
 | .lookup T x i b=>WM cx a ctx T x i b
 | .slice T x c b none=>jA cx a ctx T x c b
 | .convert T T' x=>A0d cx a ctx T T' x
 | .build T b=>fN cx a ctx T b.toList
 | .nilCheck x=>B1y a ctx x
 | .makeFunc fn first b=>B1t a ctx fn first.toList b.toList
 | .call ⟨.builtin c,b,d⟩=>NG cx a ctx c b.toList d.toList
 | _=>none
section
variable {za:Zn} {w0 w:World} {Z:Nat->Prop} {B:Nat->Value} {st:St} {E:G9} {cx:Cx}
def bind_some {α c:Type} {x:Option α} {f:α->Option c} {b:c} :x.bind f=some b↔∃a,x=some a/\f a=some b:=g2a
def C2.tup (h:C2 za w0 st E w Z B) {t:Tmp} {vs:List SV} (c:st.S t= .tup vs):∃us:List Value,E t= .tuple us.toArray/\Nh w Z B vs us/\∀s∈vs,Ma st.nx s:=by
 have b:=h.slots t;have a:=h.refs t;rw[c]at b a;obtain⟨us,e,c⟩:=b;exact⟨us,e,c,a⟩
def Nh.get:∀ {ss:List SV} {vs:List Value} {i:Nat} {s:SV},Nh w Z B ss vs->ss[i]? =some s->∃v,vs[i]? =some v/\RS w Z B s v
 | [],_,_,_,_,a=>by simp at a
 |s'::ss,_,i,s,⟨v,g,e,b,c⟩,a=>by
  cases i with
  |zero=>simp at a;subst a;exact⟨v,by rw[e];rfl,b⟩
  |succ i=>simp at a;obtain⟨u,d,f⟩:=Nh.get c a;exact⟨u,by rw[e];simpa using d,f⟩
def J0 {P:Program} {T:TypeId} {ti:TI} (h:Vm P T ti=true):Sl P T ti.ty.size=true/\(ti.agg=true/\UG P T ti.ty.size=true\/ti.agg=false/\Dx P T=true/\ti.ty.size=1)/\Qk P T ti.ty=true:=by
 simp only[Vm,qC]at h;obtain⟨⟨⟨⟨⟨⟨c,a⟩,d⟩,_⟩,_⟩,_⟩,_⟩:=h;refine⟨c,?_,d⟩;cases b:ti.agg with
 |true=>rw[b]at a;exact .inl ⟨rfl,a⟩
 |false=>simp only[b,rG,qC]at a;exact .inr ⟨rfl,a.1,qD a.2⟩
def DT {P:Program} {T:TypeId} {ti:TI} {t:Ty} (h:Vm P T ti=true) (c:ti.ty= .sl t):Hc P T ti.elem t.size=true/\Qk P ti.elem t=true/\∃i,P.info? ti.elem=some i/\i.bytes=ti.bytes:=by
 simp only[Vm,qC]at h;obtain⟨⟨⟨⟨_,a⟩,_⟩,_⟩,_⟩:=h;rw[c]at a;simp only[qC]at a;refine⟨a.1.1,a.1.2,?_⟩;cases b:P.info? ti.elem with
 |none=>simp[b]at a
 |some i=>simp only[b]at a;exact⟨i,rfl,qD a.2⟩
def oT {P:Program} {T:TypeId} {ti:TI} {k:IntKind} (h:Vm P T ti=true) (b:ti.ty= .int k):B5v P T k=true:=by
 simp only[Vm,qC]at h;obtain⟨⟨⟨⟨_,a⟩,_⟩,_⟩,_⟩:=h;rw[b]at a;exact a
def AJ {P:Program} {T:TypeId} {ti:TI} (h:Vm P T ti=true) (c:ti.fields.isEmpty=false):Yr P T 0 ti.fields=true/\DI P T=some (ti.fields.map λx=>(x.1,x.2.1)):=by
 simp only[Vm,qC]at h;obtain⟨⟨⟨_,a⟩,_⟩,_⟩:=h;simp only[c,rG,qC]at a;refine⟨a.1,?_⟩;cases b:DI P T with
 |none=>simp[b]at a
 |some pl=>simp only[b,rU]at a;rw[a.2]
def LI {P:Program} {T:TypeId} {ti:TI} (h:Vm P T ti=true) (b:Nat.beq ti.arr 0=false):P.underlying T=some (.array ti.arr ti.elem):=by
 simp only[Vm,qC]at h;obtain⟨⟨_,a⟩,_⟩:=h;simp only[b,rG]at a;split at a
 . rename_i n e c;simp only[qC]at a;rw[c,qD a.1,qD a.2]
 cases a
def Vn {P:Program} {T:TypeId} {ti:TI} {c f:Bool} {d g:Ty} (h:Vm P T ti=true) (l:ti.ty= .mp c d f g):P.underlying T=some (.map ti.key ti.elem)/\EN P ti.key c d=true/\Qk P ti.elem g=true/\MI P ti.elem f=true:=by
 simp only[Vm,qC]at h;obtain⟨⟨⟨⟨_,b⟩,_⟩,_⟩,_⟩:=h;rw[l]at b;simp only[qC]at b;obtain⟨⟨⟨a,i⟩,j⟩,k⟩:=b;refine⟨?_,i,j,k⟩;split at a
 . rename_i o e n;simp only[qC]at a;rw[n,qD a.1,qD a.2]
 cases a
def B8d {P:Program} {T:TypeId} {ti:TI} (h:Vm P T ti=true) (a:ti.eq=true):EN P T ti.agg ti.ty=true:=by
 simp only[Vm,qC]at h;have:=h.2;rw[a]at this;exact this
def Tz {P:Program} {T:TypeId} :∀ {l:List (Nat×Nat×Bool)} {a f:Nat} {q:Nat×Nat×Bool},Yr P T a l=true->l[f]? =some q->NT P T (a+f) q.1=true/\A0h P T (a+f) q.2.1 q.2.2=true
 | [],_,_,_,_,b=>by simp at b
 | (d,sz,c)::l,a,f,q,h,b=>by
  simp only[Yr,qC]at h;cases f with
  |zero=>simp at b;subst b;exact h.1
  |succ f=>
   simp at b;have:=Tz h.2 b;rw[(ω:a+1+f=a+(f+1))]at this;exact this
def Iv {α:Type} {l:List α} {i:Nat} {a:α} (h:l[i]? =some a):l.isEmpty=false:=by
 cases l with
 |nil=>simp at h
 |cons _ _=>rfl
end
section
variable {za:Zn} {w0 w:World} {Z:Nat->Prop} {B:Nat->Value} {st:St} {E:G9} {cx:Cx} {ctx:Hn} {ty:TypeId} {φ:Option Prop} {d:DV}
def A3w (h:C2 za w0 st E w Z B) (j:P7 E ctx) {x:Operand} (a:B6l st ctx x=some (φ,d)):Wu cx.P st E w Z B ty (.move x) d/\Wu cx.P st E w Z B ty (.assign x) d:=by
 unfold B6l at a;cases c:st.ev ctx x with
 |some s=>
  rw[c]at a;cases a;obtain⟨b,f⟩:=h.ev j c;exact⟨⟨_,λg _=>B4d,λ_=>b,f⟩,⟨_,λg _=>oX,λ_=>b,f⟩⟩
 |none=>
  rw[c]at a;cases x with
  |tmp t=>
   simp only at a;cases b:st.S t with
   |tup l=>
    rw[b]at a;cases a;obtain⟨i,e,f,g⟩:=h.tup b;exact⟨⟨_,λk _=>B4d,λ_=>⟨i,e,f⟩,g⟩,⟨_,λk _=>oX,λ_=>⟨i,e,f⟩,g⟩⟩
   |one _=>rw[b]at a;cases a
   |cnd _ _ _=>rw[b]at a;cases a
   |dead=>rw[b]at a;cases a
  |const _=>cases a
  |global _=>cases a
  |func _=>cases a
def C2.c1 (h:C2 za w0 st E w Z B) (f:P7 E ctx) {x:Operand} {c:C} (b:(st.ev ctx x).bind Vc.c1=some c):RC w Z B c (Gw.ev E x)/\Cq st.nx c:=by
 obtain⟨s,g,a⟩:=bind_some.1 b;obtain⟨b,d⟩:=h.ev f g;exact kT b d a
def C2.int (h:C2 za w0 st E w Z B) (b:P7 E ctx) {x:Operand} {n:Int} (d:(st.ev ctx x).bind SE=some n):∃k,Gw.ev E x= .int k n/\FT k n:=by
 obtain⟨s,c,a⟩:=bind_some.1 d;exact B5u (h.ev b c).1 a
def A6s (h:C2 za w0 st E w Z B) (j:P7 E ctx) {c a b:Operand} (l:A1o st ctx c a b=some (φ,d)):Wu cx.P st E w Z B ty (.pick c a b) d:=by
 simp only[A1o,qG,bind_some,qJ]at l;obtain⟨e,⟨F,y,u⟩,z,⟨G,n,r⟩,A,⟨H,o,s⟩,D,x,v⟩:=l;cases v;have k:Gw.ev E c= .bool e:=Qr (h.ev j y).1 u;have g:∀q,e=q->P7 E (C1c st q c++ctx):=λq hq t b f=>by
  rcases qS.1 f with f|f
  . cases c with
    |tmp I=>exact h.gctx (by rw[<-hq];exact k) t b f
    |const _=>cases f
    |global _=>cases f
    |func _=>cases f
  exact j t b f
 have i:=B2s (w:=w) (Z:=Z) (B:=B) (v1:=Gw.ev E a) (v2:=Gw.ev E b) x (λq=>(kT (h.ev (g true q) n).1 (h.ev (g true q) n).2 r).1) (λq=>(kT (h.ev (g false q) o).1 (h.ev (g false q) o).2 s).1);exact Gt (λJ _=>C2g k) i.1 (i.2 _)
def B3y (h:C2 za w0 st E w Z B) (b:P7 E ctx) {op:UnOp} {T:TypeId} {x:Operand} (a:B3x st ctx op x=some (φ,d)):Wu cx.P st E w Z B ty (.unOp op T x) d:=by
 simp only[B3x,qG,bind_some,qJ]at a;obtain⟨j,⟨s,i,c⟩,r,g,f⟩:=a;cases f;exact C5m (h.c1 b (bind_some.2 ⟨s,i,c⟩)).1 g
def C5p {P:Program} {T T' ty:TypeId} {x y:Operand} {a:Ty} {u v:a.den} (b:EN P T true a=true) (c:Bf true a w Z (Gw.ev E x) u) (d:Bf true a w Z (Gw.ev E y) v) (w':World):Gw.D9 P E ty (.binOp .eql T x y T') w' (.bool (FQ a u v)) w'/\Gw.D9 P E ty (.binOp .neq T x y T') w' (.bool (!(FQ a u v))) w':=by
 have f:=cX b c d w';have i:P.eqGuardType P.depth T=false:=by simp only[EN,qC,rL]at b;exact b.1.2
 obtain⟨g,b,_⟩:=c;obtain⟨h,c,_⟩:=d;rw[b,c]at f;refine⟨λ_ _ _ _=>?_,λ_ _ _ _=>?_⟩
 . have d:(eqGuard .eql T x y (.agg g.toArray) (.agg h.toArray)).run P w'= .ok () w':=run_eqGuard_agg w' _ _ _ _ _ _ i;simp only[execOp,b,c];simp[d,run_eql_struct,f,Result.andThen]
 have d:(eqGuard .neq T x y (.agg g.toArray) (.agg h.toArray)).run P w'= .ok () w':=run_eqGuard_agg w' _ _ _ _ _ _ i;simp only[execOp,b,c];simp[d,run_neq_struct,f,Result.andThen]
def A5i (h:C2 za w0 st E w Z B) (I:G8 cx.P cx.tys=true) (n:P7 E ctx) {op:BinOp} {T T':TypeId} {x y:Operand} (a:pX cx st ctx op T x y=some (φ,d)) (N:EQ φ):Wu cx.P st E w Z B ty (.binOp op T x y T') d:=by
 simp only[pX,qG,bind_some]at a;obtain⟨U,F,V,G,a⟩:=a;obtain⟨r,O⟩:=h.ev n F;obtain⟨s,Q⟩:=h.ev n G;split at a
 . rename_i g t i j;have J:=(kT r O i).1;have M:=(kT s Q j).1;cases k:gL g&& !(isB cx.P T)with
   |true=>simp[k]at a
   |false=>
    simp only[k,rG,qJ]at a;obtain⟨R,D,A⟩:=a;cases A;have v:isB cx.P T=true\/∀e,g≠ .val .bool e:=by
     cases z:isB cx.P T with
     |true=>exact .inl rfl
     |false=>
      right;intro e c;subst c;simp[gL,z]at k
    obtain⟨W,o,u,f⟩:=B4t (P:=cx.P) (ty:=ty) (T':=T') D N J M v;exact Gt (λb _=>o b) u (f _)
 simp only[bind_some]at a;obtain⟨ti,H,g,i,t,j,a⟩:=a;obtain⟨c,a⟩:(ti.eq&&ti.agg)=true/\ _:=by
  cases o:(ti.eq&&ti.agg)with
  |false=>simp[o]at a
  |true=>simp only[o,qR]at a;exact⟨rfl,a⟩
 simp only[qC]at c;have f:=B8d (B9 I H) c.1;rw[c.2]at f;have l:=λb=>C5p (P:=cx.P) (ty:=ty) (T':=T') f (Em r i) (Em s j) b
 split at a
 . cases a;exact Gt (λb _=>(l b).1) rfl trivial
 . cases a;exact Gt (λb _=>(l b).2) rfl trivial
 cases a
def gB (h:C2 za w0 st E w Z B) {x:Operand} {i:Nat} (a:NS st x i=some (φ,d)):Wu cx.P st E w Z B ty (.extract x i) d:=by
 unfold NS at a;split at a
 . rename_i t;split at a
   . rename_i vs k;simp only[qJ]at a;obtain⟨s,b,l⟩:=a;cases l;obtain⟨n,e,c,f⟩:=h.tup k;obtain⟨v,g,j⟩:=Nh.get c b;exact⟨v,λo _=>A7y (vs:=n.toArray) e (by simpa using g),λ_=>j,f s (sW b)⟩
   cases a
 cases a
def VU (h:C2 za w0 st E w Z B) (s:G8 cx.P cx.tys=true) (j:P7 E ctx) {T:TypeId} {x:Operand} {f:Nat} (c:Yq cx st ctx T x f=some (φ,d)):Wu cx.P st E w Z B ty (.fieldAddr T x f) d:=by
 simp only[Yq,qG,bind_some,qJ]at c;obtain⟨ti,r,q,g,u,⟨t,o,k⟩,v,n,l⟩:=c;cases l;have i:=AJ (B9 s r) (Iv g);have a:=Tz i.1 g;rw[sC]at a;have b:=h.c1 j (bind_some.2 ⟨t,o,k⟩);exact C2v a.1 b.1 b.2 n
def A0i (h:C2 za w0 st E w Z B) (Q:G8 cx.P cx.tys=true) (i:P7 E ctx) {T:TypeId} {x:Operand} {f:Nat} (c:gC cx st ctx T x f=some (φ,d)):Wu cx.P st E w Z B ty (.field T x f) d:=by
 simp only[gC,qG,bind_some]at c;obtain⟨ti,O,q,y,V,M,c⟩:=c;obtain⟨D,r⟩:=h.ev i M;have F:=AJ (B9 Q O) (Iv y);have s:=Tz F.1 y;rw[sC]at s;obtain⟨W,Y⟩:=V;cases W with
 |false=>simp at c
 |true=>
  simp only[qR,qJ]at c;obtain⟨a0,G,H⟩:=c;cases H;obtain⟨k,e,R⟩:=D;obtain⟨g,t,u⟩:=Ph R G;obtain⟨b,a⟩:=s;unfold NT at b;unfold A0h at a;split at b
  . rename_i a1 n;simp only[n]at a;split at b
    . rename_i j l;simp only[l]at a;simp only[qC,g1k]at b;obtain⟨a2,sz,z⟩:=q;simp only at b a g t;obtain⟨J,_⟩:=b;subst J;cases z with
      |true=>
       simp only[qR]at a;refine⟨.agg ((k.drop j.offset).take sz).toArray,λI _ _ _ _ _=>?_,λ_=>⟨_,rfl,g⟩,λo i=>r o (u o i)⟩;obtain⟨v,A⟩:=Ip (P:=cx.P) (w:=I) a;simp only[execOp,e];simp[Instr.field,run_underlying n,l,asAgg,part,v,A,go_sem]
      |false=>
       simp only[rG,qC]at a;have N:=qD a.2;subst N
       match U:(k.drop j.offset).take 1,g,t with
       | [v],g,_=>
        have I:k[j.offset]? =some v:=by
         have:((k.drop j.offset).take 1)[0]? =some v:=by rw[U];rfl
         simpa using this
        refine⟨v,λX _ _ _ _ _=>?_,λ_=>g,λo i=>r o (u o i)⟩;have A:=Ie (P:=cx.P) (w:=X) a.1;simp only[execOp,e];simp[Instr.field,run_underlying n,l,asAgg,part,A,I,go_sem]
    cases b
  cases b
def A6i (h:C2 za w0 st E w Z B) (o:G8 cx.P cx.tys=true) (g:P7 E ctx) {T:TypeId} {x:Operand} (c:WL cx st ctx T x=some (φ,d)):Wu cx.P st E w Z B ty (.load T x) d:=by
 simp only[WL,qG,bind_some,qJ]at c;obtain⟨ti,n,r,⟨s,l,i⟩,u,k,j⟩:=c;cases j;obtain⟨t,a,_⟩:=J0 (B9 o n);refine B6e h (h.c1 g (bind_some.2 ⟨s,l,i⟩)).1 k ?_;rcases a with⟨b,a⟩ | ⟨b,a,f⟩
 . exact .inl ⟨b,a⟩
 exact .inr ⟨b,a,f⟩
def B5q (h:C2 za w0 st E w Z B) (n:G8 cx.P cx.tys=true) (j:P7 E ctx) {T:TypeId} {x ix:Operand} (a:C0j cx st ctx T x ix=some (φ,d)) (o:EQ φ):Wu cx.P st E w Z B ty (.indexAddr T x ix) d:=by
 simp only[C0j,qG,bind_some]at a;obtain⟨ti,l,J,⟨s,A,v⟩,N,⟨H,D,z⟩,G,k,a⟩:=a;have c:=h.c1 j (bind_some.2 ⟨s,A,v⟩);obtain⟨Q,i,_⟩:=h.int j (bind_some.2 ⟨H,D,z⟩);obtain⟨X,M⟩:=G;simp only at a;split at a
 . rename_i t I V F g;cases b:decide (t=I)with
   |false=>simp[b]at a
   |true=>
    simp only[b,qR]at a;cases a;have:=qA b;subst this;have u:=DT (B9 n l) g;refine B0r h c.1 i k o (e:=ti.elem) (λs y=>?_) c.2;rcases y with⟨U,W,f,r⟩ | ⟨_,_,f⟩
    . cases f;subst r;exact u.1
    cases f
 . rename_i t R sz O F g;cases b:Nat.beq t.size sz with
   |false=>simp[b]at a
   |true=>
    simp only[b,qR]at a;cases a;have:=qD b;have r:=DT (B9 n l) g;refine B0r h c.1 i k o (e:=ti.elem) (λs u=>?_) c.2;rcases u with⟨U,W,f,y⟩ | ⟨_,_,f⟩
    . cases f
    cases f;rw[<-this];exact r.1
 cases a
def jJ {P:Program} {T e ty:TypeId} {x ix:Operand} {k:IntKind} {i:Int} {b o n sz:Nat} (h:Gw.ev E x= .pointer (some ⟨b,o,none⟩)) (f:Gw.ev E ix= .int k i) (g:P.underlying T=some (.array n e)) (j:Sl P e sz=true) (a:0<=i) (c:i<(n:Int)) (w:World):
 Gw.D9 P E ty (.indexAddr T x ix) w (.pointer (some ⟨b,o+i.toNat*sz,none⟩)) w:=λ_ _ _ _=>by
 have d:=Gw.Fj (P:=P) (w:=w) j;simp[execOp,h,f,Instr.indexAt,asIntOf,run_underlying g,Instr.sureAddr,a,c,d,go_sem,J9]
def C6.selA {u:Ty} :∀ {n:Nat} {a:List Value} {x:(A8q u n).den} {i:Int},0<=i->i<(n:Int)->C6 (A8q u n) w Z a x->C6 u w Z ((a.drop (i.toNat*u.size)).take u.size) (Vc.selA u n x i)
 |0,_,_,i,b,c,_=>ω
 |1,a,x,i,b,c,h=>by
  have:i.toNat=0:=ω
  rw[this,xQ,tO,qQ (by rw[C6.length h];exact qU _)];exact h
 |n+2,a,x,i,j,k,⟨c1,h,e,b,g⟩=>by
  subst e;have d:=C6.length b;simp only[Vc.selA];by_cases c:i=0
  . subst c;simp only[g5c,M0,qR];rw[show(0:Int).toNat=0 from rfl,xQ,tO, <-d,g3i];exact b
  simp only[c,g2o,M0,rG];have:=C6.selA (i:=i-1) ω ω g;have f:i.toNat*u.size=c1.length+(i-1).toNat*u.size:=by
   rw[d,(ω:i.toNat=(i-1).toNat+1),tZ,vZ]
  rw[f, <-vX,g3f];exact this
def B0q (h:C2 za w0 st E w Z B) (o:G8 cx.P cx.tys=true) (l:P7 E ctx) {T:TypeId} {x ix:Operand} (a:B0p cx st ctx T x ix=some (φ,d)) (t:EQ φ):Wu cx.P st E w Z B ty (.indexAddr T x ix) d:=by
 unfold B0p at a;split at a
 . rename_i ti U;cases s:Nat.beq ti.arr 0 with
   |true=>
    simp only[s,qR]at a;split at a
    . rename_i r b;cases a;simp only[C3e,qG,bind_some]at b;obtain⟨_,_,c,_,b⟩:=b;split at b
      . cases b;exact t.elim
      cases b
    exact B5q h o l a t
   |false=>
    simp only[s,rG]at a;cases R:(A3k ix||B0x st ctx x)with
    |false=>
     simp only[R,rG,C3f,qG,bind_some]at a;obtain⟨O,G,W,⟨M,D,y⟩,V,⟨N,F,z⟩,a⟩:=a;have r:=h.c1 l (bind_some.2 ⟨M,D,y⟩);obtain⟨a1,j,_⟩:=h.int l (bind_some.2 ⟨N,F,z⟩);have k:=LI (B9 o U) s;have n:=(J0 (B9 o G)).1;split at a
     . rename_i a3 a4;split at a
       . rename_i Y;subst Y;cases a;obtain⟨g,i⟩:=t;obtain⟨b,J,Q,e,I,v,c⟩:=r.1;exact Gt (λf _=>jJ e j k n g i f) ⟨b,J+0+V.toNat*O.ty.size,_,rfl,I,L6 v _ O.ty.size,c.selA g i⟩ trivial
       cases a
     cases a
    |true=>
    simp only[R,qR]at a;simp only[C3d,qG,bind_some,qJ]at a;obtain⟨O,G,W,⟨M,D,y⟩,V,⟨N,F,z⟩,a2,u,a⟩:=a;cases a;have r:=h.c1 l (bind_some.2 ⟨M,D,y⟩);obtain⟨a1,j,_⟩:=h.int l (bind_some.2 ⟨N,F,z⟩);have k:=LI (B9 o U) s;have n:=(J0 (B9 o G)).1;obtain⟨g,i⟩:=t;have c:=r.1;have A:=r.2;unfold faC at u;split at u<;>cases u
    . obtain⟨b,e,H⟩:=c;exact Gt (λf _=>jJ H j k n g i f) ⟨b,e,rfl⟩ A
    . obtain⟨b,m,X,e,a0,H⟩:=c;exact Gt (λf _=>jJ H j k n g i f) ⟨b,m,X,e,a0,by rw[uQ]⟩ A
    obtain⟨b,J,Q,e,I,v,c⟩:=c;exact Gt (λf _=>jJ e j k n g i f) ⟨b,J,Q,by rw[uQ],I,v,c⟩ A
 cases a
def B1z (h:C2 za w0 st E w Z B) (i:P7 E ctx) {x:Operand} (a:B1y st ctx x=some (φ,d)):Wu cx.P st E w Z B ty (.nilCheck x) d:=by
 simp only[B1y,qG,bind_some]at a;obtain⟨f,⟨s,k,j⟩,a⟩:=a;have g:=h.c1 i (bind_some.2 ⟨s,k,j⟩);cases c:C3o f with
 |false=>simp only[c,rG]at a;cases a
 |true=>
  simp only[c,qR]at a;cases a;have b:=g.1;refine Gt (v:=Gw.ev E x) (λz _ _ _ _ _=>?_) b g.2;cases f with
  |box o r=>obtain⟨n,e,l⟩:=b;simp[execOp,l]
  |elp u sz t y=>obtain⟨n,m,o,e,r,l⟩:=b;simp[execOp,l]
  |pf t y r=>obtain⟨l,o,n,e,_⟩:=b;simp[execOp,e]
  |fn o n=>have l:Gw.ev E x= _:=b;simp[execOp,l]
  |fv _ _ _ _ _ _=>obtain⟨o,n,l,_⟩:=b;simp[execOp,l]
  | _=>cases c
def TR (h:C2 za w0 st E w Z B) (c:P7 E ctx) {o:Option Operand} {i:Option Int} (a:B6o st ctx o=some i):A8i E o i:=by
 unfold B6o at a;cases o with
 |none=>cases a;rfl
 |some o=>
  simp only[qJ]at a;obtain⟨j,d,rfl⟩:=a;obtain⟨k,b,_⟩:=h.int c d;exact⟨k,j,rfl,b⟩
def YT {P:Program} {T:TypeId} {ti:TI} (h:Vm P T ti=true) (b:ti.ty= .str):P.underlying T=some .string:=by
 unfold Vm at h;simp only[qC]at h;have a:=h.1.1.1.2;rw[b]at a;simp only at a;split at a
 . assumption
 cases a
def A7z {P:Program} {E:Gw.G9} {w:World} {ty T:TypeId} {x:Operand} {s:ByteArray} (c:Gw.ev E x= .string s) (b:P.underlying T=some .string):Gw.D9 P E ty (.call ⟨.builtin .len, #[x], #[T]⟩) w (.int .i64 (s.data.toList.length:Int)) w:=λ_ _ _ _=>by
 have a:s.data.toList.length=s.size:=by rw[sA];rfl
 rw[a];simp[execOp,resolve,invoke,builtin,Builtin.len_,c,run_underlying b,goInt,go_sem]
def pA {P:Program} {E:Gw.G9} {w:World} {ty T:TypeId} {x lo a:Operand} {s:ByteArray} {k k':IntKind} {l h:Int} (g:Gw.ev E x= .string s) (f:Gw.ev E lo= .int k l) (d:Gw.ev E a= .int k' h) (c:P.underlying T=some .string) (b:0<=l) (i:l<=h) (j:h<=(s.data.toList.length:Int)):Gw.D9 P E ty (.slice T x (some lo) (some a) none) w (.string (s.extract l.toNat h.toNat)) w:=λ_ _ _ _=>by
 have a:s.data.toList.length=s.size:=by rw[sA];rfl
 have a:0<=h/\h<=(s.size:Int):=ω
 have b:0<=l/\l<=max h 0:=ω
 simp[execOp,g,f,d,Instr.sliceAt,Instr.slice,Instr.sliceBounds,Instr.sliceBound,asIntOf,run_underlying c,go_sem];rw[qT a,qT b]
def oI (h:C2 za w0 st E w Z B) (b:P7 E ctx) {P:Program} {T:TypeId} {x lo f:Operand} (g:P.underlying T=some .string) (a:YL st ctx x lo f=some (φ,d)) (c:EQ φ):Wu P st E w Z B ty (.slice T x (some lo) (some f) none) d:=by
 simp only[YL,qG,bind_some]at a;obtain⟨y,⟨sv,t,i⟩,F,⟨sl,r,l⟩,z,⟨sh,o,j⟩,a⟩:=a;obtain⟨A,n,_⟩:=h.int b (bind_some.2 ⟨sl,r,l⟩);obtain⟨D,k,_⟩:=h.int b (bind_some.2 ⟨sh,o,j⟩);split at a
 . rename_i s;cases a;have v:=(h.c1 b (bind_some.2 ⟨sv,t,i⟩)).1;have u:Gw.ev E x= .string s:=(g3w (show [Gw.ev E x]= [.string s]from v)).1;exact Gt (λG _=>pA u n k g c.1 c.2.1 c.2.2) rfl trivial
 cases a
def A1w (h:C2 za w0 st E w Z B) (n:G8 cx.P cx.tys=true) (f:P7 E ctx) {T:TypeId} {x:Operand} {lo u:Option Operand} (a:jA cx st ctx T x lo u=some (φ,d)) (o:EQ φ):Wu cx.P st E w Z B ty (.slice T x lo u none) d:=by
 unfold jA at a;cases c:B0z cx T with
 |true=>
  simp only[c,qR]at a;split at a
  . unfold B0z at c;split at c
    . rename_i ti k;split at c
      . rename_i g;exact oI h f (YT (B9 n k) g) a o
      cases c
    cases c
  cases a
 |false=>
 simp only[c,rG,qG,bind_some]at a;obtain⟨ti,k,G,⟨s,i,A⟩,N,v,I,r,D,y,a⟩:=a;have j:=h.c1 f (bind_some.2 ⟨s,i,A⟩);obtain⟨V,H⟩:=D;simp only at a;split at a
 . rename_i t F R g;cases b:decide (t=F)with
   |false=>simp[b]at a
   |true=>
    simp only[b,qR]at a;cases a;have:=qA b;subst this;have z:=DT (B9 n k) g;refine oJ h (e:=ti.elem) j.1 y j.2 o (TR h f v) (TR h f r) (λs i=>?_);rcases i with⟨Q,U,l,rfl⟩ | ⟨_,_,_,l⟩
    . cases l;exact z.1
    cases l
 . rename_i t M sz O J g;cases b:Nat.beq t.size sz with
   |false=>simp[b]at a
   |true=>
    simp only[b,qR]at a;cases a;have:=qD b;subst this;have z:=DT (B9 n k) g;refine oJ h (e:=ti.elem) j.1 y j.2 o (TR h f v) (TR h f r) (λs i=>?_);rcases i with⟨Q,U,l,rfl⟩ | ⟨_,_,_,l⟩
    . cases l
    cases l;exact z.1
 cases a
def A5u (h:C2 za w0 st E w Z B) (b:G8 cx.P cx.tys=true) (i:P7 E ctx) {T T':TypeId} {x:Operand} (a:A0d cx st ctx T T' x=some (φ,d)):Wu cx.P st E w Z B ty (.convert T T' x) d:=by
 simp only[A0d,qG,bind_some]at a;obtain⟨ti,l,y,n,r,⟨s,k,j⟩,a⟩:=a;have c:=h.c1 i (bind_some.2 ⟨s,k,j⟩);split at a
 . rename_i t u v o f g;cases a;exact B4y c.1 ⟨_,cV (oT (B9 b l) f)⟩ (oT (B9 b n) g)
 cases a
def pZ (h:C2 za w0 st E w Z B) (j:G8 cx.P cx.tys=true) (g:P7 E ctx) {T:TypeId} {parts:List (Nat×Operand)} (a:fN cx st ctx T parts=some (φ,d)):Wu cx.P st E w Z B ty (.build T parts.toArray) d:=by
 simp only[fN,qG,bind_some]at a;obtain⟨ti,o,s,i,a⟩:=a;have b:=B9 j o;cases f:ti.fields.isEmpty with
 |true=>
  simp only[f,qR,bind_some]at a;obtain⟨t,n,a⟩:=a;cases c:Nat.beq ti.arr 0 with
  |true=>simp[c]at a
  |false=>
   simp only[c,rG,qJ]at a;obtain⟨r,k,l⟩:=a;cases l;exact fO h g (J0 b).2.2 (LI b c) (J0 (B9 j n)).1 i k
 |false=>
  simp only[f,rG,qJ]at a;obtain⟨l,c,k⟩:=a;cases k;exact A8y h g (J0 b).2.2 (AJ b f).2 i c
def mR (h:C2 za w0 st E w Z B) (c:G8 cx.P cx.tys=true) (b:P7 E ctx) {T:TypeId} {x ix:Operand} (a:WC cx st ctx T x ix=some (φ,d)) (f:EQ φ):Wu cx.P st E w Z B ty (.index T x ix) d:=by unfold WC at a;cases a
def oZ {P:Program} {E:Gw.G9} {w:World} {ty T:TypeId} {x ix:Operand} {s:ByteArray} {a:IntKind} {i:Int} (h:Gw.ev E x= .string s) (g:Gw.ev E ix= .int a i) (c:P.underlying T=some .string) (b:0<=i) (d:i<(s.data.toList.length:Int)):Gw.D9 P E ty (.index T x ix) w (.int .u8 (HA s i)) w:=λ_ _ _ _=>by
 have a:i.toNat<s.data.size:=by rw[<-sA];omega
 have f:s[i.toNat]? =some s.data[i.toNat]:=by
  have:s[i.toNat]? =s.data[i.toNat]?:=by
   rw[getElem?_def,getElem?_def];rfl
  rw[this,uS a]
 have d:HA s i=(s.data[i.toNat].toNat:Int):=by
  unfold HA;rw[qE,wK,uS a];rfl
 simp[execOp,h,g,Instr.index,asIntOf,run_underlying c,b,f,d,go_sem]
def mS (h:C2 za w0 st E w Z B) (b:P7 E ctx) {P:Program} {T:TypeId} {x ix:Operand} (f:P.underlying T=some .string) (a:WE st ctx x ix=some (φ,d)) (c:EQ φ):Wu P st E w Z B ty (.index T x ix) d:=by
 simp only[WE,qG,bind_some]at a;obtain⟨u,⟨sv,l,g⟩,r,⟨t,k,i⟩,a⟩:=a;obtain⟨v,j,_⟩:=h.int b (bind_some.2 ⟨t,k,i⟩);split at a
 . rename_i s;cases a;have o:=(h.c1 b (bind_some.2 ⟨sv,l,g⟩)).1;have n:Gw.ev E x= .string s:=(g3w (show [Gw.ev E x]= [.string s]from o)).1;exact Gt (λy _=>oZ n j f c.1 c.2) ⟨rfl,by
    have:=(s.data.toList.getD r.toNat 0).toNat_lt;unfold HA;constructor
    . exact qF _
    show _ <=(255:Int);omega⟩ trivial
 cases a
def mQ (h:C2 za w0 st E w Z B) (k:G8 cx.P cx.tys=true) (c:P7 E ctx) {T:TypeId} {x ix:Operand} (a:WB cx st ctx T x ix=some (φ,d)) (l:EQ φ):Wu cx.P st E w Z B ty (.index T x ix) d:=by
 simp only[WB,qG,bind_some]at a;obtain⟨ti,N,g,M,U,I,R,⟨W,J,F⟩,a⟩:=a;have r:=B9 k N;have j:=B9 k M;obtain⟨a4,G,_⟩:=h.int c (bind_some.2 ⟨W,J,F⟩);obtain⟨Q,H⟩:=h.ev c I;obtain⟨V,a0⟩:=U;cases f:(V&&g.agg&& !(Nat.beq ti.arr 0))with
 |false=>simp only[f,rG]at a;cases a
 |true=>
  simp only[f,qR,qJ]at a;simp only[qC,rL]at f;obtain⟨⟨rfl,b⟩,o⟩:=f;obtain⟨a1,z,A⟩:=a;cases A;obtain⟨X,e,O⟩:=Q;obtain⟨s,a2,t⟩:=Ph O z;have y:=LI r o;have a3:=(J0 j).1;have v:UG cx.P ti.elem g.ty.size=true:=by
   rcases(J0 j).2.1 with⟨_,D⟩ | ⟨u,_⟩
   . exact D
   rw[u]at b;cases b
  refine⟨.agg ((X.drop (R.toNat*g.ty.size)).take g.ty.size).toArray,λY _ _ _ _ _=>?_,λ_=>⟨_,rfl,s⟩,λi c=>H i (t i c)⟩;obtain⟨n,b⟩:=Ip (P:=cx.P) (w:=Y) v;simp only[execOp,e,G];simp[Instr.index,asIntOf,run_underlying y,l.1,l.2,part,n,b,go_sem]
def A0m (h:C2 za w0 st E w Z B) (g:G8 cx.P cx.tys=true) (c:P7 E ctx) {T:TypeId} {x ix:Operand} (a:gI cx st ctx T x ix=some (φ,d)) (i:EQ φ):Wu cx.P st E w Z B ty (.index T x ix) d:=by
 unfold gI at a;split at a
 . rename_i b;cases f:cx.ti T with
   |none=>rw[f]at b;cases b
   |some ti=>
    rw[f]at b;exact mS h c (YT (B9 g f) (xK b)) a i
 split at a
 . rename_i r j;cases a;exact mR h g c j i
 exact mQ h g c a i
def A3u (h:C2 za w0 st E w Z B) {t u:Bool} {n o:Ty} {c:C} {v:Value} {es:List (n.den×o.den)} (k:RC w Z B c v) (a:B6g st t n u o c=some es):
 (v= .map none/\es= [])\/∃b d cl,v= .map (some b)/\b<w.heap.size/\w.heap[b]? =some (.map d cl)/\Kh w Z t n u o d.toList es:=by
 unfold B6g at a;split at a
 . rename_i s;split at a
   . rename_i y z A D r l;split at a
     . rename_i g;have i:=h.locs s;rw[l]at i;obtain⟨b,d,cl,e,_,_,f,_,j⟩:=i;cases g;cases a;exact .inr ⟨b,d,cl,(show v= _ from k).trans e,(rV.1 f).1,f,j⟩
     cases a
   . rename_i y z A D r F q l;split at a
     . rename_i g;have i:=h.locs s;rw[l]at i;obtain⟨b,d,cl,e,_,_,f,⟨_,j⟩,_⟩:=i;cases g;cases a;exact .inr ⟨b,d,cl,(show v= _ from k).trans e,(rV.1 f).1,f,j⟩
     cases a
   cases a
 . rename_i G r;split at a
   . rename_i g;subst g;cases a;rcases k with⟨e,x⟩ | ⟨b,d,cl,e,f,g,_,j⟩
     . simp only[sI,vO]at e;exact .inl ⟨e,x⟩
     simp only[sI,vO]at e;exact .inr ⟨b,d,cl,e,h.zlt b f,g,j⟩
   cases a
 . cases a;exact .inl ⟨k.1,rfl⟩
 cases a
def CO {a:Ty} {d:Type} {Rk:Value->a.den->Prop} {Rv:Value->d->Prop} {k:a.den} :∀ {l:List (a.den×d)} {es:List MapEntry} {i:Nat},S8 Rk Rv es l->(P5 a k l i=none/\I6 a k l=none)\/∃j e y,P5 a k l i=some (i+j)/\es[j]? =some e/\I6 a k l=some y/\Rv e.val y/\Rk e.key ((l[j]?).map (·.1) |>.getD k)/\FQ a k ((l[j]?).map (·.1) |>.getD k)=true
 | [],_,_,_=> .inl ⟨rfl,rfl⟩
 |x::l,_,i,⟨e,v,u,o,r,s⟩=>by
  subst u;simp only[P5,I6];cases t:FQ a k x.1 with
  |true=>exact .inr ⟨0,e,x.2,rfl,rfl,rfl,r,o,t⟩
  |false=>
   rcases CO (i:=i+1) s with⟨b,c⟩ | ⟨j,f,y,b,c,g,h,n⟩
   . exact .inl ⟨b,c⟩
   exact .inr ⟨j+1,f,y,by rw[rG,b,uQ,vZ 1 j],by simpa using c,g,h,by simpa using n⟩
def pB {P:Program} {T:TypeId} {z:Value} (h:Fb P T=some z) (w':World):(zeroValue T).run P w'= .ok z w':=by
 unfold Fb at h;cases a:P.info? T with
 |none=>simp[a]at h
 |some i=>simp only[a,wD]at h;simp[zeroValue,typeInfo,a,h]
def nD (h:C2 za w0 st E w Z B) (am:G8 cx.P cx.tys=true) (n:P7 E ctx) {T:TypeId} {x ix:Operand} {j:Bool} (b:WM cx st ctx T x ix j=some (φ,d)) (U:EQ φ):Wu cx.P st E w Z B ty (.lookup T x ix j) d:=by
 simp only[WM,qG,bind_some]at b;obtain⟨ti,ak,F,⟨a7,I,ae⟩,au,aj,b⟩:=b;have aa:=h.c1 n (bind_some.2 ⟨a7,I,ae⟩);obtain⟨ab,_⟩:=h.ev n aj;split at b
 . rename_i ar r o c ad;simp only[bind_some]at b;obtain⟨es,af,k,ah,b⟩:=b;have a3:(∃V,c= .sl V/\j=false/\o=false/\φ=some (I6 r k es=none)/\d=one1 (.raw (.slice none 0 0)))\/(Ra c=true/\some (φ,d)=some ((none:Option Prop),bif j then DV.tup [⟨o,explode c ((I6 r k es).getD c.dflt)⟩,⟨false,[.val .bool (I6 r k es).isSome]⟩]else .one ⟨o,explode c ((I6 r k es).getD c.dflt)⟩)):=by
    cases s:ti.rows&&C3i F&&C0l c&& !j&& !o with
    |true=>
     simp only[s,qR]at b;cases b;simp only[qC,rL]at s;cases c<;>simp[C0l]at s;exact .inl ⟨_,rfl,s.1.2,s.2,rfl,rfl⟩
    |false=>
     simp only[s,rG]at b;cases A:Ra c with
     |false=>simp[A]at b
     |true=>simp only[A,qR]at b;exact .inr ⟨rfl,b.symm⟩
   have ai:Ra c=true:=by
    rcases a3 with⟨V,rfl,_⟩ | ⟨h,_⟩
    . rfl
    exact h
   obtain⟨R,v,ao,f⟩:=Vn (B9 am ak) ad;have t:=Em ab ah;obtain⟨z,J,M⟩:=Fx ao;have a6:Bf o c w Z z c.dflt:=by
    have s:=MJ (w:=w) (Z:=Z) ai;rw[<-M]at s;unfold MI at f;rw[J]at f;cases z with
    |agg A=>cases o<;>simp at f;exact⟨A.toList,by simp,s⟩
    |tuple _=>simp at f
    | _=>cases o<;>simp at f<;>exact s
   have ap:∃u y,(∀a,R1 w a->(Instr.lookup T (Gw.ev E x) (Gw.ev E ix) j).run cx.P a= .ok (if j then .tuple #[u, .bool y]else u) a)/\Bf o c w Z u ((I6 r k es).getD c.dflt)/\y=(I6 r k es).isSome/\(y=false->u=z):=by
    rcases A3u h aa.1 af with⟨e,a5⟩ | ⟨D,X,W,e,a4,a2,O⟩
    . refine⟨z,false,λa _=>?_,by rw[a5];exact a6,by rw[a5];rfl,λ_=>rfl⟩;have s:=λem=>Qy v t a em
      have A:=Yx (Rv:=λ_ (_:c.den)=>True) v t a (l:= []) (es:= []) rfl;unfold Instr.lookup;simp only[Sem.run_bind,run_underlying R,Result.andThen_ok,e,Sem.run_pure,s,A,P5,g2b,pB J]
    rcases CO (k:=k) (i:=0) O with⟨G,H⟩ | ⟨aq,a8,av,G,H,Y,a9,_⟩
    . refine⟨z,false,λa g=>?_,by rw[H];exact a6,by rw[H];rfl,λ_=>rfl⟩;have s:=λem=>Qy v t a em
      have A:=Yx v t a O;have Q:(getObj D).run cx.P a= .ok (.map X W) a:=by simp[getObj,Sem.run,g.block D a4,a2]
      unfold Instr.lookup;simp only[Sem.run_bind,run_underlying R,Result.andThen_ok,e,Sem.run_pure,Q,s,A,G,g2b,pB J]
    refine⟨a8.val,true,λa g=>?_,by rw[Y];exact a9,by rw[Y];rfl,λag=>(by cases ag)⟩;have s:=λem=>Qy v t a em
    have A:=Yx v t a O;have Q:(getObj D).run cx.P a= .ok (.map X W) a:=by simp[getObj,Sem.run,g.block D a4,a2]
    rw[sC]at G;unfold Instr.lookup;simp only[Sem.run_bind,run_underlying R,Result.andThen_ok,e,Sem.run_pure,Q,s,A,G,wD,H,wJ]
   obtain⟨u,y,N,a0,a1,ac⟩:=ap;rcases a3 with⟨V,rfl,rfl,rfl,rfl,rfl⟩ | ⟨_,b⟩
   . have U:I6 r k es=none:=U;have an:u= .slice none 0 0:=by
      rw[ac (by rw[a1,U];rfl)];unfold MI at f;rw[J]at f;cases z with
      |agg s=>simp at f
      |tuple _=>simp at f
      |slice s A F=>simp[Dz,Value.cells]at M;obtain⟨rfl,rfl,rfl⟩:=M;rfl
      | _=>simp[Dz,Value.cells]at M
     refine⟨u,λa g=>λ_ _ _ _=>?_,λE'=>?_,λF n=>?_⟩
     . have:=N a (g rfl);simp at this;simp[execOp,this]
     . rw[an];exact⟨_,[],rfl,⟨rfl,rfl⟩,rfl⟩
     simp at n;subst n;trivial
   cases j with
   |true=>
    simp only[qR]at b;cases b;refine⟨.tuple #[u, .bool y],λa g=>λ_ _ _ _=>?_,λE'=>⟨[u, .bool y],rfl,u,_,rfl,Bf.explode a0,_,_,rfl,⟨_,[],rfl,by rw[a1];rfl,rfl⟩,rfl⟩,λa7 I=>?_⟩
    . simp[execOp,N a (g rfl)]
    simp at I;rcases I with rfl|rfl
    . exact E8
    intro F n;simp at n;subst n;trivial
   |false=>
    simp only[rG]at b;cases b;refine⟨u,λa g=>λ_ _ _ _=>?_,λE'=>Bf.explode a0,E8⟩;simp[execOp,N a (g rfl)]
 cases b
def B1u (h:C2 za w0 st E w Z B) (c:P7 E ctx) {fn:Fn} {first b:List Operand} (a:B1t st ctx fn first b=some (φ,d)):Wu cx.P st E w Z B ty (.makeFunc fn first.toArray b.toArray) d:=by
 unfold B1t at a;split at a
 . simp only[qG,bind_some]at a;obtain⟨j,g,i,f,a⟩:=a;cases a;exact C0w h c g f
 cases a
def Ug {k:IntKind} {a b:Int} (c:FT k a) (d:FT k b):FT k (max a b)/\FT k (min a b):=by unfold FT at*;omega
def RC.int {k:IntKind} {a:Int} {v:Value} (h:RC w Z B (.val (.int k) a) v):v= .int k a/\FT k a:=by
 obtain⟨b,c⟩:=h;simp only[sI,vO]at b;exact⟨b,c⟩
def fP (h:C2 za w0 st E w Z B) (J:G8 cx.P cx.tys=true) (i:P7 E ctx) {b:Builtin} {args:List Operand} {ts:List TypeId} (a:NG cx st ctx b args ts=some (φ,d)) (V:EQ φ):Wu cx.P st E w Z B ty (.call ⟨.builtin b,args.toArray,ts.toArray⟩) d:=by
 unfold NG at a;split at a
 . rename_i M T;simp only[qG,bind_some]at a;obtain⟨ti,I,u,⟨s,f,j⟩,X,H,a⟩:=a;have g:=h.c1 i (bind_some.2 ⟨s,f,j⟩);split at a
   . cases a
   . rename_i s v;cases a;obtain rfl:X=(s.data.toList.length:Int):=by simpa[B6a]using H.symm
     have U:Gw.ev E M= .string s:=(g3w (show [Gw.ev E M]= [.string s]from g.1)).1;exact Gt (λy _=>A7z U (YT (B9 J I) v)) ⟨rfl,⟨g2h (δ:(i64.min:Int)<=0) (qF _),V⟩⟩ trivial
   . cases a
   . rename_i a1 v Q f;cases a;refine C0q h g.1 H (DT (B9 J I) v).1 (λk x=>?_) (λs x=>?_)
     . subst x;exact Q _ rfl
     subst x;exact f _ rfl
   cases a
 . simp only[qG,bind_some]at a;obtain⟨u,⟨s,f,j⟩,A,⟨t,o,n⟩,a⟩:=a;have g:=h.c1 i (bind_some.2 ⟨s,f,j⟩);have l:=h.c1 i (bind_some.2 ⟨t,o,n⟩);split at a
   . rename_i k z r b;cases c:decide (k=r)with
     |false=>simp[c]at a
     |true=>
      simp only[c,qR]at a;cases a;have:=qA c;subst this;have D:=RC.int g.1;have F:=RC.int l.1;exact Gt (λy _=>C2d D.1 F.1) ⟨rfl,(Ug D.2 F.2).1⟩ trivial
   cases a
 . simp only[qG,bind_some]at a;obtain⟨u,⟨s,f,j⟩,A,⟨t,o,n⟩,a⟩:=a;have g:=h.c1 i (bind_some.2 ⟨s,f,j⟩);have l:=h.c1 i (bind_some.2 ⟨t,o,n⟩);split at a
   . rename_i k z r b;cases c:decide (k=r)with
     |false=>simp[c]at a
     |true=>
      simp only[c,qR]at a;cases a;have:=qA c;subst this;have D:=RC.int g.1;have F:=RC.int l.1;exact Gt (λy _=>C2f D.1 F.1) ⟨rfl,(Ug D.2 F.2).2⟩ trivial
   cases a
 . simp only[qG,bind_some]at a;obtain⟨u,⟨s,f,j⟩,A,⟨t,o,n⟩,a0,⟨Y,R,O⟩,a⟩:=a;have g:=h.c1 i (bind_some.2 ⟨s,f,j⟩);have l:=h.c1 i (bind_some.2 ⟨t,o,n⟩);have N:=h.c1 i (bind_some.2 ⟨Y,R,O⟩);split at a
   . rename_i k z r b W u;cases c:decide (k=r)&&decide (k=W)with
     |false=>simp only[c,rG]at a;cases a
     |true=>
      simp only[c,qR]at a;cases a;simp only[qC,rU]at c;obtain⟨rfl,rfl⟩:=c;have D:=RC.int g.1;have F:=RC.int l.1;have G:=RC.int N.1;exact Gt (λy _=>C2e D.1 F.1 G.1) ⟨rfl,(Ug (Ug D.2 F.2).1 G.2).1⟩ trivial
   cases a
 cases a
def DJ (h:C2 za w0 st E w Z B) (c:G8 cx.P cx.tys=true) (b:P7 E ctx) {op:Op} (a:Ut cx st ctx op=some (φ,d)) (f:EQ φ):Wu cx.P st E w Z B ty op d:=by
 unfold Ut at a;split at a
 . exact(A3w h b a).1
 . exact(A3w h b a).2
 . exact A6s h b a
 . exact B3y h b a
 . exact A5i h c b a f
 . exact gB h a
 . exact VU h c b a
 . exact A0i h c b a
 . exact A6i h c b a
 . exact B0q h c b a f
 . exact A0m h c b a f
 . exact nD h c b a f
 . exact A1w h c b a f
 . exact A5u h c b a
 . rename_i T g;have:=pZ (ty:=ty) h c b a;simpa using this
 . exact B1z h b a
 . have:=B1u (cx:=cx) (ty:=ty) h b a;simpa using this
 . have:=fP (ty:=ty) h c b a f;simpa using this
 cases a
end
def B3n (sz:Nat) (lo a:Int):C->C
 | .val (.sl t) l=>bif Nat.beq sz t.size then .val (.sl t) ((l.take a.toNat).drop lo.toNat)else .dead
 | _=> .dead
def EM (k:Nat) (a:C):C->C
 | .win j sz d b=>bif Nat.beq j k then B3n sz d b a else .win j sz d b
 | .row j=>bif Nat.beq j k then a else .row j
 | .mp j=>bif Nat.beq j k then a else .mp j
 |c=>c
def mB (k:Nat) (a:C) (s:SV):SV:=⟨s.agg,s.cs.map (EM k a)⟩
def JW (k:Nat) (a:C):DV->DV
 | .one s=> .one (mB k a s)
 | .tup b=> .tup (b.map (mB k a))
 | .cnd t b s=> .cnd t b (mB k a s)
 | .dead=> .dead
def mA (k:Nat) (a:C):LC->LC
 | .box T b=> .box T (b.map (EM k a))
 |x=>x
def mH (k:Nat):C->Bool
 | .win j _ _ _=>Nat.beq j k
 | .row j=>Nat.beq j k
 | .mp j=>Nat.beq j k
 | _=>false
def Yu (k:Nat):DV->Bool
 | .one s=>s.cs.any (mH k)
 | .tup a=>a.any λs=>s.cs.any (mH k)
 | .cnd _ _ s=>s.cs.any (mH k)
 | .dead=>false
def cS (k:Nat):LC->Bool
 | .box _ a=>a.any (mH k)
 | _=>false
def mapV {α:Type} (p:α->Bool) (f:α->α) (g:Nat):List (Nat×Nat×α)->List (Nat×Nat×α)
 | []=> []
 | (s,x)::l=>(s,bif p x.2 then(g,f x.2)else x)::mapV p f g l
def CQ {α:Type} (p:α->Bool) (f:α->α) (g:Nat) (d:Nat×α) (a:p d.2=false) (q:Nat):∀l:List (Nat×Nat×α),find d q (mapV p f g l)=bif p (find d q l).2 then(g,f (find d q l).2)else find d q l
 | []=>by simp[mapV,find,a]
 | (s,x)::l=>by
  simp only[mapV,find,CQ p f g d a q l];cases Nat.beq s q<;>rfl
def Yv {k:Nat} {a:C} :∀ {cs:List C},cs.any (mH k)=false->cs.map (EM k a)=cs
 | [],_=>rfl
 |c::cs,h=>by
  simp only[yB,rE]at h;rw[rW,Yv h.2];congr 1;cases c with
  |row j=>simp only[mH]at h;simp only[EM,h.1,rG]
  |mp j=>simp only[mH]at h;simp only[EM,h.1,rG]
  |win j _ _ _=>simp only[mH]at h;simp only[EM,h.1,rG]
  | _=>rfl
def cR {k:Nat} {b:C} {d:DV} (h:Yu k d=false):JW k b d=d:=by
 cases d with
 |one s=>simp only[JW,mB,Yv h]
 |cnd t a s=>simp only[JW,mB,Yv h]
 |dead=>rfl
 |tup a=>
  simp only[JW];congr 1;simp only[Yu]at h
  induction a with
  |nil=>rfl
  |cons s a c=>
   simp only[yB,rE]at h;rw[rW,c h.2];congr 1;simp only[mB,Yv h.1]
def A6a {k:Nat} {a:C} {l:LC} (h:cS k l=false):mA k a l=l:=by
 cases l with
 |box T b=>simp only[mA,Yv h]
 | _=>rfl
def St.freeze (a:St) (k:Nat) (b:C):St:=⟨mapV (Yu k) (JW k b) (a.ct+1) a.sl,mapV (cS k) (mA k b) (a.ct+1) (put k (a.ct+1, .none) a.lc),a.nx,a.ct+1,a.nm,a.fr.map (mapV (Yu k) (JW k b) (a.ct+1))⟩
def St.eS_freeze (a:St) (k:Nat) (b:C) (s:Nat):(a.freeze k b).eS s=bif Yu k (a.S s)then(a.ct+1,JW k b (a.S s))else a.eS s:=CQ _ _ _ _ rfl _ _
def St.S_freeze (a:St) (k:Nat) (b:C) (s:Nat):(a.freeze k b).S s=JW k b (a.S s):=by
 show((a.freeze k b).eS s).2= _;rw[St.eS_freeze];cases h:Yu k (a.S s)with
 |true=>rfl
 |false=>exact(cR h).symm
def St.eL_freeze (a:St) (k:Nat) (b:C) (q:Nat):(a.freeze k b).eL q=bif cS k (if q=k then(a.ct+1,LC.none)else a.eL q).2 then(a.ct+1,mA k b (if q=k then(a.ct+1,LC.none)else a.eL q).2)else(if q=k then(a.ct+1,LC.none)else a.eL q):=by
 show find (0, .none) q (mapV (cS k) (mA k b) (a.ct+1) (put k (a.ct+1, .none) a.lc))= _;rw[CQ _ _ _ _ rfl,Yt];rfl
def St.L_freeze (a:St) (k:Nat) (b:C) (q:Nat):(a.freeze k b).L q=mA k b (if q=k then .none else a.L q):=by
 show((a.freeze k b).eL q).2= _;rw[St.eL_freeze];have e:(if q=k then(a.ct+1,LC.none)else a.eL q).2=if q=k then LC.none else a.L q:=by split<;>rfl
 rw[e];cases h:cS k (if q=k then LC.none else a.L q)with
 |true=>rfl
 |false=>rw[rG,e];exact(A6a h).symm
def cQ {w:World} {v:Value} {b k:Nat} {a:C} {l:LC} :B6 w v (mA k a l) b↔B6 w v l b:=by cases l<;>exact xS
section
variable {za:Zn} {w0 w w':World} {Z:Nat->Prop} {B:Nat->Value} {st:St} {E:G9} {n:Nat}
section frz
variable {k:Nat} {c':C} (hc':∀v,v=B k->RC w Z B c' v) (hr':Cq n c')
include hc' in
theorem B5l {c:C} {v:Value} (h:RC w Z B c v):RC w Z B (EM k c' c) v:=by
 cases c with
 |row j=>
  simp only[EM];cases a:Nat.beq j k with
  |true=>have:=qD a;subst this;exact hc' v h
  |false=>exact h
 |mp j=>
  simp only[EM];cases a:Nat.beq j k with
  |true=>have:=qD a;subst this;exact hc' v h
  |false=>exact h
 |win j sz E A=>
  simp only[EM];cases i:Nat.beq j k with
  |true=>
   have:=qD i;subst this;have a:=hc' (B j) rfl;simp only[qR];unfold B3n;split
   . rename_i t D;cases l:Nat.beq sz t.size with
     |false=>trivial
     |true=>
      have:=qD l;subst this;obtain⟨r,n,s,g,y,z,b,d,f,u,x,o⟩:=h;rw[g]at a;rw[o];exact A4m a b d f
   trivial
  |false=>exact h
 | _=>exact h
include hr' in
theorem B0e {c:C} (h:Cq n c):Cq n (EM k c' c):=by
 cases c with
 |row j=>
  simp only[EM];cases Nat.beq j k with
  |true=>exact hr'
  |false=>exact h
 |mp j=>
  simp only[EM];cases Nat.beq j k with
  |true=>exact hr'
  |false=>exact h
 |win j sz b a=>
  simp only[EM];cases Nat.beq j k with
  |true=>
   simp only[qR];unfold B3n;split
   . cases Nat.beq sz _ <;>trivial
   trivial
  |false=>exact h
 | _=>exact h
include hc' in
theorem JV:∀ {cs:List C} {vs:List Value},Ct w Z B cs vs->Ct w Z B (cs.map (EM k c')) vs
 | [],_,h=>h
 | _:: _,_,⟨v,c,e,a,b⟩=>⟨v,c,e,B5l hc' a,JV b⟩
include hr' in
theorem CR {cs:List C} (h:∀c∈cs,Cq n c):∀c∈cs.map (EM k c'),Cq n c:=λc d=>by
 obtain⟨a,b,rfl⟩:=tX.1 d;exact B0e hr' (h a b)
include hc' in
theorem gE:∀ {s:SV} {v:Value},RS w Z B s v->RS w Z B (mB k c' s) v
 | ⟨true,_⟩,_,⟨a,e,h⟩=>⟨a,e,JV hc' h⟩
 | ⟨false,_⟩,_,h=>JV hc' h
include hc' in
theorem mC:∀ {ss:List SV} {vs:List Value},Nh w Z B ss vs->Nh w Z B (ss.map (mB k c')) vs
 | [],_,h=>h
 | _:: _,_,⟨v,c,e,a,b⟩=>⟨v,c,e,gE hc' a,mC b⟩
include hc' in
theorem A3e:∀ {d:DV} {v:Value},RD w Z B E d v->RD w Z B E (JW k c' d) v
 | .one _,_,h=>gE hc' h
 | .tup _,_,⟨a,e,h⟩=>⟨a,e,mC hc' h⟩
 | .cnd _ _ _,_,h=>h.imp (fun⟨a,b⟩=>⟨a,gE hc' b⟩) id
 | .dead,_,_=>trivial
include hr' in
theorem lZ:∀ {d:DV},KW n d->KW n (JW k c' d)
 | .one _,h=>CR hr' h
 | .tup f,h=>λs b=>by
  obtain⟨c,a,rfl⟩:=tX.1 b;exact CR hr' (h c a)
 | .cnd _ _ _,h=>CR hr' h
 | .dead,_=>trivial
theorem mD (s:Nat) (f:List (Nat×Nat×DV)) (g:Nat):(find (0, .dead) s (mapV (Yu k) (JW k c') g f)).2=JW k c' (find (0, .dead) s f).2:=by
 rw[CQ _ _ _ _ rfl];cases h:Yu k (find (0,DV.dead) s f).2 with
 |true=>rfl
 |false=>exact(cR h).symm
include hc' in
theorem A3f {g:Nat} :∀ {es:List G9} {a:List (List (Nat×Nat×DV))},RF w Z B es a->RF w Z B es (a.map (mapV (Yu k) (JW k c') g))
 | [],[],_=>trivial
 | _:: _,_:: _,⟨a,b⟩=>⟨λs=>by rw[mD];exact A3e hc' (a s),A3f b⟩
 | [],_:: _,h=>h.elim
 | _:: _,[],h=>h.elim
include hr' in
theorem B0f {g:Nat} {a:List (List (Nat×Nat×DV))} (h:jZ n a):jZ n (a.map (mapV (Yu k) (JW k c') g)):=λf d s=>by
 obtain⟨b,c,rfl⟩:=tX.1 d;rw[mD];exact lZ hr' (h b c s)
include hr' in
theorem B0g:∀ {d:LC},Zz n d->Zz n (mA k c' d)
 | .box _ _,h=>CR hr' h
 | .none,_=>trivial
 | .row _ _ _,_=>trivial
 | .map _ _ _ _ _,_=>trivial
 | .rows _ _ _ _ _ _,h=>h
 | .al _,h=>h
 | .sbox _ _ _,h=>h
 | .iter _ _ _ _ _ _,h=>h
 | .mapE _ _ _ _ _ _ _,h=>h
 | .nest _ _ _ _ _ _,h=>h
 | .itM _ _ _ _ _ _ _ _,h=>h
end frz
def Hz {d e sz m:Nat} {v:Value} {xs:List Value} {b f:Nat} (h:w.ownsRow d e sz v m xs) (j:v= .slice (some ⟨b,0,none⟩) m f):I0 w ⟨b,0,none⟩ xs:=λo u a=>by
 subst j;rcases h.2 with⟨c,_⟩ | ⟨n,k,l,c,_,g,_,_,_,i⟩
 . cases c
 cases c;rw[J9,sC];simp only[World.cell?,g];rw[<-i,wA]at a;split at a
 . simpa using a
 cases a
def Cn {t:Ty} {d e:Nat} {v:Value} {l:List t.den} {xs:List Value} (c:w.ownsRow d e t.size v l.length xs) (i:G5 (C6 t w Z) xs l) (o:∀b,v.ownBlock=some b->Z b):C6 (.sl t) w Z [v] l:=by
 rcases c.2 with⟨a,n⟩ | ⟨g,f,r,a,_,s,h,k,_⟩
 . have:l= []:=qM n;subst this;subst a;exact⟨none,0,rfl,qU _,rS _,λ_=>rfl, .inl rfl⟩
 exact⟨some ⟨g,0,none⟩,f,by rw[a],h,k,λj=>(by cases j), .inr ⟨g,0,xs,rfl,o g (by rw[a];rfl),Hz c a,i⟩⟩
def Qv {t:Ty} {k e e':Nat} {ls:List (List t.den)} {al:List (Nat×Nat)} {d:Option Nat} {xs:List Value} (c:w.ownsRow 0 e 1 (B k) ls.length xs) {i b:Nat} {x:Value} (o:Eb d i=false) (a:xs[i]? =some x) (l:root x=some b):B6 w (B k) (.rows t e e' ls al d) b:=by
 refine .inr ?_;rcases c.2 with⟨f,s⟩ | ⟨j,g,h,f,_,n,z,_,A,u⟩
 . have:=c.1;rw[s]at this;have v:xs= []:=qM ω;rw[v]at a;cases a
 have r:i<ls.length:=by have:=(sR.1 a).1;have y:=c.1;omega
 refine⟨j,_,g,h,e,i,x,f,n,r,o,?_,l⟩;rw[<-u,rX ω]at a;simpa using a
def VL {α:Type} {R:List Value->α->Prop} :∀ {l:List α} {cs:List Value},cs.length=l.length->(∀(i:Nat) (a:α) (x:Value),l[i]? =some a->cs[i]? =some x->R [x] a)->G5 R cs l
 | [],cs,h,_=>qM h
 |a::l,[],h,_=>by simp at h
 |a::l,x::cs,h,b=>⟨[x],cs,rfl,b 0 a x rfl rfl,VL (by simpa using h) λi a x c d=>b (i+1) a x (by simpa using c) (by simpa using d)⟩
def Uz {t:Ty} {e e' i b n:Nat} {v x:Value} {ls:List (List t.den)} {al:List (Nat×Nat)} {xs:List Value} (c:w.ownsRow 0 e 1 v n xs) (a:xs[i]? =some x) (j:root x=some b):B6 w v (.rows t e e' ls al none) b:=by
 refine .inr ?_;rcases c.2 with⟨d,o⟩ | ⟨h,f,g,d,_,k,y,_,z,r⟩
 . have:=c.1;rw[o]at this;have s:xs= []:=qM ω;rw[s]at a;cases a
 have l:i<n:=by have:=(sR.1 a).1;have u:=c.1;omega
 refine⟨h,_,f,g,e,i,x,d,k,l,rfl,?_,j⟩;rw[<-r,rX ω]at a;simpa using a
def eG {Z':Nat->Prop} {t:Ty} {e e':Nat} {v:Value} {ls:List (List t.den)} {al:List (Nat×Nat)} (h:Cl w Z t e e' v ls) (l:∀b,Z b->Z' b) (f:∀b,B6 w v (.rows t e e' ls al none) b->Z' b):C6 (.sl (.sl t)) w Z' [v] ls:=by
 obtain⟨u,a,j,r,s⟩:=h;refine Cn (t:= .sl t) a (VL (by have:=a.1;omega) λn o x k g=>?_) (λb c=>f b (.inl ((E4 a).trans c)));obtain⟨y,d,i⟩:=j n o x k g;exact Cn d (i.mono λ_ _=>C6.mono l (λ_ _=>rfl)) (λb c=>f b (Uz a g ((E4 d).trans c)))
def oB {U Z':Nat->Prop} {t:Ty} {k e e':Nat} {ls:List (List t.den)} {al:List (Nat×Nat)} (h:RL U w Z B k (.rows t e e' ls al none)) (c:∀b,Z b->Z' b) (a:∀b,B6 w (B k) (.rows t e e' ls al none) b->Z' b):C6 (.sl (.sl t)) w Z' [B k] ls:=eG h.rowsR c a
def Cl.wf {t:Ty} {e e':Nat} {v:Value} {ls:List (List t.den)} (h:Cl w Z t e e' v ls):(Ty.sl (Ty.sl t)).wf ls:=C6.wf (eG (al:= []) h (Z':=λ_=>True) (λ_ _=>trivial) (λ_ _=>trivial))
def C2.freeze (h:C2 za w0 st E w Z B) {k:Nat} {f:C} (H:st.nm<=k) (y:RC w (λb=>Z b\/B6 w (B k) (st.L k) b) B f (B k)) (l:∀n,Cq n f):C2 za w0 (st.freeze k f) E w (λb=>Z b\/B6 w (B k) (st.L k) b) B:=by
 have c:C2 za w0 (st.setL k .none) E w (λb=>Z b\/B6 w (B k) (st.L k) b) B:=by
  refine(h.drop k).keep h.ext (qU _) (λ_ _=>rfl) (λ_=> .inl) (λb d=>?_);rcases d with d|d
  . exact .inl d
  obtain⟨g,u,_⟩:=(h.locs k).root d;refine .inr ⟨u,?_,λq a=>?_⟩
  . rcases g with g|g
    . exact g.2
    have:=h.nms.1;omega
  rw[St.L_setL]at a;by_cases j:q=k
  . rw[qT j]at a;exact a.elim
  rw[qL j]at a;exact h.disj q k b j a d
 have i:∀v,v=B k->RC w (λb=>Z b\/B6 w (B k) (st.L k) b) B f v:=λv hv=>by subst hv;exact y
 refine⟨c.ext,c.zlt,λs=>?_,λq=>?_,λq D b A r t=>?_,λs=>?_,λq=>?_,λq a=>?_,c.bone,c.zin,c.nms,c.bfix,⟨c.mrk.1,λq b z o=>c.mrk.2 q b z (by rw[St.L_freeze,cQ, <-St.L_setL]at o;exact o)⟩,A3f i c.frs,B0f (l _) c.frf⟩
 . rw[St.S_freeze];exact A3e i (c.slots s)
 . rw[St.L_freeze, <-St.L_setL];have:=c.locs q;cases a:(st.setL k .none).L q with
   |box T G=>
    rw[a]at this;obtain⟨b,F,d,g,j,u,x⟩:=this;exact⟨b,F,d,g,j,u,JV i x⟩
   |none=>trivial
   |row _ _ _=>rw[a]at this;exact this
   |map _ _ _ _ _=>rw[a]at this;exact this
   |rows _ _ _ _ _ _=>rw[a]at this;exact this
   |al _=>trivial
   |sbox _ _ _=>rw[a]at this;exact this
   |iter _ _ _ _ _ _=>rw[a]at this;exact this
   |mapE _ _ _ _ _ _ _=>rw[a]at this;exact this
   |nest _ _ _ _ _ _=>rw[a]at this;exact this
   |itM _ _ _ _ _ _ _ _=>rw[a]at this;exact this
 . rw[St.L_freeze,cQ, <-St.L_setL]at r t;exact c.disj q D b A r t
 . rw[St.S_freeze];exact lZ (l _) (c.refs s)
 . rw[St.L_freeze, <-St.L_setL];exact B0g (l _) (c.refl q)
 rw[St.L_freeze, <-St.L_setL,c.fresh q a];rfl
def gY {f g:Bool} {c d:Ty} {b:Nat} {a:Array MapEntry} {cl:Nat} {es:List (c.den×d.den)} (h:w.heap[b]? =some (.map a cl)) (j:MOk a cl) (i:Kh w Z f c g d a.toList es) (k:Z b):C6 (.mp f c g d) w Z [.map (some b)] es:= .inr ⟨b,a,cl,rfl,k,h,j,i⟩
def settle:St->List C->St
 |st,[]=>st
 |st, .row k::a=>match st.L k with
  | .row t _ l=>settle (bif Nat.ble st.nm k then st.freeze k (.val (.sl t) l)else st) a
  | .rows t _ _ b _ none=>settle (bif Nat.ble st.nm k then st.freeze k (.val (.sl (.sl t)) b)else st) a
  | _=>settle st a
 |st, .win k _ _ _::a=>match st.L k with
  | .row t _ l=>settle (bif Nat.ble st.nm k then st.freeze k (.val (.sl t) l)else st) a
  | _=>settle st a
 |st, .mp k::a=>match st.L k with
  | .map c d f g b=>settle (bif Nat.ble st.nm k then st.freeze k (.val (.mp c d f g) b)else st) a
  | _=>settle st a
 |st,_::a=>settle st a
def C2.settle (h:C2 za w0 st E w Z B):∀cs:List C,∃Z',C2 za w0 (settle st cs) E w Z' B:=by
 intro cs
 induction cs generalizing st Z with
 |nil=>exact⟨Z,h⟩
 |cons f cs a=>
  cases f with
  |row k=>
   simp only[Vc.settle];cases b:st.L k with
   |row t e r=>
    cases j:Nat.ble st.nm k with
    |false=>exact a h
    |true=>
     have c:=h.locs k;rw[b]at c;obtain⟨s,d,i,o⟩:=c;have l:=E4 d;exact a (h.freeze (qP j) (Cn d (i.mono λ_ _=>C6.mono (λ_=> .inl) (λ_ _=>rfl)) (λn g=> .inr (by rw[b];exact l.trans g))) (λ_=>trivial))
   |rows t e l n al i=>
    cases i with
    |some _=>exact a h
    |none=>
     cases g:Nat.ble st.nm k with
     |false=>exact a h
     |true=>
      have c:=h.locs k;rw[b]at c;exact a (h.freeze (qP g) (oB c (λ_=> .inl) λj d=> .inr (by rw[b];exact d)) (λ_=>trivial))
   | _=>exact a h
  |win k _ _ _=>
   simp only[Vc.settle];cases c:st.L k with
   |row t e r=>
    cases j:Nat.ble st.nm k with
    |false=>exact a h
    |true=>
     have b:=h.locs k;rw[c]at b;obtain⟨s,d,i,o⟩:=b;have l:=E4 d;exact a (h.freeze (qP j) (Cn d (i.mono λ_ _=>C6.mono (λ_=> .inl) (λ_ _=>rfl)) (λn g=> .inr (by rw[c];exact l.trans g))) (λ_=>trivial))
   | _=>exact a h
  |mp k=>
   simp only[Vc.settle];cases c:st.L k with
   |map s t u v r=>
    cases j:Nat.ble st.nm k with
    |false=>exact a h
    |true=>
     have b:=h.locs k;rw[c]at b;obtain⟨l,o,n,e,_,_,d,i,g⟩:=b;exact a (h.freeze (qP j) (by rw[e];exact gY d i (g.mono (λ_=> .inl) (λ_ _=>rfl)) (.inr (by rw[c];rfl))) (λ_=>trivial))
   | _=>exact a h
  | _=>exact a h
def stillB (cx:Cx) (st:St) (k:Nat):St:=match st.L k with
 | .box T a=>bif Nat.ble st.nm k then(match cx.ti T with
  |some ti=>match(settle st a).L k with
   | .box _ b=>(match Lw ti.ty b with
    |some (x,[])=>((settle st a).setL k .none).setL k (.sbox k ti.ty x)
    | _=>st)
   | _=>st
  |none=>st)else st
 | _=>st
def C2.stillB (h:C2 za w0 st E w Z B) (cx:Cx) (k:Nat):∃Z',C2 za w0 (stillB cx st k) E w Z' B:=by
 unfold Vc.stillB;split
 . rename_i T b I;cases x:Nat.ble st.nm k with
   |false=>exact⟨Z,h⟩
   |true=>
    simp only[qR];split
    . rename_i ti J;obtain⟨Z1,a⟩:=h.settle b;split
      . rename_i T' F i;split
        . rename_i D y;have o:k<(Vc.settle st b).nx:=by
           by_cases d:k<(Vc.settle st b).nx
           . exact d
           rw[a.fresh k ω]at i;cases i
          have n:=a.locs k;rw[i]at n;obtain⟨g,A,e,G,H,r,s⟩:=n;have v:∀c,B6 w (B k) ((Vc.settle st b).L k) c↔c=g:=λc=>by
           rw[i,e];simp only[B6,root,rC];exact eq_comm
          have t:C2 za w0 ((Vc.settle st b).setL k .none) E w (λc=>Z1 c\/B6 w (B k) ((Vc.settle st b).L k) c) B:=by
           refine(a.drop k).keep a.ext (qU _) (λ_ _=>rfl) (λ_=> .inl) (λc d=>?_);rcases d with d|d
           . exact .inl d
           obtain⟨j,z,_⟩:=(a.locs k).root d;refine .inr ⟨z,?_,λq f=>?_⟩
           . rcases j with j|j
             . exact j.2
             have M:=a.nms.1;have N:=h.nms.1;have:=qP x;omega
           rw[St.L_setL]at f;by_cases l:q=k
           . rw[qT l]at f;exact f.elim
           rw[qL l]at f;exact a.disj q k c l f d
          have u:=t.addL (k:=k) (lc:= .sbox k ti.ty D) o ⟨rfl,⟨g,0,A.toList,by rw[e], .inr ((v g).2 rfl),r.cellsAt,(Gq s y).mono (λ_=> .inl) (λ_ _=>rfl)⟩,g,e⟩ (λ_ _ _ hh=>hh.elim) o (λ_ _ hh=>hh.elim);exact⟨_,u⟩
        exact⟨Z,h⟩
      exact⟨Z,h⟩
    exact⟨Z,h⟩
 exact⟨Z,h⟩
def settleO (st:St) (x:Operand):St:=match st.ev [] x with
 |some s=>settle st s.cs
 |none=>st
def C2.settleO (h:C2 za w0 st E w Z B) (x:Operand):∃Z',C2 za w0 (settleO st x) E w Z' B:=by
 unfold Vc.settleO;split
 . exact h.settle _
 exact⟨Z,h⟩
end
section
variable {P:Program} {all:List Oper} {E:G9} {w w':World} {next:G9->World->Prop} {d:Nat} {op:Op} {ty:TypeId} {pos:String} {aft:Array Edge} {g:Option (Nat×Bool)} {v:Value}
def S0 (b:Gw.D9 P E ty op w v w') (a:D6 all ⟨some d,op,ty,pos,aft,g⟩ E=true) (h:next (upd E d v) w'):J8 P all ⟨some d,op,ty,pos,aft,g⟩ next E w:=by
 unfold J8;rw[qT a,b];exact h
def A4w (b:Gw.D9 P E ty op w v w') (a:D6 all ⟨none,op,ty,pos,aft,g⟩ E=true) (h:next E w'):J8 P all ⟨none,op,ty,pos,aft,g⟩ next E w:=by
 unfold J8;rw[qT a,b];exact h
def Vj (b:Gw.IX P E ty op w w') (a:D6 all ⟨none,op,ty,pos,aft,g⟩ E=true) (h:next E w'):J8 P all ⟨none,op,ty,pos,aft,g⟩ next E w:=by
 unfold J8;rw[qT a,b];exact h
def AG {f:FuncId} {args:List Value} {Φ:Value->World->Prop} (a:Gw.pF P E ty op w f args) (b:Gw.aI P f args w Φ) (c:D6 all ⟨some d,op,ty,pos,aft,g⟩ E=true)
 (h:∀v w',Φ v w'->next (upd E d v) w'):J8 P all ⟨some d,op,ty,pos,aft,g⟩ next E w:=by
 unfold J8;rw[qT c,a];exact Calls.mono b λ_ _ ⟨v,a,hv⟩=>⟨v,a,h _ _ hv⟩
def Mn (a:D6 all ⟨some d,op,ty,pos,aft,g⟩ E=false) (h:next (upd E d undef) w):J8 P all ⟨some d,op,ty,pos,aft,g⟩ next E w:=by
 unfold J8;rw[qL (by rw[a];simp)];exact h
end
def wrB:Op->Bool
 | .store _ _ _=>true
 | .mapUpdate _ _ _ _=>true
 | .insert _ _ _ _=>true
 | .next _ _=>true
 | .mapEntry _ _ _=>true
 | .entryStore _ _ _ _=>true
 | .call ⟨.builtin .append,_,_⟩=>true
 | .call ⟨.builtin .copy,_,_⟩=>true
 | .call ⟨.builtin .delete,_,_⟩=>true
 | .call ⟨.builtin .clear,_,_⟩=>true
 | _=>false
def Nx (c:Zn) (b:World) (k:St->Prop) (E:G9) (w:World):Prop:=∃a Z B,C2 c b a E w Z B/\k a
def bX (b:Zn) (a w:World) (wr:Bool) (k:St->Prop) (E:G9) (w':World):Prop:=(wr=false->R1 w w')/\Nx b a k E w'
def Rm (t:Ty):Nat->List (Nat×List C)->Option (List t.den)
 | _,[]=>some []
 |i,(j,a)::r=>bif Nat.beq i j then(match Lw t a with
  |some (x,[])=>(Rm t (i+1) r).map (x:: ·)
  | _=>none)else none
def settleP:St->List (Nat×Operand)->St
 |a,[]=>a
 |a,(_,x)::r=>settleP (settleO a x) r
def gJ (a:St) (x:Operand):Option Int:=(a.ev [] x).bind SE
def Uc:Value->Bool
 | .slice none 0 0=>true
 | _=>false
def Gh {v:Value} (h:Uc v=true):v= .slice none 0 0:=by
 unfold Uc at h;split at h
 . rfl
 cases h
def VN (a:St) (t:Ty):C->Option (List t.den)
 | .val (.sl b) l=>if h:b=t then some (h▸l)else none
 | .row k=>match a.L k with
  | .row b _ l=>if h:b=t then some (h▸l)else none
  | _=>none
 | .win k sz c b=>match a.L k with
  | .row a _ l=>if h:a=t then(bif Nat.beq sz a.size then some (h▸((l.take b.toNat).drop c.toNat))else none)else none
  | _=>none
 | .raw v=>bif Uc v then some []else none
 | _=>none
def OV (a:St) (t:Ty) (e:TypeId):C->Option (List t.den)
 | .row k=>match a.L k with
  | .row c b l=>if h:c=t then(bif Nat.beq b e&&Nat.ble a.nm k then some (h▸l)else none)else none
  | _=>none
 | .raw v=>bif Uc v then some []else none
 | _=>none
def boxS (a:St) (d:Tmp) (T:TypeId) (cs:List C):St:=(a.newL (.box T cs)).setS d (one1 (.box a.nx 0))
def rowS (a:St) (d:Tmp) (t:Ty) (e:TypeId) (l:List t.den):St:=(a.newL (.row t e l)).setS d (one1 (.row a.nx))
def C0u (a:St) (d:Tmp) (b:Bool) (c:Ty) (f:Bool) (g:Ty):St:=(a.newL (.map b c f g [])).setS d (one1 (.mp a.nx))
def eH (a:St) (d:Tmp) (t:Ty) (e e':TypeId) (ls:List (List t.den)):St:=(a.newL (.rows t e e' ls [] none)).setS d (one1 (.row a.nx))
def WN (cx:Cx) (a:St) (d:Tmp) (ti:TI) (n:Nat):Option St:=match ti.ty with
 | .sl (.sl t)=>(cx.ti ti.elem).map λb=>eH a d t ti.elem b.elem (List.replicate n [])
 | _=>none
def B3l (c:Bool) (a:Ty) (d:Bool) (b:Ty):C->Option (List (a.den×b.den))
 | .val t f=>if h:t=Ty.mp c a d b then some (h▸f:(Ty.mp c a d b).den)else none
 | .raw (.map none)=>some []
 | _=>none
def A8p (a:St) (d:Tmp) (k:Nat) (t:Ty) (e e':TypeId) (ls:List (List t.den)) (al:List (Nat×Nat)) (i:Nat):St:=((a.newL (.al k)).setL k (.rows t e e' ls ((i,a.nx)::al) none)).setS d (one1 (.row a.nx))
def dropR (a:St):C->St
 | .row k=>a.setL k .none
 | _=>a
def HK (c:C):C->Bool
 | .win k _ _ _=>match c with
  | .row j=> !(Nat.beq j k)
  | _=>true
 | .row k=>match c with
  | .row j=> !(Nat.beq j k)
  | _=>true
 | _=>true
def slT:Ty->Option Ty
 | .sl t=>some t
 | _=>none
def B9i (cx:Cx) (a:St) (d:Tmp) (T:TypeId) (x y:Operand):Option (Option Prop×St):=do
 let ti<-cx.ti T
 let t<-slT ti.ty
 let b<-(a.ev [] x).bind c1
 let f<-(a.ev [] y).bind c1
 let l<-OV a t ti.elem b
 let c<-VN a t f
 bif HK b f&&Nat.ble 1 t.size then some (some ((l.length+c.length)*ti.bytes<=140737488355328/\l.length+c.length<=9223372036854775807),rowS (dropR a b) d t ti.elem (l++c))else none
def Le {α:Type} (l a:List α):List α:=a.take l.length++l.drop a.length
def lC (cx:Cx) (a:St) (d:Tmp) (T:TypeId) (x y:Operand):Option St:=do
 let ti<-cx.ti T
 let t<-slT ti.ty
 let c<-(a.ev [] x).bind c1
 let b<-(a.ev [] y).bind c1
 let f<-VN a t b
 match c with
 | .row k=>match a.L k with
  | .row c e l=>if h:c=t then(bif HK (.row k) b then some ((a.setL k (.row c e (Le l (h▸f)))).setS d (one1 (.val (.int .i64) (min (f.length:Int) (l.length:Int)))))else none)else none
  | _=>none
 | _=>none
def dF (cx:Cx) (a:St) (d:Tmp) (T:TypeId) (x:Operand):Option St:=do
 let ti<-cx.ti T
 let c<-(a.ev [] x).bind c1
 match c with
 | .elp k sz i f=>match a.L k with
  | .rows t e b c al none=>bif Nat.beq sz 1&&Nat.beq f 0&& !ti.agg then some (A8p a d k t e b c al i)else none
  | _=>none
 | _=>none
def B5a (a:St):C->St
 | .row q=>match a.L q with
  | .al k=>match a.L k with
   | .rows t e b c al none=>match FV q al with
    |some i=>bif Nat.ble a.nm k&&Nat.ble a.nm q then(a.setL k (.rows t e b c [] (some i))).setL q (.row t b (c.getD i []))else a
    |none=>a
   | _=>a
  | _=>a
 | _=>a
def detO (a:St) (x:Operand):St:=match(a.ev [] x).bind c1 with
 |some c=>B5a a c
 |none=>a
def A9u (cx:Cx) (a:St) (d:Tmp):Op->Option (Option Prop×St)
 | .box T x=>do
  let s<-a.ev [] x
  bif s.cs.all Ff then some (none,boxS a d T s.cs)else none
 | .alloc T=>do
  let ti<-cx.ti T
  some (none,boxS a d T (BY ti.ty))
 | .buildSlice T len b=>do
  let ti<-cx.ti T
  let t<-slT ti.ty
  let c:=settleP a b.toList
  let f<-Km c [] b.toList
  let b<-Rm t 0 f
  bif Nat.beq b.length len&&Nat.ble (len*t.size) 16777216&&Nat.ble 1 t.size then some (none,rowS c d t ti.elem b)else none
 | .makeSlice T c b=>do
  let ti<-cx.ti T
  let t<-slT ti.ty
  let l<-gJ a c
  let c<-gJ a b
  bif ti.rows then(WN cx a d ti l.toNat).map λb=>(some (0<=l/\l<=c/\(ti.bytes:Int)*c<=281474976710656/\c<=9223372036854775807),b)
  else bif Ra t then some (some (0<=l/\l<=c/\(ti.bytes:Int)*c<=281474976710656/\c<=9223372036854775807),rowS a d t ti.elem (List.replicate l.toNat t.dflt))else none
 | .call ⟨.builtin .append,b,c⟩=>match b.toList,c.toList with
  | [x,y],[T,T']=>bif Nat.beq T T' then B9i cx (detO a x) d T x y else none
  | _,_=>none
 | .makeMap T r=>do
  let ti<-cx.ti T
  match ti.ty,r with
  | .mp b c f g,none=>some (none,C0u a d b c f g)
  | .mp b c f g,some o=>(gJ a o).map λ_=>(none,C0u a d b c f g)
  | _,_=>none
 | .call ⟨.builtin .len,b,c⟩=>match b.toList,c.toList with
  | [x],[T]=>do
   let ti<-cx.ti T
   match ti.ty with
   | .mp f g h i=>do
    let c<-(a.ev [] x).bind c1
    let b<-B6g a f g h i c
    some (some (b.length<=9223372036854775807),a.setS d (one1 (.val (.int .i64) (b.length:Int))))
   | _=>none
  | _,_=>none
 | .load T x=>(dF cx a d T x).map λb=>(none,b)
 | .range T x=>do
  let ti<-cx.ti T
  match ti.ty with
  | .mp b c f g=>do
   let h<-((settleO a x).ev [] x).bind c1
   let i<-B3l b c f g h
   some (none,((settleO a x).newL (.iter b c f g i none)).setS d (one1 (.box (settleO a x).nx 0)))
  | _=>none
 | .entry x=>do
  let c<-(a.ev [] x).bind c1
  match c with
  | .box k f=>match a.L k with
   | .iter b c g h _ (some y)=>bif Nat.beq f 0 then some (none,a.setS d (.tup [⟨b,explode c y.1⟩,⟨g,explode h y.2⟩]))else none
   | _=>none
  | _=>none
 | .call ⟨.builtin .copy,b,c⟩=>match b.toList,c.toList with
  | [x,y],[T,_]=>(lC cx a d T x y).map λb=>(none,b)
  | _,_=>none
 | _=>none
section
variable {za:Zn} {w0 w w':World} {Z Z':Nat->Prop} {B:Nat->Value} {st st':St} {E:G9} {cx:Cx} {φ:Option Prop} {d:Tmp}
def S8.len {a b:Type} {Rk:Value->a->Prop} {Rv:Value->b->Prop} :∀ {l:List (a×b)} {es:List MapEntry},S8 Rk Rv es l->es.length=l.length
 | [],_,h=>by rw[show _= _ from h];rfl
 | _:: _,_,⟨e,c,b,_,_,a⟩=>by rw[b,rJ,rJ,S8.len a]
def Fe (h:C2 za w0 st E w Z B) {k:Nat} (a:live (st.L k)):k<st.nx:=by
 by_cases b:k<st.nx
 . exact b
 rw[h.fresh k ω]at a;exact a.elim
def Lv {a b e sz n:Nat} {v:Value} {xs:List Value} (h:w.ownsRow a e sz v n xs) (i:b<=a):w.ownsRow b e sz v n xs:=by
 refine⟨h.1,?_⟩;rcases h.2 with h| ⟨g,a,b,c,d,f⟩
 . exact .inl h
 exact .inr ⟨g,a,b,c,qZ i d,f⟩
def iN {d a e sz n:Nat} {v:Value} {xs:List Value} (h:w.ownsRow d e sz v n xs) (k:∀b,v.ownBlock=some b->a<=b):w.ownsRow a e sz v n xs:=by
 refine⟨h.1,?_⟩;rcases h.2 with h| ⟨g,f,i,c,l,j⟩
 . exact .inl h
 exact .inr ⟨g,f,i,c,k g (by rw[c];rfl),j⟩
def C2.newBox (h:C2 za w0 st E w Z B) (d:Tmp) {T:TypeId} {cs:List C} {vs:Array Value} (s:Ct w Z B cs vs.toList) (j:∀c∈cs,Cq st.nx c):
 ∃B',C2 za w0 (boxS st d T cs) (upd E d (.pointer (some ⟨w.heap.size,0,none⟩))) (w.alloc (.cells vs T)) Z B':=by
 have g:R1 w (w.alloc (.cells vs T)):=R1.alloc w _;have l:=h.more (Z':=Z) g (λ_=>id) (λ_=> .inl);have i:∀b,Z b->b<w.heap.size:=h.zlt;have u:O1 Z w (w.alloc (.cells vs T)):=λb a=>g.block b (i b a)
 have o:=l.new (v:= .pointer (some ⟨w.heap.size,0,none⟩)) (lc:= .box T cs) ⟨w.heap.size,vs,C1 _ _ _, .inl ⟨h.nms.2,h.ext.size⟩,λhz=>absurd (i _ hz) (uR _),Fo w vs T,
  Ct.mono (n:=st.nx) (λ_=>id) u (λk t=>C5 _ _ _ _ (tY t)) j s⟩
  (λk b a r=>by
   simp only[B6,root,rC]at a;have:=((h.locs k).root (h.ft g r)).2.1;omega)
  (λc f=>(j c f).le (uG _)) rfl (λb _ a=>by simp only[B6,root,rC]at a;have:=h.mrk.1;omega)
 refine⟨_,o.setS d (x:=one1 (.box st.nx 0)) ⟨_,[],rfl,⟨w.heap.size,C1 _ _ _,rfl⟩,rfl⟩ (λc f=>?_)⟩;simp at f;subst f;exact rR _
def C2.newRowE (h:C2 za w0 st E w' Z B) (d:Tmp) {t:Ty} {e:TypeId} {l:List t.den} {v:Value} {xs:List Value} (c:w'.ownsRow w0.heap.size e t.size v l.length xs) (o:G5 (C6 t w' Z) xs l) (g:∀b,v.ownBlock=some b->¬Z b/\∀k,¬B6 w' (B k) (st.L k) b) (s:∀b,za.k0<=st.nx->v.ownBlock=some b->za.b0<=b):
 C2 za w0 (rowS st d t e l) (upd E d v) w' Z (upd B st.nx v):=by
 have i:=E4 c;have u:v.oneCell'=true:=by rcases c.2 with⟨hv,_⟩ | ⟨_,_,_,hv,_⟩<;>rw[hv]<;>rfl
 have j:=h.new (v:=v) (lc:= .row t e l) ⟨xs,by rw[C1];exact Lv c (rS _),o,λb a=>by rw[C1]at a;exact⟨.inl ⟨h.nms.2,(World.ownsRow.lt c b a).1⟩,(g b a).1⟩⟩
  (λk b a n=>(g b (i.symm.trans a)).2 k n) trivial u (λb r a=>s b r (i.symm.trans a))
 refine j.setS d (x:=one1 (.row st.nx)) ⟨_,[],rfl,(C1 _ _ _).symm,rfl⟩ (λw f=>?_);simp at f;subst f;exact rR _
def C2.newRow (h:C2 za w0 st E w' Z B) (d:Tmp) {t:Ty} {e:TypeId} {l:List t.den} {v:Value} {xs:List Value} (g:w'.ownsRow w0.heap.size e t.size v l.length xs) (a:G5 (C6 t w' Z) xs l) (f:∀b,v.ownBlock=some b->¬Z b/\∀k,¬B6 w' (B k) (st.L k) b) (c:∀b,za.k0<=st.nx->v.ownBlock=some b->za.b0<=b):
 ∃B',C2 za w0 (rowS st d t e l) (upd E d v) w' Z B':=⟨_,h.newRowE d g a f c⟩
def Rl {j k e e' sz n:Nat} {v:Value} {xs i:List Value} (h:w.ownsRow j e sz v n xs) (c:w.ownsRow k e' sz v n i):xs=i:=by
 rcases h.2 with⟨b,o⟩ | ⟨z,t,x,b,_,l,_,_,_,r⟩
 . have d:=h.1;have f:=c.1;rw[o,xQ]at d f;rw[qM d,qM f]
 rcases c.2 with⟨a,_⟩ | ⟨A,u,y,a,_,g,_,_,_,s⟩
 . rw[b]at a;cases a
 rw[b]at a;cases a;rw[l]at g;cases g;rw[<-r, <-s]
def C2.newRows (h:C2 za w0 st E w' Z B) (d:Tmp) (t:Ty) {e:TypeId} (e':TypeId) {n:Nat} {v:Value} {xs:List Value} (f:w'.ownsRow w0.heap.size e 1 v n xs) (N:∀x∈xs,x= .slice none 0 0) (A:∀b,v.ownBlock=some b->¬Z b/\∀k,¬B6 w' (B k) (st.L k) b) (H:∀b,za.k0<=st.nx->v.ownBlock=some b->za.b0<=b):
 ∃B',C2 za w0 (eH st d t e e' (List.replicate n [])) (upd E d v) w' Z B':=by
 have I:=E4 f;have M:v.oneCell'=true:=by rcases f.2 with⟨g,_⟩ | ⟨_,_,_,g,_⟩<;>rw[g]<;>rfl
 have r:∀(i:Nat) (x:Value),xs[i]? =some x->x= .slice none 0 0:=λi x c=>N x (sW c)
 have s:∀b,B6 w' v (.rows t e e' (List.replicate n []) [] none) b->v.ownBlock=some b:=λb a=>by
  rcases a with a| ⟨V,m,P,R,U,i,x,g,G,X,_,c,a⟩
  . exact I.symm.trans a
  exfalso;rcases f.2 with⟨o,_⟩ | ⟨W,Q,T,o,_,z,Y,_,a0,J⟩
  . rw[g]at o;cases o
  rw[g]at o;cases o;rw[G]at z;cases z;have:xs[i]? =some x:=by rw[<-J,rX ω];simpa using c
  rw[r i x this]at a;simp[root]at a
 have D:=h.new (v:=v) (lc:= .rows t e e' (List.replicate n []) [] none) ⟨xs,by rw[C1,rK];exact Lv f (rS _),⟨λp u=>(by cases u),λi l x _ hl c=>⟨[],?_,?_⟩,λi j x y b _ _ _ c _ a=>?_⟩,λi x b _ c a=>?_,λb a=>?_⟩
  (λk b a F=>(A b (s b a)).2 k F) (λp u=>by cases u) M (λb hk a=>H b hk (s b a))
 . refine⟨_,D.setS d (x:=one1 (.row st.nx)) ⟨_,[],rfl,(C1 _ _ _).symm,rfl⟩ (λO w=>?_)⟩;simp at w;subst w;exact rR _
 . have:=(zM.1 (sW hl)).2;subst this;exact⟨by simp, .inl ⟨r i x c,rfl⟩⟩
 . have:=(zM.1 (sW hl)).2;subst this;rfl
 . rw[r i x c]at a;simp[root]at a
 . rw[r i x c]at a;simp[root]at a
 rw[C1]at a;have a:=s b a;have:=World.ownsRow.lt f b a;exact⟨.inl ⟨h.nms.2,this.1⟩,(A b a).1,this.2⟩
def C2.aliasL (h:C2 za w0 st E w Z B) {k:Nat} {t:Ty} {e e':TypeId} {ls:List (List t.den)} {al:List (Nat×Nat)} {i:Nat} {v:Value} {xs:List Value} (l:st.L k= .rows t e e' ls al none) (z:w.ownsRow 0 e 1 (B k) ls.length xs) (D:AtV xs i v) (A:v.oneCell'=true):
 C2 za w0 ((st.newL (.al k)).setL k (.rows t e e' ls ((i,st.nx)::al) none)) E w Z (upd B st.nx v):=by
 have n:k<st.nx:=Fe h (by rw[l];trivial);have c:=h.new (v:=v) (lc:= .al k) trivial (λ_ _ b=>b.elim) trivial A (λ_ _ b=>b.elim);have d:(st.newL (.al k)).L k= .rows t e e' ls al none:=by rw[St.L_newL,qL (tY n),l]
 have g:=c.locs k;have j:=c.refl k;rw[d]at g j;have y:(upd B st.nx v) k=B k:=C5 _ _ _ _ (tY n);obtain⟨G,f,⟨o,r,s⟩,u,x⟩:=g;have F:xs=G:=Rl z (by rw[<-y];exact f);subst F;refine c.relc (k:=k) (lc:= .rows t e e' ls ((i,st.nx)::al) none) (by rw[d];trivial) ⟨xs,f,⟨λp a=>?_,r,s⟩,u,x⟩ (λp a=>?_) (λH b=> .inr (by rw[d];exact b))
 . rcases qV.1 a with rfl|a
   . simp only[C1];exact D
   exact o p a
 rcases qV.1 a with rfl|a
 . exact rR _
 exact j p a
def C2.alias (h:C2 za w0 st E w Z B) (d:Tmp) {k:Nat} {t:Ty} {e e':TypeId} {ls:List (List t.den)} {al:List (Nat×Nat)} {i:Nat} {v:Value} {xs:List Value} (b:st.L k= .rows t e e' ls al none) (c:w.ownsRow 0 e 1 (B k) ls.length xs) (g:xs[i]? =some v) (f:v.oneCell'=true):
 ∃B',C2 za w0 (A8p st d k t e e' ls al i) (upd E d v) w Z B':=by
 refine⟨_,(h.aliasL b c (.inl g) f).setS d (x:=one1 (.row st.nx)) ⟨_,[],rfl,(C1 _ _ _).symm,rfl⟩ (λj a=>?_)⟩;simp at a;subst a;exact rR _
def C2.newMap (h:C2 za w0 st E w Z B) (d:Tmp) (g:Bool) (i:Ty) (j:Bool) (k:Ty):
 ∃B',C2 za w0 (C0u st d g i j k) (upd E d (.map (some w.heap.size))) (w.alloc (.map #[] 0)) Z B':=by
 have f:R1 w (w.alloc (.map #[] 0)):=R1.alloc w _;have l:=h.more (Z':=Z) f (λ_=>id) (λ_=> .inl);have o:∀b,Z b->b<w.heap.size:=h.zlt;have n:=l.new (v:= .map (some w.heap.size)) (lc:= .map g i j k []) ⟨w.heap.size, #[],0,C1 _ _ _, .inl ⟨h.nms.2,h.ext.size⟩,λhz=>absurd (o _ hz) (uR _),heap_alloc_new w _,⟨by simp,by simp⟩,rfl⟩
  (λs b a r=>by
   simp only[B6,root,rC]at a;have:=((h.locs s).root (h.ft f r)).2.1;omega)
  trivial rfl (λb _ a=>by simp only[B6,root,rC]at a;have:=h.mrk.1;omega)
 refine⟨_,n.setS d (x:=one1 (.mp st.nx)) ⟨_,[],rfl,(C1 _ _ _).symm,rfl⟩ (λt c=>?_)⟩;simp at c;subst c;exact rR _
def Ur {t:Ty} :∀ {i:Nat} {g:List (Nat×List C)} {a:List (Nat×Value)} {xs:List t.den},A2p w Z B g a->Rm t i g=some xs->a=((a.map (·.2)).zipIdx i).map (λx=>(x.2,x.1))/\(∀v∈a.map (·.2),v.cells.size=t.size)/\xs.length=a.length/\G5 (C6 t w Z) ((a.map (·.2)).flatMap (·.cells.toList)) xs
 |i,[],a,xs,h,b=>by cases b;rw[show a= []from h];exact⟨rfl,by simp,rfl,rfl⟩
 |i,(y,A)::D,a,xs,⟨v,E,e,n,o⟩,b=>by
  simp only[Rm]at b;cases d:Nat.beq i y with
  |false=>simp[d]at b
  |true=>
   have r:=qD d;subst r;simp only[d,qR]at b;split at b
   . rename_i x s;simp only[qJ]at b;obtain⟨F,u,rfl⟩:=b;obtain⟨h,j,k,l⟩:=Ur o u;have f:=Gq n s;subst e;refine⟨?_,?_,by simp[k],⟨v.cells.toList,_,by simp,f,l⟩⟩
     . simp only[rW,g1x];rw[<-h]
     intro z c;simp only[rW,qV]at c;rcases c with rfl|c
     . have:=C6.length f;simpa using this
     exact j z (by simpa using c)
   cases b
def C2.settleP (h:C2 za w0 st E w Z B):∀a:List (Nat×Operand),∃Z',C2 za w0 (settleP st a) E w Z' B:=by
 intro a
 induction a generalizing st Z with
 |nil=>exact⟨Z,h⟩
 |cons x a b=>
  obtain⟨Z1,a⟩:=h.settleO x.2;exact b a
def Qj {P:Program} {T e ty:TypeId} {sz len:Nat} {parts:List (Nat×Operand)} {z:Value} (vs:List Value) (d:Hc P T e sz=true) (t:Fb P e=some z) (g:len*sz<=16777216) (n:1<=sz) (y:z.cells.size=sz)
 (c:(parts.map λx=>(x.1,Gw.ev E x.2))=(vs.zipIdx 0).map λx=>(x.2,x.1)) (s:∀v∈vs,v.cells.size=sz) (b:vs.length=len):
 ∃cs:Array Value,cs.toList=vs.flatMap (·.cells.toList)/\Gw.D9 P E ty (.buildSlice T len parts.toArray) w (.slice (some ⟨w.heap.size,0,none⟩) len len) (w.alloc (.cells cs e)):=by
 by_cases a:len=0
 . subst a;have:vs= []:=qM b;subst this;refine⟨#[],rfl,λ_ _ _ _=>?_⟩;obtain⟨o,l⟩:=Ji d;have f:=Gw.Fj (P:=P) (w:=w) l;have i:parts= []:=by simpa using c
   subst i;simp only[execOp];unfold Instr.buildSlice;have a:Array.range 0= #[]:=by apply Array.ext<;>simp
   simp[run_underlying o,f,Instr.fill,newRow,a]
 obtain⟨r,j,k,u⟩:=lT sz vs 0 ((Array.range (len*sz)).map (z.cells[· %z.cells.size]!)) s (by simp[b]);refine⟨r,by rw[k];simp[b],?_⟩;have h:len*sz≠0:=by
  have:1<=len:=ω
  have:=uZ this n;omega
 exact jI r d t g (by rw[c];exact j) h
def GZ {P:Program} {o:Nat} {t ty e:TypeId} {i:TypeInfo} {z:Value} {size:Nat} (k:P.underlying t=some (.slice e)) (f:P.info? e=some i) (D:i.zero=some z) (I:i.size=size) (a1:z.cells.size=size) (a0:0<size)
 {v:Value} {n:Nat} {xs:List Value} (d:w.ownsRow o e size v n xs) {ao:Option Addr} {m c:Nat} {news:List Value} (h:news.length=m*size) (V:∀a,ao=some a->I0 w a news) (X:ao=none->m=0/\c=0) (E:∀u∈news,u.oneCell'=true)
 (a3:n+m<=9223372036854775807) (B:(n+m)*i.bytes<=140737488355328) (M:o<=w.heap.size):
 ∃l w',(Builtin.append_ #[t,t] ty #[v, .slice ao m c]).run P w= .ok l w'/\w'.ownsRow o e size l (n+m) (xs++news)/\w.grownBy w' v.ownBlock/\(l.ownBlock=v.ownBlock\/l.ownBlock=some w.heap.size)/\w.drawn<=w'.drawn:=by
 cases ao with
 |none=>
  obtain⟨rfl,rfl⟩:=X rfl;have b:news= []:=qM (by simpa using h);subst b;refine⟨v,w,run_append_owned_none (P:=P) w o t ty e i size k f v n xs d,by simpa using d,⟨rfl,rfl,rfl,qU _,λ_ _ _=>rfl⟩, .inl rfl,qU _⟩
 |some a=>
  by_cases T:m=0
  . subst T;have W:news= []:=qM (by simpa using h);subst W;have b:(Builtin.append_ #[t,t] ty #[v, .slice (some a) 0 c]).run P w= .ok v w:=by
     have F:(loadCells a 0).run P w= .ok #[] w:=by simpa using run_loadCells_list (P:=P) w a [] (by simp)
     rcases d.2 with⟨rfl,rfl⟩ | ⟨g,s,A,rfl,_,_,G,_⟩
     . simp[Builtin.append_,run_underlying k,sizeOf,typeInfo,f,Builtin.lenOf,Builtin.firstCells,F]
     simp[Builtin.append_,run_underlying k,sizeOf,typeInfo,f,Builtin.lenOf,Builtin.firstCells,G,storeCells,F]
    exact⟨v,w,b,by simpa using d,⟨rfl,rfl,rfl,qU _,λ_ _ _=>rfl⟩, .inl rfl,qU _⟩
  have U:n+m<=maxLen:=by simp only[maxLen];omega
  have y:=V a rfl;obtain⟨l,a2,b,Z,R,_⟩:=run_append_own (P:=P) w o t ty e i z size i.bytes k f D I rfl a1 a0 v n xs d a m c news h y E U B M;refine⟨l,a2,b,Z,R,?_⟩;subst I;rcases d.2 with⟨rfl,rfl⟩ | ⟨x,s,A,rfl,_,O,G,_,N,_⟩
  . have J:m*i.bytes<=281474976710656:=by simp only[sC]at B;omega
    have r:=run_append_nil (P:=P) w t ty e i z k f D a m c news h y ω ω J;rw[r]at b;cases b;exact⟨.inr rfl,by simp[World.drawn_alloc,World.drawn_drew]<;>omega⟩
  by_cases H:n+m<=s
  . have Q:n*i.size+news.length<=A.size:=by rw[h,N, <-uX];exact rM _ H
    have r:=run_append_room (P:=P) w t ty e i k f x n s A O a m c news h y E H Q;rw[r]at b;cases b;exact⟨.inl rfl,by simp<;>omega⟩
  have Y:∀j u,xs[j]? =some u->w.cell? ((⟨x,0,none⟩:Addr).add j)=some u:=d.cells (g:=x) rfl;have r:=run_append_grow (P:=P) w t ty e i z k f D ⟨x,0,none⟩ n s xs d.1 Y a m c news h y ω ω (growslice_fits ω B);rw[r]at b;cases b;exact⟨.inr rfl,by simp[World.drawn_alloc,World.drawn_drew]<;>omega⟩
def VP (h:C2 za w0 st E w Z B) {t:Ty} {c:C} {l:List t.den} {v:Value} (n:RC w Z B c v) (b:VN st t c=some l):
 ∃ao f D,v= .slice ao l.length f/\l.length<=f/\(ao=none->f=0)/\(∀a,ao=some a->I0 w a D)/\G5 (C6 t w Z) D l:=by
 unfold VN at b;split at b
 . rename_i d u;split at b
   . rename_i z;subst z;cases b;obtain⟨a,f,G,T,_,g,j⟩:=n;simp only[sI,vO]at G;rcases j with j| ⟨aa,ai,D,i,O,a1,y⟩
     . subst j;exact⟨a,f,[],G,T,g,λ_ _ a4 a6 J=>by simp at J,rfl⟩
     subst i;exact⟨_,f,D,G,T,g,λa i=>by cases i;exact a1,y⟩
   cases b
 . rename_i F;split at b
   . rename_i d W u M;split at b
     . rename_i z;subst z;cases b;have x:=h.locs F;rw[M]at x;obtain⟨A,r,y,_⟩:=x;have n:v=B F:=n;rcases r.2 with⟨s,g⟩ | ⟨H,f,ab,s,_,_,a3,_⟩
       . have:u= []:=qM g;subst this;exact⟨none,0,[],by rw[n,s];rfl,qU _,λ_=>rfl,λa i=>(by cases i),rfl⟩
       exact⟨some ⟨H,0,none⟩,f,A,by rw[n,s],a3,λj=>(by cases j),λa i=>by cases i;exact Hz r s,y⟩
     cases b
   cases b
 . rename_i F sz k o;split at b
   . rename_i d W u M;split at b
     . rename_i z;subst z;cases N:Nat.beq sz d.size with
       |false=>simp only[N,rG]at b;cases b
       |true=>
        simp only[N,qR]at b;cases b;have:=qD N;subst this;have x:=h.locs F;rw[M]at x;obtain⟨A,r,y,_⟩:=x;obtain⟨a,a5,f,P,X,Y,ac,ad,ae,af,ag,s⟩:=n;have g:a5=u.length:=by
         rcases r.2 with⟨j,U⟩ | ⟨_,_,_,j,_⟩<;>rw[P]at j<;>cases j
         . exact U.symm
         rfl
        subst g;have R:((u.take o.toNat).drop k.toNat).length=o.toNat-k.toNat:=by simp;omega
        refine⟨_,_,(A.take (o.toNat*d.size)).drop (k.toNat*d.size),by rw[s,R],by rw[R];omega,λO=>?_,λa9 I=>?_,G5.drop (λ_ _ h=>C6.length h) k.toNat (G5.take (λ_ _ h=>C6.length h) o.toNat y)⟩
        . split at O
          . omega
          have:=Y (by simpa using O);omega
        by_cases a2:f=k.toNat
        . intro a4 a6 J;have Q:=PZ J;rw[sL,qY]at Q;have ah:A.length=u.length*d.size:=r.1;have a0:k.toNat=o.toNat:=ω
          rw[a0]at Q;omega
        rw[qL a2]at I;cases a with
        |none=>cases I
        |some a8=>
         obtain⟨H,rfl⟩:=X a8 rfl;cases I;show I0 w ((⟨H,0,none⟩:Addr).add (k.toNat*d.size)) _;rw[J9,sC];have U:=L6 (Hz r P) 0 (o.toNat*d.size);rw[tO,tJ]at U;have V:=L6 U (k.toNat*d.size) ((A.take (o.toNat*d.size)).drop (k.toNat*d.size)).length;rw[vF,sC]at V;exact V
     cases b
   cases b
 . rename_i a7;cases g:Uc a7 with
   |false=>simp[g]at b
   |true=>
    simp[g]at b;subst b;exact⟨none,0,[],by rw[n.1,Gh g];rfl,qU _,λ_=>rfl,λa i=>(by cases i),rfl⟩
 cases b
def Ge {P:Program} {T:TypeId} {ti:TI} {t:Ty} (h:Vm P T ti=true) (j:ti.ty= .sl t):∃i z,P.underlying T=some (.slice ti.elem)/\P.info? ti.elem=some i/\i.zero=some z/\i.size=t.size/\z.cells.toList=Dz t/\z.cells.size=t.size/\i.bytes=ti.bytes/\Hc P T ti.elem t.size=true:=by
 obtain⟨b,g,i,c,k⟩:=DT h j;obtain⟨n,a⟩:=Ji b;obtain⟨z,d,f⟩:=Fx g;unfold Fb at d;unfold Sl at a;simp only[c,wD]at d;simp only[c,g1k]at a;have l:(Dz t).length=t.size:=by
  clear f a b g j
  induction t with
  |pair o r g j=>simp[Dz,Ty.size,g,j]
  | _=>rfl
 exact⟨i,z,n,c,d,a,f,by rw[<-sA,f,l],k,b⟩
def Jh {ty t:Ty} (h:slT ty=some t):ty= .sl t:=by
 unfold slT at h;split at h
 . cases h;rfl
 cases h
variable {all:List Oper} {ty:TypeId} {pos:String} {aft:Array Edge} {g:Option (Nat×Bool)} {k:St->Prop}
def E7 (E:G9):P7 E []:=λ_ _ h=>by cases h
def G5.of_index {α:Type} {R:List Value->α->Prop} {s:Nat} :∀ {l:List α} {cs:List Value},cs.length=l.length*s->(∀(i:Nat) (x:α),l[i]? =some x->R ((cs.drop (i*s)).take s) x)->G5 R cs l
 | [],cs,a,_=>qM (by simpa using a)
 |x::l,cs,a,h=>by
  have b:cs.length=s+l.length*s:=by rw[a,rJ,tZ,vZ]
  refine⟨cs.take s,cs.drop s,(tP s cs).symm,?_,G5.of_index (s:=s) (by rw[sL];omega) (λi y a=>?_)⟩
  . have:=h 0 x rfl;simpa using this
  have:=h (i+1) y (by simpa using a);rw[tZ,vZ, <-vX]at this;exact this
def NZ {t:Ty} {z:Array Value} (g:z.toList=Dz t) (u:Ra t=true) (f:z.size=t.size) (c l:Nat) (d:l<=c):G5 (C6 t w Z) ((madeCells z (c*t.size)).toList.take (l*t.size)) (List.replicate l t.dflt):=by
 have r:((madeCells z (c*t.size)).toList.take (l*t.size)).length=l*t.size:=by
  rw[qY,sA,size_madeCells];exact tD (rM _ d)
 refine G5.of_index (s:=t.size) (by rw[r,rK]) (λi x b=>?_);have o:i<l:=by have:=PZ b;simpa using this
 have v:x=t.dflt:=by
  have:=sW b;exact(zM.1 this).2
 subst v;have n:(((madeCells z (c*t.size)).toList.take (l*t.size)).drop (i*t.size)).take t.size=Dz t:=by
  have B:(Dz t).length=t.size:=by rw[<-g,sA,f]
  have y:i*t.size+t.size<=l*t.size:=by rw[<-tZ];exact rM _ o
  have A:l*t.size<=c*t.size:=rM _ d;apply xM;intro j;by_cases a:j<t.size
  . rw[wA,qT a,xF,wA,qT ω];have h:(i*t.size+j)%z.size=j:=by rw[f,sV,g2u,tW a]
    have k:(madeCells z (c*t.size)).toList[i*t.size+j]? =some (z[(i*t.size+j)%z.size]!):=by
     simp only[madeCells,wK,Array.getElem?_map];rw[Array.getElem?_range,qT ω];rfl
    rw[k,h, <-g,wK];rw[uS ω,g0x z j ω]
  rw[wA,qL a,rT ω]
 rw[n];exact MJ u
def nC (h:C2 za w0 st E w Z B) (Q:G8 cx.P cx.tys=true) {T:TypeId} {x:Operand} (b:dF cx st d T x=some st'):∃v B',(∀w',R1 w w'->Gw.D9 cx.P E ty (.load T x) w' v w')/\C2 za w0 st' (upd E d v) w Z B':=by
 unfold dF at b;simp only[qG,bind_some]at b;obtain⟨ti,O,a1,⟨a0,I,J⟩,b⟩:=b;split at b
 . rename_i q sz i Y;split at b
   . rename_i a8 e a3 W al s;cases f:Nat.beq sz 1&&Nat.beq Y 0&& !ti.agg with
     |false=>simp only[f,rG]at b;cases b
     |true=>
      simp only[f,qR]at b;cases b;simp only[qC,rL]at f;have N:=qD f.1.1;have H:=qD f.1.2;subst N H;have M:Dx cx.P T=true:=by
       rcases(J0 (B9 Q O)).2.1 with⟨j,_⟩ | ⟨_,j,_⟩
       . rw[f.2]at j;cases j
       exact j
      obtain⟨g,X,a2,l,D,k⟩:=(h.c1 (E7 E) (bind_some.2 ⟨a0,I,J⟩)).1;have o:=h.locs q;rw[s]at o;obtain⟨t,c,⟨a4,u,a5⟩,a6,a7⟩:=o;have G:X=W.length:=by
       rw[l]at c;rcases c.2 with⟨j,_⟩ | ⟨_,_,_,j,_⟩<;>cases j
       rfl
      subst G;have V:i<t.length:=by have:=c.1;omega
      have n:=qN V;have r:=Hz c l i _ n;rw[J9,sC]at r;have F:=qN D;obtain⟨a9,y,_⟩:=u i _ _ rfl F n;have R:(t[i]).oneCell'=true:=by rcases y.2 with⟨k,_⟩ | ⟨_,_,_,k,_⟩<;>rw[k]<;>rfl
      obtain⟨B',z⟩:=h.alias d s c n R;refine⟨_,B',λw' U=>jK k M ?_,z⟩;have A:g<w.heap.size:=by rw[l]at c;exact(World.ownsRow.lt c g rfl).2
      have e:=World.cell?_of_block (a:=⟨g,i,none⟩) (U.block g A);rw[(ω:i*1+0=i),e];exact r
   cases b
 cases b
def A7b {P:Program} {w:World} {f sT ty elem:TypeId} {size g a dCap c:Nat} {d:Value} {cur:Array Value} {t:TypeId} {cs:List Value} (s:P.underlying f=some (.slice elem)) (h:(P.info? elem).map (·.size)=some size)
 (n:w.heap[g]? =some (.cells cur t (0,0))) (r:(Builtin.lenOf d).run P w= .ok c w) (k:(Builtin.firstCells size (Nat.min c a) d).run P w= .ok cs.toArray w) (l:cs.length<=cur.size) (j:∀v∈cs,v.oneCell'=true):
 (Builtin.copy_ #[f,sT] ty #[.slice (some ⟨g,0,none⟩) a dCap,d]).run P w= .ok (goInt (Nat.min c a)) (w.setRow g (cs++cur.toList.drop cs.length).toArray):=by
 have i:=run_storeCells_at P g 0 t cs 0 cur w n (by simpa using l) j;cases b:P.info? elem with
 |none=>simp[b]at h
 |some u=>
  have o:u.size=size:=by simpa[b]using h
  simp only[sC,zZ,wW]at i;simp[Builtin.copy_,run_underlying s,r,sizeOf,typeInfo,b,o,k,i]
def A7a {P:Program} {w:World} {c sT ty elem:TypeId} {size dCap k:Nat} {b:Value} (i:P.underlying c=some (.slice elem)) (d:(P.info? elem).map (·.size)=some size)
 (h:(Builtin.lenOf b).run P w= .ok k w) (f:(Builtin.firstCells size 0 b).run P w= .ok #[] w):
 (Builtin.copy_ #[c,sT] ty #[.slice none 0 dCap,b]).run P w= .ok (goInt 0) w:=by
 cases a:P.info? elem with
 |none=>simp[a]at d
 |some j=>
  have g:j.size=size:=by simpa[a]using d
  simp[Builtin.copy_,run_underlying i,h,sizeOf,typeInfo,a,g,f]
def A9n (h:C2 za w0 st E w Z B) (b5:G8 cx.P cx.tys=true) {T sT:TypeId} {x y:Operand} (f:lC cx st d T x y=some st'):∃v w' B',Gw.D9 cx.P E ty (.call ⟨.builtin .copy, #[x,y], #[T,sT]⟩) w v w'/\C2 za w0 st' (upd E d v) w' Z B':=by
 simp only[lC,qG,bind_some]at f;obtain⟨ti,b3,bn,U,D,⟨b9,ah,ai⟩,z,⟨ba,ak,am⟩,a,b8,f⟩:=f;have U:=Jh U;obtain⟨bm,af,aa,av,ad,b2,bk,bl,bg,bj⟩:=Ge (B9 b5 b3) U;obtain⟨b6,_⟩:=h.c1 (E7 E) (bind_some.2 ⟨b9,ah,ai⟩);obtain⟨b7,_⟩:=h.c1 (E7 E) (bind_some.2 ⟨ba,ak,am⟩);obtain⟨ag,bb,c,ab,bh,ax,an,O⟩:=VP h b7 b8;cases D with
 |row k=>
  simp only at f;split at f
  . rename_i b e l t;split at f
    . rename_i aq;subst aq;cases a1:HK (.row k) z with
      |false=>simp only[a1,rG]at f;cases f
      |true=>
       simp only[a1,qR]at f;cases f;have X:=h.locs k;rw[t]at X;obtain⟨ae,Q,a2,I⟩:=X;have W:Gw.ev E x=B k:=b6;have a6:(Builtin.lenOf (Gw.ev E y)).run cx.P w= .ok a.length w:=by rw[ab];rfl
       have a5:(cx.P.info? ti.elem).map (·.size)=some b.size:=by rw[av,wJ,b2]
       have bi:Nat.min a.length l.length=min a.length l.length:=rfl;have N:c.length=a.length*b.size:=O.length (λi x=>C6.length);have a3:(Builtin.firstCells b.size (Nat.min a.length l.length) (Gw.ev E y)).run cx.P w= .ok (c.take (min a.length l.length*b.size)).toArray w:=by
        rw[ab];cases ag with
        |none=>
         have:a= []:=qM (by have:=ax rfl;omega);subst this;simp[Builtin.firstCells]
        |some D=>
         have F:(c.take (min a.length l.length*b.size)).length=min a.length l.length*b.size:=by
          rw[qY,N];exact tD (rM _ (g2s ..))
         have:=run_loadCells_list (P:=cx.P) w D (c.take (min a.length l.length*b.size)) (λj v hj=>an D rfl j v (by
          have J:=PZ hj;rw[rX ω]at hj;exact hj))
         rw[F]at this;exact this
       have b0:∀u∈c.take (min a.length l.length*b.size),u.oneCell'=true:=λu hu'=>O.oneCell u (rQ hu')
       have ac:∀m:Nat,m<=l.length->RC w Z B (.val (.int .i64) (m:Int)) (.int .i64 (m:Int)):=λm hm=>by
        have:l.length<=maxLen:=by
         rcases Q.2 with⟨_,V⟩ | ⟨_,_,_,_,_,_,J,aj,_⟩
         . omega
         omega
        refine⟨rfl,?_⟩;unfold FT;simp only[maxLen]at this;constructor
        . change(-9223372036854775808:Int)<= _;omega
        change _ <=(9223372036854775807:Int);omega
       have a7:(min (a.length:Int) (l.length:Int))=((min a.length l.length:Nat):Int):=ω
       rcases Q.2 with⟨s,V⟩ | ⟨g,G,n,s,au,a4,ay,ao,ap,b4⟩
       . have aw:l= []:=qM V;subst aw;have R:=A7a (sT:=sT) (ty:=ty) (dCap:=0) aa a5 a6 (by simpa using a3);refine⟨goInt 0,w,B,λ_ _ _ _=>by simp[execOp,resolve,invoke,builtin,W,s,R],?_⟩;have H:C2 za w0 (st.setL k (.row b e (Le [] a))) E w Z B:=by
          have J:Le ([]:List b.den) a= []:=by simp[Le]
          rw[J];exact h.relc (by rw[t];trivial) ⟨ae,Q,a2,I⟩ trivial (λz aj=> .inl aj)
         refine H.setS d ?_ (λi A=>by simp at A;subst A;trivial);rw[a7,show min a.length ([]:List b.den).length=0 from Nat.min_zero _];exact⟨_,_,rfl,ac _ (by simp),rfl⟩
       have ar:(c.take (min a.length l.length*b.size)).length<=n.size:=by
        rw[qY,N,ap];have J:min a.length l.length*b.size<=G*b.size:=rM _ ω;omega
       have F:(c.take (min a.length l.length*b.size)).length=min a.length l.length*b.size:=by
        rw[qY,N];exact tD (rM _ (g2s ..))
       have R:=A7b (sT:=sT) (ty:=ty) (dCap:=G) aa a5 a4 a6 a3 ar b0;refine⟨goInt (Nat.min a.length l.length),w.setRow g (c.take (min a.length l.length*b.size)++n.toList.drop (c.take (min a.length l.length*b.size)).length).toArray,B,λ_ _ _ _=>by simp[execOp,resolve,invoke,builtin,W,s,R],?_⟩;generalize a0:(c.take (min a.length l.length*b.size)++n.toList.drop (c.take (min a.length l.length*b.size)).length).toArray=r;have Y:UB g w (w.setRow g r):=⟨rfl,rfl,⟨rfl,qU _⟩,by simp,λk t=>setRow_other w g k _ t⟩;have b1:root (B k)=some g:=by rw[s];rfl
       obtain⟨bf,az⟩:=I g (by rw[s];rfl);have a9:O1 Z w (w.setRow g r):=λaf ad=>Y.2.2.2.2 af (λo=>az (o▸ad))
       have a8:G5 (C6 b (w.setRow g r) Z) (c.take (min a.length l.length*b.size)++ae.drop (min a.length l.length*b.size)) (Le l a):=by
        have J:Le l a=a.take (min a.length l.length)++l.drop (min a.length l.length):=by
         unfold Le;rcases Nat.le_total a.length l.length with o|o
         . rw[tD o,qQ o,qQ (qU _)]
         rw[Nat.min_eq_right o,sG o,sG (qU _)]
        rw[J];refine G5.append ?_ ?_
        . exact(O.take (λi x=>C6.length) _).mono λi x=>C6.mono (λ_=>id) a9
        exact(a2.drop (λi x=>C6.length) _).mono λi x=>C6.mono (λ_=>id) a9
       have M:(Le l a).length=l.length:=by
        unfold Le;rw[rN,qY,sL];omega
       have H:C2 za w0 (st.setL k (.row b e (Le l a))) E (w.setRow g r) Z B:=by
        refine h.chg (by rw[t];trivial) (by rw[t];exact b1) Y ⟨_,⟨?_, .inr ⟨g,G,r,?_,au,setRow_heap w g n _ e _ a4,?_,ao,?_,?_⟩⟩,a8,λz J=>?_⟩ trivial (λz J=> .inl J)
        . rw[a8.length (λi x=>C6.length)]
        . rw[M];exact s
        . rw[M];exact ay
        . have aj:n.toList.length=n.size:=sA;have bc:r.size=(c.take (min a.length l.length*b.size)).length+(n.toList.length-(c.take (min a.length l.length*b.size)).length):=by
           rw[<-a0, <-sL, <-rN];rfl
          omega
        . rw[M, <-a0,F, <-b4,g1d,g0g];have be:min a.length l.length*b.size<=l.length*b.size:=rM _ ω;rw[F,qQ ω]
        exact I z J
       refine H.setS d ?_ (λi A=>by simp at A;subst A;trivial);rw[a7];exact⟨_,_,rfl,(ac _ ω),rfl⟩
    cases f
  cases f
 | _=>simp at f
def C3g:LC->Bool
 | .al _=>true
 | _=>false
def oA {v:Value} {e h:TypeId} {n d g f j:Nat} {xs:List Value} {cur:Array Value} {x:Value} (i:w.ownsRow 0 e 1 v n xs) (c:v= .slice (some ⟨g,0,none⟩) d f) (k:w.heap[g]? =some (.cells cur h (0,0))) (u:j<d) (o:cur[j]? =some x):xs[j]? =some x:=by
 rcases i.2 with⟨a,_⟩ | ⟨t,r,s,a,_,b,y,_,z,l⟩
 . rw[c]at a;cases a
 rw[c]at a;cases a;rw[k]at b;cases b;rw[<-l,rX ω];simpa using o
def C2.detach (h:C2 za w0 st E w Z B) {k q i:Nat} {t:Ty} {e e':TypeId} {ls:List (List t.den)} {al:List (Nat×Nat)} (n:st.L k= .rows t e e' ls al none) (a6:st.L q= .al k) (T:FV q al=some i) (af:st.nm<=k) (ai:st.nm<=q) (a1:za.b0=0):
 C2 za w0 ((st.setL k (.rows t e e' ls [] (some i))).setL q (.row t e' (ls.getD i []))) E w Z B:=by
 have Q:=h.locs k;have R:=h.refl k;rw[n]at Q R;obtain⟨I,r,⟨O,P,u⟩,v,z⟩:=Q;have W:=Kt T;have H:∀b,root (B q)=some b->I[i]? =some (B q):=λb d=>(O (i,q) W).resolve_right λhh=>by rw[hh.2]at d;simp[root]at d
 obtain⟨_,ae,_,_,a0,ac⟩:=iZ ⟨I,r,⟨O,P,u⟩,v,z⟩ T;have a7:q<st.nx:=R (i,q) W;have ah:k≠q:=λhh=>by rw[hh,a6]at n;cases n
 have X:∀b,B6 w (B k) (.rows t e e' ls [] (some i)) b->B6 w (B k) (.rows t e e' ls al none) b:=λb d=>by
  rcases d with d| ⟨g,Y,J,M,N,j,x,G,A,V,_,o,d⟩
  . exact .inl d
  exact .inr ⟨g,Y,J,M,N,j,x,G,A,V,rfl,o,d⟩
 have a9:C2 za w0 (st.setL k (.rows t e e' ls [] (some i))) E w Z B:=
  h.relc (by rw[n];trivial) ⟨I,r,⟨λp F=>(by cases F),λj l x _ hl o=>P j l x rfl hl o,λa c x y b hac _ _ hxa hyc=>u a c x y b hac rfl rfl hxa hyc⟩,λj x b _ o=>v j x b rfl o,λb d=>z b (X b d)⟩ (λp F=>(by cases F)) (λb d=> .inr (by rw[n];exact X b d))
 have a8:=E4 a0;have U:∀b,root (B q)=some b->B6 w (B k) (.rows t e e' ls al none) b:=λb d=>Qv r rfl (H b d) d
 refine a9.addL (k:=q) a7 ⟨ae,a0,ac,λb d=>?_⟩ (λj b V d f=>?_) trivial (λb _ _=>by rw[a1];exact rS _)
 . obtain⟨s,ad,_⟩:=z b (U b (a8.trans d));refine⟨.inl ?_,ad⟩;have ag:=h.nms.1;rcases s with s|s
   . exact⟨ω,s.2⟩
   omega
 have d:root (B q)=some b:=d;rw[St.L_setL]at f;by_cases D:j=k
 . subst D;rw[qT rfl]at f;rcases f with f| ⟨g,Y,J,M,N,m,x,G,A,a5,a3,aa,a2⟩
   . exact v i (B q) b rfl (H b d) d f
   have ab:=oA r G A a5 aa;have a4:i≠m:=λhh=>by
    subst hh;simp[Eb]at a3
   exact u i m (B q) x b a4 rfl rfl (H b d) ab d a2
 rw[qL D]at f;exact h.disj k j b (Ne.symm D) (by rw[n];exact U b d) f
def C2.detO (h:C2 za w0 st E w Z B) (x:Operand) (a:za.b0=0\/∀k,(st.ev [] x).bind Vc.c1=some (C.row k)->C3g (st.L k)=false):C2 za w0 (Vc.detO st x) E w Z B:=by
 unfold Vc.detO;split
 . rename_i i d;unfold B5a;split
   . rename_i q;split
     . rename_i k c;split
       . rename_i t e j n al g;split
         . rename_i l f;cases b:Nat.ble st.nm k&&Nat.ble st.nm q with
           |false=>exact h
           |true=>
            simp only[qC]at b;rcases a with a|a
            . exact h.detach g c f (qP b.1) (qP b.2) a
            have:=a q d;rw[c]at this;cases this
         exact h
       exact h
     exact h
   exact h
 exact h
def B5b (st:St) (x:Operand) (ctx:Hn) (y:Operand):(detO st x).ev ctx y=st.ev ctx y:=by
 have d:∀(b:Bool) (c a:St),c.ev ctx y=a.ev ctx y->(bif b then c else a).ev ctx y=a.ev ctx y:=by
  intro b c a h;cases b
  . rfl
  exact h
 unfold detO;split
 . unfold B5a;split
   . split
     . split
       . split
         . exact d _ _ _ rfl
         rfl
       rfl
     rfl
   rfl
 rfl
def iI (k0:Nat) (st:St):Op->Bool
 | .call ⟨.builtin .append,a,_⟩=>match a.toList with
  |x:: _=>(match(st.ev [] x).bind c1 with
   |some (.row k)=>Nat.ble k0 k&& !(C3g (st.L k))
   | _=>true)
  | _=>true
 | _=>true
def B5e {av:Op} (h:C2 za w0 st E w Z B) (bo:za.b0=0\/∀op,op=av->iI za.k0 st op=true) (a0:G8 cx.P cx.tys=true) (a:A9u cx st d av=some (φ,st')) (b3:EQ φ) (H:k st') (O:D6 all ⟨some d,av,ty,pos,aft,g⟩ E=true):J8 cx.P all ⟨some d,av,ty,pos,aft,g⟩ (bX za w0 w (wrB av) k) E w:=by
 unfold A9u at a;split at a
 . simp only[qG,bind_some]at a;obtain⟨s,cr,a⟩:=a;cases o:s.cs.all Ff with
   |false=>simp only[o,rG]at a;cases a
   |true=>
    simp only[o,qR]at a;cases a;obtain⟨y,ae⟩:=h.ev (E7 E) cr;obtain⟨B',am⟩:=h.newBox d (T:= _) (RS.cells h y o) ae;exact S0 (C5o rfl) O ⟨λ_=>R1.alloc w _,_,_,_,am,H⟩
 . simp only[qG,bind_some]at a;obtain⟨ti,N,a⟩:=a;cases a;obtain⟨J,z,ad⟩:=Fx (J0 (B9 a0 N)).2.2;have am:=Cu (w:=w) (Z:=Z) (B:=B) (n:=st.nx) (Dz ti.ty);obtain⟨B',W⟩:=h.newBox d (T:= _) (vs:=J.cells) (by rw[ad];exact am.1) am.2;exact S0 (A4y z) O ⟨λ_=>R1.alloc w _,_,_,_,W,H⟩
 . rename_i T len bv;simp only[qG,bind_some]at a;obtain⟨ti,N,t,U,de,cn,xs,cy,a⟩:=a;have U:=Jh U;cases o:Nat.beq xs.length len&&Nat.ble (len*t.size) 16777216&&Nat.ble 1 t.size with
   |false=>simp only[o,rG]at a;cases a
   |true=>
    simp only[o,qR]at a;cases a;simp only[qC]at o;obtain⟨bb,J,I,b1,z,b9,ad,b7,f,b4⟩:=Ge (B9 a0 N) U;obtain⟨Z1,y⟩:=h.settleP bv.toList;obtain⟨ae,am⟩:=Lg y (E7 E) cn;obtain⟨ab,ag,an,G⟩:=Ur ae cy;have ay:=qD o.1.1;have b6:Fb cx.P ti.elem=some J:=by simp[Fb,b1,z]
    obtain⟨j,a1,a5⟩:=Qj (w:=w) (ty:=ty) (len:=len) _ b4 b6 (qP o.1.2) (qP o.2) b7 ab ag (by rw[tI, <-an,ay]);have r:R1 w (w.alloc (.cells j ti.elem)):=R1.alloc w _;have W:=y.more (Z':=Z1) r (λ_=>id) (λ_=> .inl);have ac:O1 Z1 w (w.alloc (.cells j ti.elem)):=λi f=>r.block i (y.zlt i f)
    have A:j.toList.length=len*t.size:=by rw[a1,G5.length (λ_ _ h=>C6.length h) G,ay]
    have b2:(w.alloc (.cells j ti.elem)).ownsRow w0.heap.size ti.elem t.size (.slice (some ⟨w.heap.size,0,none⟩) len len) xs.length j.toList:=by
     rw[ay];refine⟨A, .inr ⟨w.heap.size,len,j,rfl,h.ext.size,Fo w _ _,qU _,?_,by simpa using A,by rw[<-A,vF]⟩⟩;have M:=qP o.1.2;have ax:=qP o.2;have:len*1<=len*t.size:=sQ _ ax;simp only[maxLen];omega
    obtain⟨B',M⟩:=W.newRow d (t:=t) (e:=ti.elem) (l:=xs) b2 (by rw[a1];exact G.mono λ_ _=>C6.mono (λ_=>id) ac) (λi f=>by
     simp only[Value.ownBlock,rC]at f;refine⟨λz=>?_,λq b=>?_⟩
     . have:=y.zlt i z;omega
     have:=((y.locs q).root (y.ft r b)).2.1;omega) (λi _ f=>by simp only[Value.ownBlock,rC]at f;have:=h.mrk.1;omega)
    have:=S0 (pos:=pos) (aft:=aft) a5 (by simpa using O) (show bX za w0 w (wrB (.buildSlice T len bv)) k _ _ from⟨λ_=>r,_,_,_,M,H⟩);simpa using this
 . rename_i T bu bh;simp only[qG,bind_some]at a;obtain⟨ti,N,t,U,l,u,c,D,a⟩:=a;have U:=Jh U;cases bs:ti.rows with
   |true=>
    simp only[bs,qR,qJ]at a;obtain⟨d5,A,a⟩:=a;cases a;unfold WN at A;split at A
    case h_2=>cases A
    rename_i G b1;rw[U]at b1;cases b1;simp only[qJ]at A;obtain⟨bq,_,A⟩:=A;subst A;obtain⟨b6,b7,b9,bb⟩:=b3;obtain⟨an,J,I,bc,z,ag,ad,b2,f,bw⟩:=Ge (B9 a0 N) U;obtain⟨bm,aj,_⟩:=h.int (E7 E) u;obtain⟨bp,b4,_⟩:=h.int (E7 E) D;have a4:=run_make (P:=cx.P) w T ti.elem an J I bc z bm bp l c b6 b7 (by rw[f];exact b9) bb;have a5:Gw.D9 cx.P E ty (.makeSlice T bu bh) w (.slice (some ⟨w.heap.size,0,none⟩) l.toNat c.toNat) (w.alloc (.cells (madeCells J.cells (c.toNat*an.size)) ti.elem)):=λ_ _ _ _=>by simp[execOp,aj,b4,a4]
    generalize a1:madeCells J.cells (c.toNat*an.size)=j at a5;have bj:(Ty.sl G).size=1:=rfl;rw[bj]at ag b2;have ax:j.size=c.toNat*1:=by rw[<-a1, <-ag];simp[madeCells]
    have r:R1 w (w.alloc (.cells j ti.elem)):=R1.alloc w _;have W:=h.more (Z':=Z) r (λ_=>id) (λ_=> .inl);have ab:l.toNat<=c.toNat:=ω
    have bt:G5 (C6 (.sl G) (w.alloc (.cells j ti.elem)) Z) (j.toList.take (l.toNat*1)) (List.replicate l.toNat (Ty.sl G).dflt):=by
     rw[<-a1,ag];exact NZ ad rfl b2 _ _ ab
    have bi:(w.alloc (.cells j ti.elem)).ownsRow w0.heap.size ti.elem 1 (.slice (some ⟨w.heap.size,0,none⟩) l.toNat c.toNat) l.toNat (j.toList.take (l.toNat*1)):=by
     refine⟨?_, .inr ⟨w.heap.size,c.toNat,j,rfl,h.ext.size,Fo w _ _,ab,?_,ax,rfl⟩⟩
     . rw[qY,sA,ax];exact tD (rM _ ab)
     simp only[maxLen];omega
    have be:∀x∈j.toList.take (l.toNat*1),x= .slice none 0 0:=λx r=>by
     have r:=rQ r;rw[<-a1]at r;simp only[madeCells,g1t,tX]at r;obtain⟨bx,_,rfl⟩:=r;have bk:J.cells.toList= [.slice none 0 0]:=ad;have bl:J.cells= #[.slice none 0 0]:=by rw[<-uA (xs:=J.cells),bk]
     rw[bl];simp[g4y]
    obtain⟨B',M⟩:=W.newRows d G bq.elem bi be (λi f=>by
     simp only[Value.ownBlock,rC]at f;refine⟨λz=>?_,λq b=>?_⟩
     . have:=h.zlt i z;omega
     have:=((h.locs q).root (h.ft r b)).2.1;omega) (λi _ f=>by simp only[Value.ownBlock,rC]at f;have:=h.mrk.1;omega)
    exact S0 a5 O ⟨λ_=>r,_,_,_,M,H⟩
   |false=>
   simp only[bs,rG]at a;cases o:Ra t with
   |false=>simp only[o,rG]at a;cases a
   |true=>
    simp only[o,qR]at a;cases a;obtain⟨ax,b1,b2,b4⟩:=b3;obtain⟨G,J,I,b7,z,ag,ad,bb,f,bi⟩:=Ge (B9 a0 N) U;obtain⟨bc,aj,_⟩:=h.int (E7 E) u;obtain⟨be,an,_⟩:=h.int (E7 E) D;have a4:=run_make (P:=cx.P) w T ti.elem G J I b7 z bc be l c ax b1 (by rw[f];exact b2) b4;have a5:Gw.D9 cx.P E ty (.makeSlice T bu bh) w (.slice (some ⟨w.heap.size,0,none⟩) l.toNat c.toNat) (w.alloc (.cells (madeCells J.cells (c.toNat*G.size)) ti.elem)):=λ_ _ _ _=>by simp[execOp,aj,an,a4]
    generalize a1:madeCells J.cells (c.toNat*G.size)=j at a5;have ab:j.size=c.toNat*t.size:=by rw[<-a1, <-ag];simp[madeCells]
    have r:R1 w (w.alloc (.cells j ti.elem)):=R1.alloc w _;have W:=h.more (Z':=Z) r (λ_=>id) (λ_=> .inl);have A:l.toNat<=c.toNat:=ω
    have b6:G5 (C6 t (w.alloc (.cells j ti.elem)) Z) (j.toList.take (l.toNat*t.size)) (List.replicate l.toNat t.dflt):=by
     rw[<-a1,ag];exact NZ ad o bb _ _ A
    have b9:(w.alloc (.cells j ti.elem)).ownsRow w0.heap.size ti.elem t.size (.slice (some ⟨w.heap.size,0,none⟩) l.toNat c.toNat) (List.replicate l.toNat t.dflt).length (j.toList.take (l.toNat*t.size)):=by
     rw[rK];refine⟨?_, .inr ⟨w.heap.size,c.toNat,j,rfl,h.ext.size,Fo w _ _,A,?_,ab,rfl⟩⟩
     . rw[qY,sA,ab];exact tD (rM _ A)
     simp only[maxLen];omega
    obtain⟨B',M⟩:=W.newRow d b9 b6 (λi f=>by
     simp only[Value.ownBlock,rC]at f;refine⟨λz=>?_,λq b=>?_⟩
     . have:=h.zlt i z;omega
     have:=((h.locs q).root (h.ft r b)).2.1;omega) (λi _ f=>by simp only[Value.ownBlock,rC]at f;have:=h.mrk.1;omega)
    exact S0 a5 O ⟨λ_=>r,_,_,_,M,H⟩
 . rename_i ak aw;split at a
   . rename_i x ai T T' af ar;cases Y:Nat.beq T T' with
     |false=>simp[Y]at a
     |true=>
      simp only[Y,qR]at a;have c7:=qD Y;subst c7;have A:=h.detO x (bo.imp id λF k H=>by
       have:=F _ rfl;simp only[iI,af,H,qC,rL]at this;exact this.2)
      have bl:=B5b st x;have cl:za.b0=0\/∀j,(st.ev [] x).bind Vc.c1=some (C.row j)->za.k0<=j:=bo.imp id λF j G=>by
       have:=F _ rfl;simp only[iI,af,G,qC,rL]at this;exact qP this.1
      generalize Vc.detO st x=ah at a A bl;simp only[B9i,qG,bind_some]at a;obtain⟨ti,N,t,U,a1,⟨bw,be,bk⟩,i,⟨d4,cp,c9⟩,l,u,bx,d0,a⟩:=a;have U:=Jh U;cases o:HK a1 i&&Nat.ble 1 t.size with
      |false=>simp only[o,rG]at a;cases a
      |true=>
       simp only[o,qR]at a;cases a;simp only[qC]at o;obtain⟨c5,c6⟩:=b3;obtain⟨db,J,I,ce,z,cs,ad,d1,f,da⟩:=Ge (B9 a0 N) U;have ax:=A.c1 (E7 E) (bind_some.2 ⟨bw,be,bk⟩);have c8:=A.c1 (E7 E) (bind_some.2 ⟨d4,cp,c9⟩);obtain⟨ao,bz,c3,cv,d9,cj,ca,b7⟩:=VP A c8.1 d0;have cd:=G5.length (R:=C6 t w Z) (s:=t.size) (λ_ _ h=>C6.length h) b7;have an:za.b0=0\/∀j,a1= .row j->za.k0<=j:=cl.imp id λF j G=>F j (by
        rw[bl]at be;exact bind_some.2 ⟨bw,be,by rw[bk,G]⟩)
       have co:∃xs,w.ownsRow w0.heap.size ti.elem t.size (Gw.ev E x) l.length xs/\G5 (C6 t w Z) xs l/\(∀q,(Gw.ev E x).ownBlock=some q->¬Z q/\w0.heap.size<=q/\∀j,¬B6 w (B j) ((dropR ah a1).L j) q)/\C2 za w0 (dropR ah a1) E w Z B/\(∀q,(Gw.ev E x).ownBlock=some q->za.b0<=q):=by
        unfold OV at u;split at u
        . rename_i j;split at u
          . rename_i df c0 dd G;split at u
            . rename_i b8;subst b8;cases X:Nat.beq c0 ti.elem&&Nat.ble ah.nm j with
              |false=>simp only[X,rG]at u;cases u
              |true=>
               simp only[X,qR]at u;cases u;simp only[qC]at X;have d8:=qP X.2;have cc:=qD X.1;subst cc;have bi:=A.locs j;rw[G]at bi;obtain⟨xs,ab,b6,bp⟩:=bi;have cu:∀q,(B j).ownBlock=some q->w0.heap.size<=q:=λq b=>by
                rcases(bp q b).1 with g|g
                . exact g.2
                have:=A.nms.1;omega
               replace ab:=iN ab cu;have ck:=λq b=>(bp q b).2
               have b1:Gw.ev E x=B j:=ax.1;have bq:=E4 ab;rw[<-b1]at ab;refine⟨xs,ab,b6,λq b=>?_,A.drop j,λq b=>?_⟩
               case refine_2=>
                rw[b1]at b;rcases an with an|an
                . rw[an];exact rS _
                exact A.mrk.2 j q (an j rfl) (by rw[G];exact bq.trans b)
               rw[b1]at b;refine⟨ck q b,(World.ownsRow.lt ab q (by rw[b1];exact b)).1,λbt ag=>?_⟩;simp only[dropR,St.L_setL]at ag;by_cases bb:bt=j
               . rw[qT bb]at ag;exact ag.elim
               rw[qL bb]at ag;exact A.disj bt j q bb ag (by rw[G];exact bq.trans b)
            cases u
          cases u
        . rename_i d7;cases Q:Uc d7 with
          |false=>simp[Q]at u
          |true=>
           simp[Q]at u;subst u;have ag:Gw.ev E x= .slice none 0 0:=by rw[ax.1.1];exact Gh Q
           refine⟨[],by rw[ag];exact World.ownsRow_nil _ _ _ _,rfl,λq b=>?_,A,λq b=>?_⟩<;>(rw[ag]at b;cases b)
        cases u
       obtain⟨xs,ab,b6,b2,bc,cw⟩:=co;obtain⟨d6,b4,a4,cm,b9,bj,cb⟩:=GZ (P:=cx.P) (ty:=ty) I ce z cs d1 (qP o.2) ab (ao:=ao) (m:=bx.length) (c:=bz) (news:=c3) cd (λa1 ax=>ca a1 ax) (λQ=>by have:=cj Q;omega) (G5.oneCell b7) c6 (by rw[f];exact c5) A.ext.size;have ac:∀q,(Z q\/∃j,B6 w (B j) ((dropR ah a1).L j) q)->b4.heap[q]? =w.heap[q]?:=λq b=>by
        refine b9.block q ?_ (λF=>?_)
        . rcases b with b| ⟨j,G⟩
          . exact A.zlt q b
          exact((bc.locs j).root G).2.1
        have:=b2 q F.symm;rcases b with b| ⟨j,G⟩
        . exact this.1 b
        exact this.2.2 j G
       have W:=bc.keep (Z':=Z) (A.ext.grown b9 cb (λq b=> .inl (b2 q b).2.1)) b9.size ac (λ_=>id) (λ_=> .inl);have ct:O1 Z w b4:=λq b=>ac q (.inl b)
       have bm:∀j q,B6 b4 (B j) ((dropR ah a1).L j) q->B6 w (B j) ((dropR ah a1).L j) q:=λj q hf=>(B6.iff λc D=>ac c (.inr ⟨j,D⟩)).1 hf
       obtain⟨B',M⟩:=W.newRow d (l:=l++bx) (by rw[rN];exact cm) ((b6.append b7).mono λ_ _=>C6.mono (λ_=>id) ct) (λq b=>by
        rcases bj with ag|ag
        . rw[ag]at b;exact⟨(b2 q b).1,λj G=>(b2 q b).2.2 j (bm j q G)⟩
        . rw[ag]at b;cases b;exact⟨λz=>absurd (A.zlt _ z) (uR _),λj G=>absurd ((bc.locs j).root (bm j _ G)).2.1 (uR _)⟩) (λq b1 b=>by
        rcases bj with ag|ag
        . rw[ag]at b;exact cw q b
        rw[ag]at b;cases b;exact A.mrk.1)
       have b5:ak= #[x,ai]:=by rw[<-af]
       have bf:aw= #[T,T]:=by rw[<-ar]
       subst b5 bf;refine S0 (v:=d6) (w':=b4) (λ_ _ _ _=>?_) O ⟨λF=>(by cases F),_,_,_,M,H⟩;simp[execOp,resolve,invoke,builtin,cv,a4]
   cases a
 . rename_i T d3;simp only[qG,bind_some]at a;obtain⟨ti,N,a⟩:=a;split at a
   . rename_i a6 a7 a8 a9 Y;cases a;obtain⟨B',M⟩:=h.newMap d a6 a7 a8 a9;exact S0 A8a O ⟨λ_=>R1.alloc w _,_,_,_,M,H⟩
   . rename_i a6 a7 a8 a9 au Y;simp only[qJ]at a;obtain⟨n,Q,a⟩:=a;cases a;obtain⟨I,_⟩:=Vn (B9 a0 N) Y;obtain⟨dc,aj,_⟩:=h.int (E7 E) Q;obtain⟨B',M⟩:=h.newMap d a6 a7 a8 a9;refine S0 (v:= .map (some w.heap.size)) (w':=w.alloc (.map #[] 0)) (λ_ _ _ _=>?_) O ⟨λ_=>R1.alloc w _,_,_,_,M,H⟩;simp[execOp,Instr.makeMap,aj,run_underlying I,asInt,go_sem]
   cases a
 . rename_i ak aw;split at a
   . rename_i x T af ar;simp only[qG,bind_some]at a;obtain⟨ti,N,a⟩:=a;split at a
     . rename_i a6 a7 a8 a9 Y;simp only[bind_some]at a;obtain⟨c,⟨s,ap,aq⟩,aa,a3,a⟩:=a;cases a;have ay:(aa.length:Int)<=9223372036854775807:=by have:aa.length<=9223372036854775807:=b3;omega
       have b5:ak= #[x]:=by rw[<-af]
       have bf:aw= #[T]:=by rw[<-ar]
       subst b5 bf;obtain⟨I,_⟩:=Vn (B9 a0 N) Y;have y:=h.c1 (E7 E) (bind_some.2 ⟨s,ap,aq⟩);have cf:FT .i64 (aa.length:Int):=by
        unfold FT;have aj:i64.min= -9223372036854775808:=δ
        have j:i64.max=9223372036854775807:=δ
        omega
       have cz:Gw.D9 cx.P E ty (.call ⟨.builtin .len, #[x], #[T]⟩) w (.int .i64 (aa.length:Int)) w:=by
        intro _ _ _ _;rcases A3u h y.1 a3 with⟨e,Q⟩ | ⟨i,a2,V,e,ch,f,X⟩
        . simp[execOp,resolve,invoke,builtin,Builtin.len_,e,run_underlying I,goInt,Q]
        have bn:(getObj i).run cx.P w= .ok (.map a2 V) w:=by simp[getObj,Sem.run,f]
        have u:=S8.len X;simp[execOp,resolve,invoke,builtin,Builtin.len_,e,run_underlying I,bn,goInt]at u|-;exact sD Int.ofNat u
       exact S0 cz O ⟨λ_=>R1.refl w,_,_,_,h.setS d (x:=one1 (.val (.int .i64) (aa.length:Int))) ⟨_,[],rfl,⟨rfl,cf⟩,rfl⟩ (λc D=>by simp at D;subst D;trivial),H⟩
     cases a
   cases a
 . rename_i T x;simp only[qJ]at a;obtain⟨d5,u,a⟩:=a;cases a;obtain⟨v,B',y,ae⟩:=nC (ty:=ty) h a0 u;exact S0 (y w (R1.refl w)) O ⟨λ_=>R1.refl w,_,_,_,ae,H⟩
 . rename_i T x;simp only[qG,bind_some]at a;obtain⟨ti,N,a⟩:=a;split at a
   . rename_i a6 a7 a8 a9 Y;simp only[bind_some]at a;obtain⟨c,⟨s,ap,aq⟩,aa,a3,a⟩:=a;cases a;obtain⟨I,_⟩:=Vn (B9 a0 N) Y;obtain⟨Z1,y⟩:=h.settleO x;have D:=(y.c1 (E7 E) (bind_some.2 ⟨s,ap,aq⟩)).1;have bg:∀au,(Instr.range T (Gw.ev E x)).run cx.P w= .ok (.pointer (some ⟨w.heap.size,0,none⟩)) (w.alloc au)->ItR (w.alloc au) Z1 a6 a7 a8 a9 w.heap.size aa none->J8 cx.P all ⟨some d, .range T x,ty,pos,aft,g⟩ (bX za w0 w (wrB (.range T x)) k) E w:=λau a4 ba=>by
      have r:R1 w (w.alloc au):=R1.alloc w _;have W:=y.more (Z':=Z1) r (λ_=>id) (λ_=> .inl);have ae:=W.new (v:= .pointer (some ⟨w.heap.size,0,none⟩)) (lc:= .iter a6 a7 a8 a9 aa none) ⟨w.heap.size,C1 _ _ _, .inl ⟨y.nms.2,h.ext.size⟩,λz=>absurd (y.zlt _ z) (uR _),ba⟩
       (λk i f j=>by
        simp only[B6,root,rC]at f;have:=((y.locs k).root (y.ft r j)).2.1;omega)
       trivial rfl (λi _ f=>by simp only[B6,root,rC]at f;have:=h.mrk.1;omega)
      have M:=ae.setS d (x:=one1 (.box (settleO st x).nx 0)) (v:= .pointer (some ⟨w.heap.size,0,none⟩)) ⟨_,[],rfl,⟨w.heap.size,C1 _ _ _,rfl⟩,rfl⟩ (λc D=>by simp at D;subst D;exact rR _);exact S0 (λ_ _ _ _=>by simp[execOp,a4]) O ⟨λ_=>r,_,_,_,M,H⟩
     unfold B3l at a3;split at a3
     . split at a3
       . rename_i b8;subst b8;cases a3;rcases D with⟨e,Q⟩ | ⟨i,a2,V,e,f,F,ci,X⟩
         . simp only[sI,vO]at e;exact bg (.mapIter none 0 #[] 0) (by rw[e];exact run_range_nilMap (P:=cx.P) w T _ _ I) (.inl ⟨heap_alloc_new w _,Q,rfl⟩)
         simp only[sI,vO]at e;have ch:=y.zlt i f;have bn:(getObj i).run cx.P w= .ok (.map a2 V) w:=by simp[getObj,Sem.run,F]
         have ac:O1 Z1 w (w.alloc (.mapIter (some i) V #[] V)):=λq b=>(R1.alloc w _).block q (y.zlt q b)
         refine bg (.mapIter (some i) V #[] V) (by rw[e];exact run_range_map (P:=cx.P) w T _ _ i a2 V I F) (.inr ⟨i, #[],a2,V,heap_alloc_new w _,f,(ac i f).trans F,ci,?_,λx r=>by cases r⟩);have cg:leftOf a2 #[]=a2:=by simp[leftOf]
         rw[cg];exact Kh.mono (λ_=>id) ac X
       cases a3
     . cases a3;have e:Gw.ev E x= .map none:=D.1;exact bg (.mapIter none 0 #[] 0) (by rw[e];exact run_range_nilMap (P:=cx.P) w T _ _ I) (.inl ⟨heap_alloc_new w _,rfl,rfl⟩)
     cases a3
   cases a
 . rename_i x;simp only[qG,bind_some]at a;obtain⟨c,⟨s,ap,aq⟩,a⟩:=a;split at a
   . rename_i q d2;split at a
     . rename_i a6 a7 a8 a9 left ai b;cases o:Nat.beq d2 0 with
       |false=>simp only[o,rG]at a;cases a
       |true=>
        simp only[o,qR]at a;cases a;have ab:=qD o;subst ab;obtain⟨i,A,an⟩:=(h.c1 (E7 E) (bind_some.2 ⟨s,ap,aq⟩)).1;have j:=h.locs q;rw[b]at j;obtain⟨d3,az,_,_,ba⟩:=j;rw[A]at az;cases az;rcases ba with⟨_,_,Q⟩ | ⟨m,seen,a2,V,ax,b7,b1,b2,b9,b4⟩
        . cases Q
        obtain⟨e,X,⟨b6,ag⟩,G,a1⟩:=b4 ai rfl;subst ag;have a4:=run_entry_at (P:=cx.P) w i m V b6 a2 V e ax b1 X b2.2;refine S0 (v:= .tuple #[e.key,e.val]) (w':=w) (λ_ _ _ _=>by simp[execOp,an,a4]) O ⟨λ_=>R1.refl w,_,_,_,h.setS d (x:= .tup [⟨a6,explode a7 ai.1⟩,⟨a8,explode a9 ai.2⟩]) ⟨[e.key,e.val],rfl,_,_,rfl,Bf.explode G,_,_,rfl,Bf.explode a1,rfl⟩ (λs a c D=>?_),H⟩;simp only[qV,vQ,g0b]at a;rcases a with rfl|rfl<;>exact E8 c D
     cases a
   cases a
 . rename_i ak aw;split at a
   . rename_i x ai T sT af ar;obtain⟨ah,cq,a⟩:=qJ.1 a;cases a;have c2:ak= #[x,ai]:=yN.1 af;have c4:aw= #[T,sT]:=yN.1 ar;subst c2 c4;obtain⟨v,w',B',a5,az⟩:=A9n (ty:=ty) (sT:=sT) h a0 cq;exact S0 a5 O ⟨λF=>(by cases F),_,_,_,az,H⟩
   cases a
 cases a
end
def AF (off n:Nat) (cs a:List C):List C:=cs.take off++a++cs.drop (off+n)
def A2s (a:St) (k r:Nat) (lc:LC):St:=(((a.setL r .none).setL k .none).setL k lc).setL r (.al k)
def hoP (i:Nat):Option Nat->Option Prop
 |none=>none
 |some j=>some (i=j)
def attach (a:St) (k r i:Nat) (t:Ty) (e e':TypeId) (ls:List (List t.den)) (c:Option Nat):Option (Option Prop×St):=match a.L r with
 | .row d b l=>if h:d=t then(bif Nat.beq b e'&&Nat.ble a.nm r&&Nat.ble a.nm k&&Nat.blt k r then some (hoP i c,A2s a k r (.rows t e e' (ls.set i (h▸l)) [(i,r)] none))else none)else none
 | _=>none
def jB (ti:TI) (a:St) (s:SV) (k sz i off:Nat):Option St:=match a.L k with
 | .row t e l=>bif s.cs.all Ff&&Nat.beq s.cs.length ti.ty.size&&Nat.beq sz t.size&&Nat.ble (off+ti.ty.size) t.size then
  (match Lw t (AF off ti.ty.size (explode t (l.getD i t.dflt)) s.cs)with
   |some (x,[])=>some (a.setL k (.row t e (l.set i x)))
   | _=>none)else none
 | .al j=>match a.L j with
  | .rows t e d c al none=>match FV k al with
   |some b=>bif s.cs.all Ff&&Nat.beq s.cs.length ti.ty.size&&Nat.beq sz t.size&&Nat.ble (off+ti.ty.size) t.size then
    (match Lw t (AF off ti.ty.size (explode t ((c.getD b []).getD i t.dflt)) s.cs)with
     |some (x,[])=>some (a.setL j (.rows t e d (c.set b ((c.getD b []).set i x)) al none))
     | _=>none)else none
   |none=>none
  | _=>none
 | _=>none
def YO (cx:Cx) (a:St) (T:TypeId) (p v:Operand):Option (Option Prop×St):=do
 let ti<-cx.ti T
 let c<-(a.ev [] p).bind c1
 match c with
 | .box k c=>do
  let s<-a.ev [] v
  match a.L k with
  | .box T' b=>bif s.cs.all Ff&&Nat.beq s.cs.length ti.ty.size&&Nat.ble (c+ti.ty.size) b.length then some (none,a.setL k (.box T' (AF c ti.ty.size b s.cs)))else none
  | _=>none
 | .elp k sz i b=>match a.L k with
  | .rows t e c f _ d=>match a.ev [] v with
   |some ⟨false,[.row r]⟩=>bif Nat.beq sz 1&&Nat.beq b 0&&Nat.beq ti.ty.size 1 then attach a k r i t e c f d else none
   | _=>none
  | _=>do
   let s<-(settleO a v).ev [] v
   (jB ti (settleO a v) s k sz i b).map λc=>(none,c)
 | _=>none
def mapM (d:St) (c:Bool) (a:Ty) (g:Bool) (b:Ty) (k:Nat):Option (List (a.den×b.den)):=match d.L k with
 | .map d f h i j=>if l:Ty.mp d f h i=Ty.mp c a g b then some (l▸(show(Ty.mp d f h i).den from j):(Ty.mp c a g b).den)else none
 | _=>none
def WO (cx:Cx) (a:St) (d:Tmp) (T:TypeId) (m x:Operand):Option St:=none
def VQ (a:St) (m s y:Operand):Option St:=none
def OA (cx:Cx) (a:St) (T:TypeId) (m x y:Operand):Option St:=do
 let ti<-cx.ti T
 let c<-((settleO a y).ev [] m).bind c1
 let i<-(settleO a y).ev [] x
 let j<-(settleO a y).ev [] y
 match ti.ty,c with
 | .mp c b d f, .mp k=>do
  let g<-mapM (settleO a y) c b d f k
  let h<-Ro c b i
  let v<-Ro d f j
  some ((settleO a y).setL k (.map c b d f (Ej b h v g)))
 | _,_=>none
section
variable {za:Zn} {w0 w w':World} {Z Z':Nat->Prop} {B:Nat->Value} {st st':St} {E:G9} {cx:Cx} {φ:Option Prop} {d:Tmp} {all:List Oper} {ty:TypeId} {pos:String} {aft:Array Edge} {g:Option (Nat×Bool)} {k:St->Prop}
def Ct.one (h:C2 za w0 st E w Z B):∀ {cs:List C} {vs:List Value},cs.all Ff=true->Ct w Z B cs vs->∀u∈vs,u.oneCell'=true
 | [],_,_,a=>by rw[show _= _ from a];exact Ko
 |c::cs,_,a,⟨v,f,e,b,d⟩=>by
  simp only[tN,qC]at a;rw[e];exact Lu (RC.one h a.1 b) (Ct.one h a.2 d)
def eQ {off n:Nat} {cs a:List C} {vs us:List Value} (h:Ct w Z B cs vs) (b:Ct w Z B a us) (c:a.length=n):Ct w Z B (AF off n cs a) (vs.take off++us++vs.drop (off+us.length)):=by
 have:us.length=n:=by rw[<-c,b.len]
 rw[this];exact((h.take off).append b).append (h.drop (off+n))
def oN {α:Type} {cur us:List α} {n a sz off m:Nat} (c:us.length=m) (b:a+sz<=n) (d:n<=cur.length) (f:off+m<=sz):
 (cur.take (a+off)++us++cur.drop (a+off+m)).take n=(cur.take n).take a++((((cur.take n).drop a).take sz).take off++us++(((cur.take n).drop a).take sz).drop (off+m))++(cur.take n).drop (a+sz):=by
 have b:(cur.take n).take a=cur.take a:=by rw[g1f,tD ω]
 have d:((cur.take n).drop a).take sz=(cur.drop a).take sz:=by rw[g1d,g1f,tD ω]
 have f:((cur.drop a).take sz).take off=(cur.drop a).take off:=by rw[g1f,tD ω]
 have g:((cur.drop a).take sz).drop (off+m)=(cur.drop (a+off+m)).take (sz-(off+m)):=by rw[g1d,vX,uQ]
 have h:(cur.take n).drop (a+sz)=(cur.drop (a+sz)).take (n-(a+sz)):=by rw[g1d]
 have i:cur.take a++(cur.drop a).take off=cur.take (a+off):=by rw[List.take_add]
 have j:(cur.drop (a+off+m)).take (sz-(off+m))++(cur.drop (a+sz)).take (n-(a+sz))=(cur.drop (a+off+m)).take (n-(a+off+m)):=by
  have:n-(a+off+m)=(sz-(off+m))+(n-(a+sz)):=ω
  rw[this,List.take_add,vX];congr 3;omega
 rw[b,d,f,g,h];have b:(cur.take (a+off)).length=a+off:=by rw[qY];omega
 rw[g0g,qQ (by rw[rN,b,c];omega),rN,b,c, <-j, <-i];simp only[uC]
def frE (k0 k:Nat) (a b:LC):Bool:=match a with
 | .rows _ _ _ _ _ _=>Nat.ble k0 k
 | _=>match b with
  | .al j=>Nat.ble k0 j
  | _=>Nat.ble k0 k
def frO (k0:Nat) (st:St):Op->Bool
 | .store _ p v=>match(st.ev [] p).bind c1 with
  |some (.box k _)=>Nat.ble k0 k
  |some (.elp k _ _ _)=>frE k0 k (st.L k) ((settleO st v).L k)
  | _=>false
 | _=>false
def CC {B0 b:Nat} (a:UB b w w') (c:B0<=b):Below B0 w w'/\True:=⟨⟨a.1,a.2.1,a.2.2.1.1,by rw[a.2.2.2.1];exact qU _,λk c=>a.2.2.2.2 k ω⟩,trivial⟩
def H6 {α:Type} {c:Bool} {a:Option α} {x:α} (h:(bif c then a else none)=some x):c=true/\a=some x:=by
 cases c with
 |true=>exact⟨rfl,h⟩
 |false=>cases h
def C0g {k0 sz i off q:Nat} {T:TypeId} {p v:Operand} (a:frO k0 st (.store T p v)=true) (f:(st.ev [] p).bind c1=some (.elp q sz i off)) (d:(match(settleO st v).L q with| .al _=>false| _=>true)=true):k0<=q:=by
 simp only[frO,f]at a;generalize st.L q=b at*;generalize (settleO st v).L q=c at*;unfold frE at a;cases b<;>cases c<;>simp at d a<;>exact a
def C0f {k0 sz i off q j:Nat} {T:TypeId} {p v:Operand} (a:frO k0 st (.store T p v)=true) (g:(st.ev [] p).bind c1=some (.elp q sz i off)) (f:∀t e e' ls al c,st.L q= .rows t e e' ls al c->False) (d:(settleO st v).L q= .al j):k0<=j:=by
 simp only[frO,g,d]at a;cases b:st.L q with
 |rows t e e' ls al c=>exact(f _ _ _ _ _ _ b).elim
 | _=>simp[b,frE]at a;exact a
def NJ {v:Value} (h:v.oneCell'=true):v.cells.toList= [v]:=by
 have:v.cells= #[v]:=by cases v<;>simp[Value.cells,Value.oneCell']at h|-
 rw[this]
def eF {P:Program} (O:C2 za w0 st E w Z B) {T e:TypeId} {p v:Operand} {t:Ty} {l:List t.den} {xs:List Value} {b m d i off n:Nat} {s:SV} {x:t.den} (a8:Sl P T n=true) (a4:w.ownsRow 0 e t.size (.slice (some ⟨b,0,none⟩) m d) l.length xs) (u:G5 (C6 t w Z) xs l) (a3:¬Z b) (f:i<m) (aa:Gw.ev E p= .pointer (some ⟨b,i*t.size+off,none⟩))
 (o:Ct w Z B s.cs (Gw.ev E v).cells.toList) (a2:s.cs.all Ff=true) (G:s.cs.length=n) (W:off+n<=t.size) (M:Lw t (AF off n (explode t (l.getD i t.dflt)) s.cs)=some (x,[])):
 ∃w',Gw.IX P E ty (.store T p v) w w'/\UB b w w'/\∃N,w'.ownsRow 0 e t.size (.slice (some ⟨b,0,none⟩) m d) (l.set i x).length N/\G5 (C6 t w' Z) N (l.set i x):=by
 have c:(Gw.ev E v).cells.toList.length=n:=by rw[<-G,o.len]
 rcases a4.2 with⟨a,_⟩ | ⟨ab,ac,g,a,U,F,H,V,r,a9⟩
 . cases a
 cases a;have ad:=G5.length (R:=C6 t w Z) (s:=t.size) (λ_ _ h=>C6.length h) u;have Y:=G5.get (R:=C6 t w Z) (s:=t.size) (λ_ _ h=>C6.length h) u (qN f);have X:l.getD i t.dflt=l[i]:=by rw[qE,qN f];rfl
 rw[X]at M;have a0:i*t.size+t.size<=l.length*t.size:=by rw[<-tZ];exact rM _ f
 have a1:l.length*t.size<=d*t.size:=rM _ H;generalize Q:(Gw.ev E v).cells.toList=y at*;have J:=TS (P:=P) (ty:=ty) (w:=w) y aa rfl Q a8 c F (by rw[c,r];omega) (Ct.one O a2 o);generalize D:(g.toList.take (i*t.size+off)++y++g.toList.drop (i*t.size+off+y.length)).toArray=j at J;have A:UB b w (w.setRow b j):=⟨rfl,rfl,⟨rfl,qU _⟩,by simp,λk hk=>setRow_other w b k _ hk⟩;have a6:O1 Z w (w.setRow b j):=λz hz=>A.2.2.2.2 z (λa=>a3 (a▸hz))
 have a5:=Gq (eQ (off:=off) (O2 (B:=B) Y) o G) M;have I:=G5.set (R:=C6 t w Z) (s:=t.size) (λ_ _ h=>C6.length h) u a5 f;refine⟨_,J,A,_,?_,I.mono λ_ _=>C6.mono (λ_=>id) a6⟩;rw[qW];have a7:=G5.length (R:=C6 t w Z) (s:=t.size) (λ_ _ h=>C6.length h) I;refine⟨by rw[a7,qW], .inr ⟨b,d,j,rfl,U,setRow_heap w b g _ e _ F,H,V,?_,?_⟩⟩
 . rw[<-D];simp only[zY,rN,qY,sL,sA,r,c];omega
 rw[<-D];simp only[yZ];rw[c, <-a9];exact oN c a0 (by simpa[r]using a1) W
def C2.attach (h:C2 za w0 st E w Z B) {k r i g:Nat} {t:Ty} {e e':TypeId} {ls:List (List t.den)} {al:List (Nat×Nat)} {o:Option Nat} {l:List t.den} {xs:List Value} (u:st.L k= .rows t e e' ls al o) (T:st.L r= .row t e' l) (J:k≠r) (an:st.nm<=k) (b1:st.nm<=r) (ak:i<ls.length) (Q:∀j,o=some j->i=j)
 (aq:w.ownsRow 0 e 1 (B k) ls.length xs) (a1:root (B k)=some g) (s:UB g w w') (a6:w'.ownsRow 0 e 1 (B k) ls.length (xs.set i (B r))) (ap:za.k0<=k->∀b,root (B r)=some b->za.b0<=b):C2 za w0 (A2s st k r (.rows t e e' (ls.set i l) [(i,r)] none)) E w' Z B:=by
 have X:=h.locs k;have Y:=h.locs r;rw[u]at X;rw[T]at Y;obtain⟨b5,A,⟨ay,ag,ah⟩,W,az⟩:=X;have av:=Rl aq A;subst av;obtain⟨ax,a9,aw,b4⟩:=Y;have D:B6 w (B k) (st.L k) g:=by rw[u];exact .inl a1
 have a2:¬Z g:=((h.locs k).root D).2.2;have a8:O1 Z w w':=λn hc'=>s.2.2.2.2 n (λe=>a2 (e▸hc'))
 have z:∀b,root (B r)=some b->B6 w (B r) (st.L r) b:=λb a=>by rw[T];exact a
 have au:root (B r)≠some g:=λa=>h.disj k r g J D (z g a)
 have ao:k<st.nx:=Fe h (by rw[u];trivial);have a7:r<st.nx:=Fe h (by rw[T];trivial);have b2:xs.length=ls.length:=by have:=A.1;omega
 have P:∀b,B6 w' (B k) (.rows t e e' (ls.set i l) [(i,r)] none) b->root (B r)=some b\/B6 w (B k) (st.L k) b:=λb a=>by
  rcases a with a| ⟨aa,b3,V,a3,a5,j,x,M,N,ac,_,d,a⟩
  . exact .inr (by rw[u];exact .inl a)
  have H:(xs.set i (B r))[j]? =some x:=by
   rcases a6.2 with⟨f,_⟩ | ⟨ab,a0,a4,f,_,I,aj,_,am,U⟩
   . rw[M]at f;cases f
   rw[M]at f;cases f;rw[N]at I;cases I;rw[<-U,rX ω];simpa using d
  by_cases c:i=j
  . subst c;rw[sS ω]at H;cases H;exact .inl a
  rw[sY c]at H;refine .inr ?_;rw[u];have R:Eb o j=false:=by
   cases o with
   |none=>rfl
   |some q=>have:=Q q rfl;subst this;exact E5 c
  exact Qv A R H a
 have ad:=(h.drop r).drop k;have ae:C2 za w0 ((st.setL r .none).setL k .none) E w' Z B:=by
  refine ad.keep (h.ext.chg s ((h.locs k).root D).1.m) (by rw[s.2.2.2.1];exact qU _) (λq f=>s.2.2.2.2 q ?_) (λ_=>id) (λ_=> .inl);rintro rfl;rcases f with f| ⟨j,f⟩
  . exact a2 f
  rw[St.L_setL]at f;split at f
  . exact f.elim
  rename_i H;rw[St.L_setL]at f;split at f
  . exact f.elim
  exact h.disj j k q H f D
 have ai:∀b,(root (B r)=some b\/B6 w (B k) (st.L k) b)->up za w0 k b/\¬Z b/\b<w.heap.size:=λb a=>by
  rcases a with a|a
  . obtain⟨f,H,I⟩:=(h.locs r).root (z b a);refine⟨?_,I,H⟩;rcases f with f|f
    . exact .inl ⟨by rw[<-h.nms.1];exact an,f.2⟩
    have:=h.nms.1;omega
  obtain⟨f,H,I⟩:=(h.locs k).root a;exact⟨f,I,H⟩
 have ar:∀(j:Nat) (v:List t.den) (x:Value),i≠j->ls[j]? =some v->xs[j]? =some x->Eb o j=false/\∃O,w'.ownsRow 0 e' t.size x v.length O/\G5 (C6 t w' Z) O v:=λj v x c y d=>by
  have f:Eb o j=false:=by
   cases o with
   |none=>rfl
   |some q=>have:=Q q rfl;subst this;exact E5 c
  obtain⟨O,H,M⟩:=ag j v x f y d;refine⟨f,O,Bm H (λn I=>s.2.2.2.2 n ?_),M.mono λ_ _=>C6.mono (λ_=>id) a8⟩;rintro rfl;exact W j x n f d ((E4 H).trans I) a1
 have G:∀(j:Nat) (x:Value),i≠j->(xs.set i (B r))[j]? =some x->xs[j]? =some x/\Eb o j=false:=λj x c d=>by
  rw[sY c]at d;refine⟨d,?_⟩;cases o with
  |none=>rfl
  |some q=>have:=Q q rfl;subst this;exact E5 c
 have F:(xs.set i (B r))[i]? =some (B r):=sS ω;have af:C2 za w0 (((st.setL r .none).setL k .none).setL k (.rows t e e' (ls.set i l) [(i,r)] none)) E w' Z B:=by
  refine ae.addL ao ⟨_,by rw[qW];exact a6,⟨λp H=>?_,λj v x _ y d=>?_,λj N x U b a4 _ _ d M a f=>?_⟩,λj x b _ d a=>?_,λb a=>?_⟩ (λj b R a f=>?_) (λp H=>?_) (λb a5 a=>?_)
  . simp only[qK]at H;subst H;exact .inl F
  . by_cases c:i=j
    . subst c;rw[sS ak]at y;rw[F]at d;cases y;cases d;exact⟨ax,Bm a9 (λn aj=>s.2.2.2.2 n (λe=>au (e▸(E4 a9).trans aj))),aw.mono λ_ _=>C6.mono (λ_=>id) a8⟩
    rw[sY c]at y;exact(ar j v x c y (G j x c d).1).2
  . by_cases c:i=j
    . subst c;rw[F]at d;cases d;have:=G N U a4 M;exact h.disj k r b J (by rw[u];exact Qv A this.2 this.1 f) (z b a)
    have I:=G j x c d;by_cases a3:i=N
    . subst a3;rw[F]at M;cases M;exact h.disj k r b J (by rw[u];exact Qv A I.2 I.1 a) (z b f)
    have V:=G N U a3 M;exact ah j N x U b a4 I.2 V.2 I.1 V.1 a f
  . by_cases c:i=j
    . subst c;rw[F]at d;cases d;exact λf=>h.disj k r b J (by rw[u];exact .inl f) (z b a)
    have:=G j x c d;exact W j x b this.2 this.1 a
  . obtain⟨aa,ab,ac⟩:=ai b (P b a);exact⟨aa,ab,by rw[s.2.2.2.1];exact ac⟩
  . rw[St.L_setL,qL R,St.L_setL]at f;split at f
    . exact f.elim
    rename_i am;have a0:B6 w (B j) (st.L j) b:=(B6.iff λn hcf=>s.2.2.2.2 n (λe=>h.disj j k n R hcf (e▸D))).1 f;rcases P b a with a|a
    . exact h.disj j r b am a0 (z b a)
    exact h.disj j k b R a0 a
  . simp only[qK]at H;subst H;exact a7
  rcases P b a with a|a
  . exact ap a5 b a
  exact h.mrk.2 k b a5 a
 exact af.addL a7 trivial (λ_ _ _ a=>a.elim) trivial (λ_ _ a=>a.elim)
def eU (h:C2 za w0 st E w Z B) (bp:G8 cx.P cx.tys=true) {T:TypeId} {p v:Operand} (a:YO cx st T p v=some (φ,st')) (bt:EQ φ) (F:k st') (O:D6 all ⟨none, .store T p v,ty,pos,aft,g⟩ E=true):J8 cx.P all ⟨none, .store T p v,ty,pos,aft,g⟩ (λE' w'=>(frO za.k0 st (.store T p v)=true->Below za.b0 w w'/\True)/\Nx za w0 k E' w') E w:=by
 simp only[YO,qG,bind_some]at a;obtain⟨ti,bn,H,⟨Y,V,U⟩,a⟩:=a;have a5:=(J0 (B9 bp bn)).1;have s:=h.c1 (E7 E) (bind_some.2 ⟨Y,V,U⟩);split at a
 . rename_i q D;simp only[bind_some]at a;obtain⟨X,af,a⟩:=a;split at a
   . rename_i T' a9 j;cases b:X.cs.all Ff&&Nat.beq X.cs.length ti.ty.size&&Nat.ble (D+ti.ty.size) a9.length with
     |false=>simp only[b,rG]at a;cases a
     |true=>
      simp only[b,qR]at a;cases a;simp only[qC]at b;have Q:=qD b.1.2;have a2:=qP b.2;obtain⟨i,an⟩:=h.ev (E7 E) af;have J:=RS.cells h i b.1.1;have r:=h.locs q;have N:=h.refl q;rw[j]at r N;obtain⟨c,M,e,ao,aa,a6,am⟩:=r;obtain⟨aw,I,R⟩:=s.1;rw[e]at I;cases I;have ak:(Gw.ev E v).cells.toList.length=ti.ty.size:=by rw[<-Q,J.len]
      have G:=TS (P:=cx.P) (ty:=ty) (w:=w) (Gw.ev E v).cells.toList R rfl rfl a5 ak a6 (by rw[ak];have:=am.len;simp at this;omega) (Ct.one h b.1.1 J);have o:UB c w (w.setRow c (M.toList.take D++(Gw.ev E v).cells.toList++M.toList.drop (D+(Gw.ev E v).cells.toList.length)).toArray):=⟨rfl,rfl,⟨rfl,qU _⟩,by simp,λk F=>setRow_other w c k _ F⟩;have t:root (B q)=some c:=by rw[e];rfl
      have au:O1 Z w (w.setRow c (M.toList.take D++(Gw.ev E v).cells.toList++M.toList.drop (D+(Gw.ev E v).cells.toList.length)).toArray):=λai a7=>o.2.2.2.2 ai (λf=>aa (f▸a7))
      have aj:∀H∈AF D ti.ty.size a9 X.cs,Cq st.nx H:=λH s=>by
       simp only[AF,qS]at s;rcases s with(s|s) |s
       . exact N H (rQ s)
       . exact an H s
       exact N H (vM s)
      refine Vj G O ⟨λf=>CC o (h.mrk.2 q c (by simp only[frO,show(st.ev [] p).bind c1=some _ from bind_some.2 ⟨Y,V,U⟩]at f;exact qP f) (by rw[j];exact t)),_,_,_,h.chg (by rw[j];trivial) (by rw[j];exact t) o (lc:= .box T' (AF D ti.ty.size a9 X.cs)) ⟨c,_,e,ao,aa,setRow_heap w c M _ T' _ a6,?_⟩ aj (λ_ f=> .inl f),F⟩;exact Ct.mono (n:=st.nx) (λ_=>id) au (λ_ _=>rfl) aj (by simpa using eQ am J Q)
   cases a
 . rename_i q sz u D;split at a
   . rename_i a0 e I W al ar j;split at a
     . rename_i A bh;cases b:Nat.beq sz 1&&Nat.beq D 0&&Nat.beq ti.ty.size 1 with
       |false=>simp only[b,rG]at a;cases a
       |true=>
        simp only[b,qR]at a;simp only[qC]at b;have b3:=qD b.1.1;have b4:=qD b.1.2;have b6:=qD b.2;subst b3 b4;unfold Vc.attach at a;split at a
        . rename_i c9 b5 ax aw;split at a
          . rename_i bg;subst bg;cases M:Nat.beq b5 I&&Nat.ble st.nm A&&Nat.ble st.nm q&&Nat.blt q A with
            |false=>simp only[M,rG]at a;cases a
            |true=>
             simp only[M,qR]at a;cases a;simp only[qC]at M;have b7:=qD M.1.1.1;subst b7;have bm:q<A:=qP M.2;obtain⟨a1,b8⟩:=h.ev (E7 E) bh;obtain⟨bv,ca,a6,bq,c4⟩:=a1;cases a6;have bs:Gw.ev E v=B A:=bq;have r:=h.locs q;rw[j]at r;obtain⟨b1,i,_⟩:=r;obtain⟨c,m,a8,y,a3,R⟩:=s.1;have bk:m=W.length:=by
              rw[y]at i;rcases i.2 with⟨f,_⟩ | ⟨_,_,_,f,_⟩<;>cases f
              rfl
             subst bk;have au:(B A).oneCell'=true:=h.bone A;have bb:(Gw.ev E v).cells.toList= [B A]:=by rw[bs];exact NJ au
             have ak:=i;rw[y]at ak;rcases ak.2 with⟨f,_⟩ | ⟨bx,bz,N,f,b9,an,bl,be,aa,bo⟩
             . cases f
             cases f;have G:=TS (P:=cx.P) (ty:=ty) (w:=w) [B A] R rfl bb a5 (by rw[b6];rfl) an (by rw[aa];simp;omega) (λbv a6=>by simp at a6;subst a6;exact au);generalize am:(N.toList.take (u*1+0)++ [B A]++N.toList.drop (u*1+0+ [B A].length)).toArray=aj at G;have o:UB c w (w.setRow c aj):=⟨rfl,rfl,⟨rfl,qU _⟩,by simp,λk F=>setRow_other w c k _ F⟩;have t:root (B q)=some c:=by rw[y];rfl
             have bi:B6 w (B q) (st.L q) c:=by rw[j];exact .inl t
             refine Vj G O ⟨λf=>CC o (h.mrk.2 q c (by simp only[frO,show(st.ev [] p).bind c1=some _ from bind_some.2 ⟨Y,V,U⟩,j,frE]at f;exact qP f) bi),_,_,_,h.attach j aw (tY bm) (qP M.1.2) (qP M.1.1.2) a3 (λx z=>?_) i t o ?_ ?_,F⟩
             . subst z;exact bt
             . rw[y];refine⟨by rw[qW];exact i.1, .inr ⟨c,a8,aj,rfl,b9,setRow_heap w c N _ e _ an,bl,be,?_,?_⟩⟩
               . rw[<-am];simp only[zY,rN,qY,sL,sA,aa,rJ,xZ];omega
               rw[<-am, <-bo];simp only[yZ];apply xM;intro x;have c2:N.toList.length=a8*1:=by rw[sA,aa]
               simp only[xP,tJ,rJ,xZ,sC];by_cases z:x<W.length
               . rw[rX z];by_cases ao:u=x
                 . subst ao;rw[sS (by rw[qY];omega),uC,tG (by rw[qY];omega),qY];rw[(ω:u-min u N.toList.length=0)];rfl
                 rw[sY ao,rX z,uC];by_cases bj:x<u
                 . rw[uT (by rw[qY];omega),rX bj]
                 rw[tG (by rw[qY];omega),qY,(ω:min u N.toList.length=u)];obtain⟨d,b⟩:∃d,x-u=d+1:=⟨x-u-1,ω⟩;rw[b];simp only[yO,wW,uN,xF];rw[(ω:u+1+d=x)]
               rw[rT (by rw[qY];omega),rT (by rw[qW,qY];omega)]
             exact λc3 b2 ba=>h.mrk.2 A b2 ω (by rw[aw];exact ba)
          cases a
        cases a
     cases a
   rename_i ap;simp only[bind_some,qJ]at a;obtain⟨X,af,c8,l,a⟩:=a;cases a;obtain⟨Z1,i⟩:=h.settleO v;have c0:=λa0 e I W al ar=>ap a0 e I W al ar
   obtain⟨a1,b8⟩:=i.ev (E7 E) af;obtain⟨c,m,a8,y,a3,R⟩:=s.1;have t:root (B q)=some c:=by rw[y];rfl
   unfold jB at l;split at l
   . rename_i a0 e ax j;obtain⟨b,l⟩:=H6 l;simp only[qC]at b;split at l
     . rename_i az ah;cases l;have Q:=qD b.1.1.2;have ag:=qD b.1.2;have a2:=qP b.2;subst ag;have J:=RS.cells i a1 b.1.1.1;have r:=i.locs q;rw[j]at r;obtain⟨b1,av,bf,ad⟩:=r;rw[y]at av ad;obtain⟨w',G,o,bw,ae,ab⟩:=eF (P:=cx.P) (ty:=ty) i a5 av bf (ad c rfl).2 a3 R J b.1.1.1 Q a2 ah;refine Vj G O ⟨λf=>CC o ?_,_,_,_,i.chg (by rw[j];trivial) (by rw[j];exact t) o (lc:= .row a0 e (ax.set u az)) ⟨_,by rw[y];exact ae,ab,λai a7=>by rw[y]at a7;exact ad ai a7⟩ trivial (λ_ f=> .inl f),F⟩;exact i.mrk.2 q c (C0g f (bind_some.2 ⟨Y,V,U⟩) (by rw[j])) (by rw[j];exact t)
     cases l
   . rename_i x j;split at l
     . rename_i a0 e I W al z;split at l
       . rename_i c5 ac;obtain⟨b,l⟩:=H6 l;simp only[qC]at b;split at l
         . rename_i az ah;cases l;have Q:=qD b.1.1.2;have ag:=qD b.1.2;have a2:=qP b.2;subst ag;have J:=RS.cells i a1 b.1.1.1;have r:=i.locs x;rw[z]at r;obtain⟨b1,cb,c6,c7,ay,bu⟩:=iZ r ac;have aq:¬Z1 c:=by
            obtain⟨am,a6,⟨M,aa,aj⟩,ak,N⟩:=r;exact(N c (Qv a6 rfl ((M _ (Kt ac)).resolve_right λf=>by rw[f.2]at t;simp[root]at t) t)).2.1
           rw[y]at ay;obtain⟨w',G,o,bw,ae,ab⟩:=eF (P:=cx.P) (ty:=ty) i a5 ay bu aq a3 R J b.1.1.1 Q a2 ah;have a4:=B3e r (Kt ac) t o aq (by rw[y];exact ae) ab;refine Vj G O ⟨λf=>CC o ?_,_,_,_,i.chg (k:=x) (by rw[z];trivial) (by rw[z];exact a4.2.1) o a4.1 (by have:=i.refl x;rw[z]at this;exact this) (λH bc=> .inr (by rw[z];exact(W0 λg O=>o.2.2.2.2 g (λe=>a4.2.2 (e▸O))).1 bc)),F⟩;exact i.mrk.2 x c (C0f f (bind_some.2 ⟨Y,V,U⟩) ap j) (by rw[z];exact a4.2.1)
         cases l
       cases l
     cases l
   cases l
 cases a
def oD:∀(v:Value) (n:Nat),(∃k a,v= .int k a)\/(∃b,v= .bool b)->Instr.sameBits n v v=true:=by
 rintro v n (⟨k,a,rfl⟩ | ⟨b,rfl⟩)
 . cases n<;>simp[Instr.sameBits]
 cases n<;>simp[Instr.sameBits]
def Us:∀ {t:Ty} {cs:List Value} {x:t.den},Gr t=true->C6 t w Z cs x->∀v∈cs,(∃k a,v= .int k a)\/(∃b,v= .bool b)
 | .int k,_,x,_,h=>by rw[h.1];intro v c;simp at c;exact .inl ⟨_,_,c⟩
 | .bool,_,x,_,h=>by rw[show _= _ from h];intro v c;simp at c;exact .inr ⟨_,c⟩
 | .unit,_,_,_,h=>by rw[show _= _ from h];intro v c;cases c
 | .pair a b,_,_,d,⟨c1,h,e,f,g⟩=>by
  simp only[Gr,qC]at d;rw[e];intro v c;rcases qS.1 c with c|c
  . exact Us d.1 f v c
  exact Us d.2 g v c
 | .str,_,_,h,_=>by cases h
 | .sl _,_,_,h,_=>by cases h
 | .ptr _,_,_,h,_=>by cases h
 | .mp _ _ _ _,_,_,h,_=>by cases h
def oE:∀(cs:List Value) (n:Nat),(∀v∈cs,(∃k a,v= .int k a)\/(∃b,v= .bool b))->(cs.zip cs).all (λx=>Instr.sameBits n x.1 x.2)=true
 | [],_,_=>rfl
 |c::cs,n,h=>by
  simp only[List.zip_cons_cons,tN,qC];exact⟨oD c n (h c (by simp)),oE cs n (λv d=>h v (by simp[d]))⟩
def B1f {a:Bool} {t:Ty} {v:Value} {x:t.den} (b:Gr t=true) (h:U7 (C6 t w Z) a v x):Instr.sameBits 10000 v v=true:=by
 cases a with
 |true=>
  obtain⟨cs,e,h⟩:=h;subst e;have:=oE cs 9999 (Us b h);simp only[Instr.sameBits,beq_self_eq_true,zE];exact this
 |false=>exact oD v 10000 (Us (cs:= [v]) b h v (by simp))
def B1g {a:Bool} {t:Ty} {v c:Value} {x:t.den} (d:Gr t=true) (h:U7 (C6 t w Z) a v x) (b:U7 (C6 t w Z) a c x):v=c:=by
 cases a with
 |true=>
  obtain⟨cs,e,h⟩:=h;obtain⟨cs',f,b⟩:=b;rw[e,f,Oc d h b]
 |false=>
  have:=Oc (cs:= [v]) (cs':= [c]) d h b;simpa using this
def lN {a:Ty} {d:Type} {Rk:Value->a.den->Prop} {Rv:Value->d->Prop} {k:a.den} {v:d} {kv vv:Value} {cl:Nat} (g:Rk kv k) (h:Rv vv v):∀ {l:List (a.den×d)} {es:List MapEntry} {i:Nat},S8 Rk Rv es l->
 (P5 a k l i=none->S8 Rk Rv (es++ [{key:=kv,val:=vv,born:=cl}]) (Ej a k v l))/\(∀j,P5 a k l i=some (i+j)->S8 Rk Rv (es.modify j λe=> {e with key:=kv,val:=vv}) (Ej a k v l))
 | [],es,i,b=>by
  rw[show es= []from b];exact⟨λ_=>⟨_,[],rfl,g,h,rfl⟩,λj c=>by cases c⟩
 |x::l,_,i,⟨e,u,t,n,o,r⟩=>by
  subst t;simp only[P5,Ej];cases f:FQ a k x.1 with
  |true=>
   refine⟨λb=>by simp at b,λj c=>?_⟩;simp only[qR,rC]at c;have:j=0:=ω
   subst this;exact⟨_,_,rfl,g,h,r⟩
  |false=>
   simp only[rG];have c:=lN (cl:=cl) g h (i:=i+1) r;refine⟨λb=>⟨e,_,rfl,n,o,c.1 b⟩,λj s=>?_⟩;cases j with
   |zero=>
    exfalso;have:∀(l:List (a.den×d)) (i j:Nat),P5 a k l i=some j->i<=j:=by
     intro l
     induction l with
     |nil=>intro i j b;cases b
     |cons y l c=>
      intro i j b;unfold P5 at b;cases f:FQ a k y.1 with
      |true=>simp[f]at b;omega
      |false=>simp[f]at b;have:=c _ _ b;omega
    have:=this _ _ _ s;omega
   |succ j=>exact⟨e,_,rfl,n,o,c.2 j (by rw[s];congr 1;omega)⟩
def Jr (f:MapEntry->MapEntry) (a:∀e,(f e).born=e.born):∀(l:List MapEntry) (j:Nat),(l.modify j f).map (·.born)=l.map (·.born)
 | [],j=>by cases j<;>rfl
 |x::l,0=>by simp[a]
 |x::l,j+1=>by simp[Jr f a l j]
def dH (h:C2 za w0 st E w Z B) (aq:G8 cx.P cx.tys=true) {T:TypeId} {m x y:Operand} (f:OA cx st T m x y=some st'):
 ∃w',Gw.IX cx.P E ty (.mapUpdate T m x y) w w'/\Gw.IX cx.P E ty (.insert T m x y) w w'/\∃Z' B',C2 za w0 st' E w' Z' B':=by
 simp only[OA,qG,bind_some]at f;obtain⟨ti,ap,az,⟨aw,an,ae⟩,b5,N,b6,ao,f⟩:=f;obtain⟨Z1,r⟩:=h.settleO y;split at f
 . rename_i z g A D k aa;simp only[bind_some]at f;obtain⟨l,c,key,ag,Q,au,f⟩:=f;cases f;obtain⟨a6,J,_,_⟩:=Vn (B9 aq ap) aa;have ad:=r.c1 (E7 E) (bind_some.2 ⟨aw,an,ae⟩);have s:=Em (r.ev (E7 E) N).1 ag;have av:=Em (r.ev (E7 E) ao).1 au;have M:=HE J;have a1:live ((settleO st y).L k):=by
    simp only[mapM]at c;cases j:(settleO st y).L k<;>rw[j]at c<;>simp at c<;>trivial
   have a9:∃b d cl,B k= .map (some b)/\up za w0 k b/\¬Z1 b/\w.heap[b]? =some (.map d cl)/\MOk d cl/\Kh w Z1 z g A D d.toList l:=by
    simp only[mapM]at c;have:=r.locs k;cases j:(settleO st y).L k with
    |map b3 b4 b7 b8 ak=>
     rw[j]at c this;simp only at c;split at c
     . rename_i I;cases I;cases c;exact this
     cases c
    | _=>rw[j]at c;simp at c
   obtain⟨b,d,cl,F,ar,a3,G,t,H⟩:=a9;have a2:Gw.ev E m= .map (some b):=(show Gw.ev E m=B k from ad.1).trans F;have ai:b<w.heap.size:=(rV.1 G).1;have X:=λem=>Qy J s w em
   have Y:=Yx J s w H;have a0:(getObj b).run cx.P w= .ok (.map d cl) w:=by simp[getObj,Sem.run,G]
   have a5:∀o,(setObj b o).run cx.P w= .ok () {w with heap:=w.heap.setIfInBounds b o} :=λo=>by simp[setObj,Sem.run,G]
   have W:∀o,UB b w {w with heap:=w.heap.setIfInBounds b o} :=λo=>⟨rfl,rfl,⟨rfl,qU _⟩,by simp,λq j=>by simp[tH,Ne.symm j]⟩
   have aj:∀o,({w with heap:=w.heap.setIfInBounds b o} :World).heap[b]? =some o:=λo=>by simp[tH,ai]
   have fin:∀ents' cl',MOk ents' cl'->Kh w Z1 z g A D ents'.toList (Ej g key Q l)->∃Z' B',C2 za w0 ((settleO st y).setL k (.map z g A D (Ej g key Q l))) E {w with heap:=w.heap.setIfInBounds b (.map ents' cl')} Z' B':=λents' cl' hmo' he'=>by
    have ak:O1 Z1 w {w with heap:=w.heap.setIfInBounds b (.map ents' cl')} :=λR O=>(W _).2.2.2.2 R (λI=>a3 (I▸O))
    exact⟨Z1,B,r.chg a1 (B6.of a1 (by rw[F];rfl)) (W _) (lc:= .map z g A D (Ej g key Q l)) ⟨b,ents',cl',F,ar,a3,aj _,hmo',he'.mono (λ_=>id) ak⟩ trivial (λ_ I=> .inl I)⟩
   have a4:=lN (cl:=cl) (kv:=Gw.ev E x) (vv:=Gw.ev E y) s av (i:=0) H;rcases CO (k:=key) (i:=0) H with⟨n,_⟩ | ⟨v,a7,b9,n,U,b0,b1,V,a8⟩
   . have u:(Instr.mapUpdate T (Gw.ev E m) (Gw.ev E x) (Gw.ev E y)).run cx.P w= .ok () {w with heap:=w.heap.setIfInBounds b (.map (d.push {key:=Gw.ev E x,val:=Gw.ev E y,born:=cl}) (cl+1))} :=by
      unfold Instr.mapUpdate;simp only[Sem.run_bind,run_underlying a6,Result.andThen_ok,a2,a0,X,Y,n,g2b,a5]
     refine⟨_,λ_ _ _ _=>?_,λ_ _ _ _=>?_,fin _ (cl+1) ⟨λx a=>?_,?_⟩ (by rw[g1m];exact a4.1 n)⟩
     . simp[execOp,u]
     . simp[execOp,u]
     . rw[g1m,qS]at a;rcases a with a|a
       . have:=t.1 x a;omega
       simp at a;subst a;exact rR _
     rw[g1m,vP,sF];refine⟨t.2,by simp,λay ab b ac=>?_⟩;simp at ac;obtain⟨x,a,rfl⟩:=tX.1 ab;have:=t.1 x a;omega
   have ah:=(TE M).1 a8;rw[<-ah]at V;have N:=B1g M V s;have af:d[v]? =some a7:=by simpa using U
   have am:=B1f M s;have u:(Instr.mapUpdate T (Gw.ev E m) (Gw.ev E x) (Gw.ev E y)).run cx.P w= .ok () {w with heap:=w.heap.setIfInBounds b (.map (d.modify v λe=> {e with key:=Gw.ev E x,val:=Gw.ev E y}) cl)} :=by
    have I:P5 g key l 0=some v:=by rw[n,sC]
    unfold Instr.mapUpdate;simp only[Sem.run_bind,run_underlying a6,Result.andThen_ok,a2,a0,X,Y,I,wD,U,wJ,af,vS,N];simp[Instr.keyThatStays,am,a5]
   refine⟨_,λ_ _ _ _=>?_,λ_ _ _ _=>?_,fin _ cl ⟨λR a=>?_,?_⟩ (by rw[g0r];exact a4.2 v n)⟩
   . simp[execOp,u]
   . simp[execOp,u]
   . rw[g0r]at a;have:R.born∈(d.toList.modify v λe=> {e with key:=Gw.ev E x,val:=Gw.ev E y}).map (·.born):=vV a;rw[Jr (λe:MapEntry=> {e with key:=Gw.ev E x,val:=Gw.ev E y}) (λ_=>rfl)]at this;obtain⟨ax,O,b2⟩:=tX.1 this;have:=t.1 ax O;omega
   rw[g0r,Jr (λe:MapEntry=> {e with key:=Gw.ev E x,val:=Gw.ev E y}) (λ_=>rfl)];exact t.2
 cases f
def TN {c d:Bool} {a b:Ty} {q:Nat} {es:List (a.den×b.den)} (h:mapM st c a d b q=some es):st.L q= .map c a d b es:=by
 unfold mapM at h;split at h
 . rename_i g;split at h
   . rename_i f;cases f;cases h;exact g
   cases h
 cases h
def A5y (h:C2 za w0 st E w Z B) {T:TypeId} {m s y:Operand} (a:VQ st m s y=some st'):∃w',Gw.IX cx.P E ty (.entryStore T m s y) w w'/\∃Z' B',C2 za w0 st' E w' Z' B':=by unfold VQ at a;cases a
def A6k (h:C2 za w0 st E w Z B) (f:G8 cx.P cx.tys=true) {T:TypeId} {m x:Operand} (a:WO cx st d T m x=some st') (c:k st') (b:D6 all ⟨some d, .mapEntry T m x,ty,pos,aft,g⟩ E=true):J8 cx.P all ⟨some d, .mapEntry T m x,ty,pos,aft,g⟩ (bX za w0 w true k) E w:=by unfold WO at a;cases a
def VC (cx:Cx) (st:St) (T:TypeId) (x:Operand):Option St:=none
def A5m {ty:TypeId} {st':St} (h:C2 za w0 st E w Z B) (b:G8 cx.P cx.tys=true) {T:TypeId} {x:Operand} (a:VC cx st T x=some st'):∃v w',Gw.D9 cx.P E ty (.call ⟨.builtin .clear, #[x], #[T]⟩) w v w'/\C2 za w0 st' E w' Z B:=by unfold VC at a;cases a
end
end Go.Vc
