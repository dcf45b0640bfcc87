/- Part. -/
import Derived.Laws.CopyRow
import Derived.Test.YtomjbooonannkaaGreatKEA
set_option linter.all false
namespace Go.Vc
open Go Go.RowKit Go.Gw
section
variable {za:Zn} {w0 w:World} {Z:Nat->Prop} {B:Nat->Value} {st:St} {E:G3} {P:Program}
def gV (w:World) (Z:Nat->Prop) (B:Nat->Value):List (Nat×List C)->List (Nat×Value)->Prop
 | [],vs=>vs= []
 | (i,ps)::r,vs=>∃v vs',vs=(i,v)::vs'/\Cf w Z B ps v.cells.toList/\gV w Z B r vs'
theorem XL {place:Nat->Option (Nat×Nat)} :∀ {parts:List (Nat×List C)} {vals:List (Nat×Value)} {cs cs':List C} {vs:Array Value},gV w Z B parts vals->Cf w Z B cs vs.toList->Wr place cs parts=some cs'->∃vs',Instr.fill place vs vals=some vs'/\Cf w Z B cs' vs'.toList
 | [],_,cs,cs',vs,hp,h,hf=>by
  rw[show _= _ from hp];simp only[Wr,Option.some.injEq]at hf;subst hf;exact⟨vs,rfl,h⟩
 | (i,ps)::r,_,cs,cs',vs,⟨v,vals,e,h1,h2⟩,h,hf=>by
  subst e;simp only[Wr]at hf;cases hpl:place i with
  |none=>simp[hpl]at hf
  |some q=>
   obtain⟨off,sz⟩:=q;simp only[hpl]at hf;cases hb:Nat.beq ps.length sz&&Nat.ble (off+sz) cs.length with
   |false=>simp[hb]at hf
   |true=>
    simp only[hb,cond_true]at hf;simp only[Bool.and_eq_true]at hb;have hl1:ps.length=sz:=Nat.eq_of_beq_eq_true hb.1;have hl2:off+sz<=cs.length:=Nat.le_of_ble_eq_true hb.2;have hsz:v.cells.size=sz:=by rw[<-hl1,h1.len];simp
    have hcv:cs.length=vs.size:=by rw[h.len];simp
    have hfold:=Ud off v.cells.toList 0 vs (by simp;omega);simp only[Nat.add_zero]at hfold;generalize hc':(v.cells.toList.zipIdx 0).foldl (fun cs (x:Value×Nat)=>cs.setIfInBounds (off+x.2) x.1) vs=vs1 at hfold;have hr:Cf w Z B (cs.take off++ps++cs.drop (off+sz)) vs1.toList:=by
     rw[hfold];have hvl:v.cells.toList.length=sz:=by simpa using hsz
     rw[hvl];exact((h.take off).append h1).append (h.drop (off+sz))
    obtain⟨vs',h3,h4⟩:=XL h2 hr hf;refine⟨vs', ?_,h4⟩;unfold Instr.fill;simp only[hpl];rw[if_neg (by simp;omega)];rw[<-h3, <-hc', <-Array.foldl_toList];simp
theorem JE {place:Nat->Option (Nat×Nat)} {Q:C->Prop} :∀ {parts:List (Nat×List C)} {cs cs':List C},(∀x∈parts,∀c∈x.2,Q c)->(∀c∈cs,Q c)->Wr place cs parts=some cs'->∀c∈cs',Q c
 | [],cs,cs',_,h,hf=>by
  simp only[Wr,Option.some.injEq]at hf;subst hf;exact h
 | (i,ps)::r,cs,cs',hp,h,hf=>by
  simp only[Wr]at hf;cases hpl:place i with
  |none=>simp[hpl]at hf
  |some q=>
   simp only[hpl]at hf;cases hb:Nat.beq ps.length q.2&&Nat.ble (q.1+q.2) cs.length with
   |false=>simp[hb]at hf
   |true=>
    simp only[hb,cond_true]at hf;refine JE (fun x hx=>hp x (List.mem_cons_of_mem _ hx)) ?_ hf;intro c hc;simp only[List.mem_append]at hc;rcases hc with(hc|hc) |hc
    . exact h c (List.mem_of_mem_take hc)
    . exact hp (i,ps) (by simp) c hc
    . exact h c (List.mem_of_mem_drop hc)
def Kp (st:St) (ctx:Hq):List (Nat×Operand)->Option (List (Nat×List C))
 | []=>some []
 | (i,x)::r=>match st.ev ctx x with
  |some s=>bif s.cs.all Eu then(Kp st ctx r).map fun l=>(i,s.cs)::l else none
  |none=>none
theorem RS.cells (h:C0 za w0 st E w Z B) {s:SV} {v:Value} (hs:RS w Z B s v) (hd:s.cs.all Eu=true):Cf w Z B s.cs v.cells.toList:=by
 obtain⟨a,cs⟩:=s;cases a with
 |true=>obtain⟨vs,e,hs⟩:=hs;subst e;exact hs
 |false=>
  have hs:Cf w Z B cs [v]:=hs
  match cs,hs with
  | [c],hs'=>
   obtain⟨u,us,e,h1,h2⟩:=hs';cases e;have hone:=RC.one h (by simpa using hd) h1;have:v.cells= #[v]:=by cases v<;>simp[Value.cells,Value.oneCell']at hone⊢
   rw[this];exact⟨v,[],rfl,h1,h2⟩
  | [],hs'=>cases hs'
  |c::c'::r,hs'=>obtain⟨u,us,e,h1,⟨_,_,e2,_⟩⟩:=hs';cases e;cases e2
theorem Ls (h:C0 za w0 st E w Z B) {ctx:Hq} (hc:P6 E ctx):∀ {parts:List (Nat×Operand)} {l:List (Nat×List C)},Kp st ctx parts=some l->gV w Z B l (parts.map fun x=>(x.1,Gw.ev E x.2))/\∀x∈l,∀c∈x.2,Cd st.nx c
 | [],l,hl=>by cases hl;exact⟨rfl,by simp⟩
 | (i,x)::r,l,hl=>by
  simp only[Kp]at hl;cases hv:st.ev ctx x with
  |none=>simp[hv]at hl
  |some s=>
   simp only[hv]at hl;cases hd:s.cs.all Eu with
   |false=>simp only[hd,cond_false]at hl;cases hl
   |true=>
    simp only[hd,cond_true]at hl;cases hr:Kp st ctx r with
    |none=>simp[hr]at hl
    |some l'=>
     simp[hr]at hl;subst hl;obtain⟨h1,h2⟩:=h.ev hc hv;obtain⟨h3,h4⟩:=Ls h hc hr;refine⟨⟨Gw.ev E x,_,rfl,RS.cells h h1 hd,h3⟩,fun y hy=> ?_⟩;rcases List.mem_cons.1 hy with rfl|hy
     . exact h2
     . exact h4 y hy
def Ze (t:Ty):List C:=(Dw t).map Qg
theorem Db {T:TypeId} {t:Ty} (h:Qv P T t=true):∃z,Dc P T=some z/\z.cells.toList=Dw t:=by
 unfold Qv at h;split at h
 . rename_i z hz;split at h
   . rename_i hzc;exact⟨z,hz,by rw[ZH hzc];simp⟩
   . cases h
 . cases h
theorem mZ (h:C0 za w0 st E w Z B) {ctx:Hq} (hc:P6 E ctx) {T ty:TypeId} {t:Ty} {parts:List (Nat×Operand)} {l:List (Nat×List C)} {cs:List C} {pl:List (Nat×Nat)} (hz:Qv P T t=true) (hp:Zv P T=some pl)
 (hl:Kp st ctx parts=some l) (hf:Wr (fun i=>pl[i]?) (Ze t) l=some cs):Vz P st E w Z B ty (.build T parts.toArray) (.one ⟨true,cs⟩):=by
 obtain⟨z,hz1,hz2⟩:=Db hz;obtain⟨h1,h2⟩:=Ls h hc hl;have h3:=Ci (w:=w) (Z:=Z) (B:=B) (n:=st.nx) (Dw t);obtain⟨vs',h4,h5⟩:=XL (vs:=z.cells) h1 (by rw[hz2];exact h3.1) hf;exact⟨.agg vs',fun w' _=>A3g vs' hz1 hp h4,fun _=>⟨vs'.toList,by simp,h5⟩,JE h2 h3.2 hf⟩
theorem WX (h:C0 za w0 st E w Z B) {ctx:Hq} (hc:P6 E ctx) {T ty e:TypeId} {t:Ty} {len sz:Nat} {parts:List (Nat×Operand)} {l:List (Nat×List C)} {cs:List C} (hz:Qv P T t=true) (hT:P.underlying T=some (.array len e)) (hs:Na P e sz=true)
 (hl:Kp st ctx parts=some l) (hf:Wr (fun i=>some (i*sz,sz)) (Ze t) l=some cs):Vz P st E w Z B ty (.build T parts.toArray) (.one ⟨true,cs⟩):=by
 obtain⟨z,hz1,hz2⟩:=Db hz;obtain⟨h1,h2⟩:=Ls h hc hl;have h3:=Ci (w:=w) (Z:=Z) (B:=B) (n:=st.nx) (Dw t);obtain⟨vs',h4,h5⟩:=XL (vs:=z.cells) h1 (by rw[hz2];exact h3.1) hf;exact⟨.agg vs',fun w' _=>dN vs' hz1 hT hs h4,fun _=>⟨vs'.toList,by simp,h5⟩,JE h2 h3.2 hf⟩
def kF:List SV->Option (List Nat)
 | []=>some []
 | ⟨false,[.box k 0]⟩::r=>(kF r).map (k:: ·)
 | _=>none
def evL (st:St) (ctx:Hq):List Operand->Option (List SV)
 | []=>some []
 |x::r=>match st.ev ctx x with
  |some s=>(evL st ctx r).map (s:: ·)
  |none=>none
theorem PC (h:C0 za w0 st E w Z B) {ctx:Hq} (hc:P6 E ctx):∀ {xs:List Operand} {ss:List SV},evL st ctx xs=some ss->Oj w Z B ss (xs.map (Gw.ev E))/\∀s∈ss,Mm st.nx s
 | [],ss,hs=>by cases hs;exact⟨rfl,by simp⟩
 |x::r,ss,hs=>by
  simp only[evL]at hs;cases hv:st.ev ctx x with
  |none=>simp[hv]at hs
  |some s=>
   simp only[hv]at hs;cases hr:evL st ctx r with
   |none=>simp[hr]at hs
   |some l=>
    simp[hr]at hs;subst hs;obtain⟨h1,h2⟩:=h.ev hc hv;obtain⟨h3,h4⟩:=PC h hc hr;refine⟨⟨_,_,rfl,h1,h3⟩,fun y hy=> ?_⟩;rcases List.mem_cons.1 hy with rfl|hy
    . exact h2
    . exact h4 y hy
theorem hO {n:Nat} :∀ {ss:List SV} {ks:List Nat} {vs:List Value},Oj w Z B ss vs->(∀s∈ss,Mm n s)->kF ss=some ks->vs=ks.map B/\∀k∈ks,k<n
 | [],ks,vs,h,_,hk=>by cases hk;exact⟨h,by simp⟩
 |s::r,ks,vs,⟨v,vs',e,h1,h2⟩,hr,hk=>by
  unfold kF at hk;split at hk
  . rename_i heq;cases heq
  . rename_i k r' heq;cases heq;cases hr':kF r with
    |none=>simp[hr']at hk
    |some l=>
     simp[hr']at hk;subst hk;obtain⟨h3,h4⟩:=hO h2 (fun s hs=>hr s (List.mem_cons_of_mem _ hs)) hr';obtain⟨_,_,e1,⟨b,hb,hv⟩,_⟩:=h1;cases e1;have hkn:=hr ⟨false,[.box k 0]⟩ (by simp) (.box k 0) (by simp);refine⟨by rw[e,h3,hv, <-hb];rfl,fun q hq=> ?_⟩;rcases List.mem_cons.1 hq with rfl|hq
     . exact hkn
     . exact h4 q hq
  . cases hk
theorem A5l (h:C0 za w0 st E w Z B) {ctx:Hq} (hc:P6 E ctx) {ty:TypeId} {f:FuncId} {caps:List Operand} {ss:List SV} {ks:List Nat} (h1:evL st ctx caps=some ss) (h2:kF ss=some ks):
 Vz P st E w Z B ty (.makeFunc (.func f) #[] caps.toArray) (.one ⟨false,[.fn f ks]⟩):=by
 obtain⟨h3,h4⟩:=PC h hc h1;obtain⟨h5,h6⟩:=hO h3 h4 h2;exact Ew (fun w' _=>A8g h5) rfl h6
def pU (e:Bool):C->C->Option C
 | .val t x, .val t' y=>if h:t'=t then some (.val t (sel e x (h▸y)))else none
 | _,_=>none
theorem pV {e:Bool} {c1 c2 c:C} {v1 v2:Value} (h:pU e c1 c2=some c) (h1:e=true->RC w Z B c1 v1) (h2:e=false->RC w Z B c2 v2):RC w Z B c (bif e then v1 else v2)/\∀n,Cd n c:=by
 unfold pU at h;split at h
 . split at h
   . rename_i t x t' y heq;subst heq;cases h;refine⟨?_,fun _=>trivial⟩;cases e with
     |true=>exact h1 rfl
     |false=>exact h2 rfl
   . cases h
 . cases h
end
def Mb:Ty->Bool
 | .ptr _=>false
 | .pair a b=>Mb a&&Mb b
 | _=>true
theorem Zg {w:World} {Z:Nat->Prop} :∀ {t:Ty},Mb t=true->C6 t w Z (Dw t) t.dflt
 | .int k,_=>⟨rfl,bG k⟩
 | .bool,_=>rfl
 | .str,_=>rfl
 | .unit,_=>rfl
 | .pair a b,h=>by
  simp only[Mb,Bool.and_eq_true]at h;exact⟨_,_,rfl,Zg h.1,Zg h.2⟩
 | .sl _,_=>⟨none,0,rfl,Nat.le_refl _,Nat.zero_le _,fun _=>rfl, .inl rfl⟩
 | .ptr _,h=>by cases h
 | .mp _ _ _ _,_=> .inl ⟨rfl,rfl⟩
def A2e (st:St) (ka:Bool) (kt:Ty) (va:Bool) (vt:Ty):C->Option (List (kt.den×vt.den))
 | .mp k=>match st.L k with
  | .map ka' kt' va' vt' es=>if h:Ty.mp ka' kt' va' vt'=Ty.mp ka kt va vt then some (h▸(show(Ty.mp ka' kt' va' vt').den from es):(Ty.mp ka kt va vt).den)else none
  | .mapE ka' kt' va' vt' es _ _=>if h:Ty.mp ka' kt' va' vt'=Ty.mp ka kt va vt then some (h▸(show(Ty.mp ka' kt' va' vt').den from es):(Ty.mp ka kt va vt).den)else none
  | _=>none
 | .val t es=>if h:t=Ty.mp ka kt va vt then some (h▸es:(Ty.mp ka kt va vt).den)else none
 | .raw (.map none)=>some []
 | _=>none
def A2f (st:St) (ctx:Hq) (x:Operand):Option (Option Prop×DV):=
 match st.ev ctx x with
 |some s=>some (none, .one s)
 |none=>match x with
  | .tmp t=>match st.S t with
   | .tup vs=>some (none, .tup vs)
   | _=>none
  | _=>none
def A5u (st:St) (b:Bool):Operand->Hq
 | .tmp t=>gctx st 20 t b
 | _=> []
def one1 (c:C):DV:= .one ⟨false,[c]⟩
def fV (st:St) (ctx:Hq) (c a b:Operand):Option (Option Prop×DV):=do
 let e<-(st.ev ctx c).bind FN
 let ca<-(st.ev (A5u st true c++ctx) a).bind c1
 let cb<-(st.ev (A5u st false c++ctx) b).bind c1
 (pU e ca cb).map fun c=>(none,one1 c)
def A0r (st:St) (ctx:Hq) (op:UnOp) (x:Operand):Option (Option Prop×DV):=do
 let c<-(st.ev ctx x).bind c1
 (unC op c).map fun c=>(none,one1 c)
def XU:C->Bool
 | .val .bool _=>true
 | _=>false
def eE (cx:Cx) (st:St) (ctx:Hq) (op:BinOp) (T:TypeId) (x y:Operand):Option (Option Prop×DV):=do
 let sx<-st.ev ctx x
 let sy<-st.ev ctx y
 match c1 sx,c1 sy with
 |some a,some b=>bif XU a&& !(isB cx.P T)then none else(A4g op a b).map fun r=>(r.1,one1 r.2)
 | _,_=>do
  let ti<-cx.ti T
  let a<-Gq true ti.ty sx
  let b<-Gq true ti.ty sy
  bif ti.eq&&ti.agg then(match op with
   | .eql=>some (none,one1 (.val .bool (Wa ti.ty a b)))
   | .neq=>some (none,one1 (.val .bool (!(Wa ti.ty a b))))
   | _=>none)else none
def JC (st:St) (x:Operand) (i:Nat):Option (Option Prop×DV):=
 match x with
 | .tmp t=>match st.S t with
  | .tup vs=>(vs[i]?).map fun s=>(none, .one s)
  | _=>none
 | _=>none
def Wo (cx:Cx) (st:St) (ctx:Hq) (T:TypeId) (x:Operand) (f:Nat):Option (Option Prop×DV):=do
 let ti<-cx.ti T
 let q<-ti.fields[f]?
 let c<-(st.ev ctx x).bind c1
 (faC q.1 c).map fun c=>(none,one1 c)
def XK (cx:Cx) (st:St) (ctx:Hq) (T:TypeId) (x:Operand) (f:Nat):Option (Option Prop×DV):=do
 let ti<-cx.ti T
 let q<-ti.fields[f]?
 let s<-st.ev ctx x
 bif s.agg then(cut q.1 q.2.1 s.cs).map fun cs=>(none, .one ⟨q.2.2,cs⟩)else none
def PT (cx:Cx) (st:St) (ctx:Hq) (T:TypeId) (x:Operand):Option (Option Prop×DV):=do
 let ti<-cx.ti T
 let c<-(st.ev ctx x).bind c1
 (iO st ti.ty.size c).map fun cs=>(none, .one ⟨ti.agg,cs⟩)
def A7g (cx:Cx) (st:St) (ctx:Hq) (ti:TI) (x ix:Operand):Option (Option Prop×DV):=do
 let te<-cx.ti ti.elem
 let c<-(st.ev ctx x).bind c1
 let i<-(st.ev ctx ix).bind JH
 (faC (i.toNat*te.ty.size) c).map fun c'=>(some (0<=i/\i<(ti.arr:Int)),one1 c')
def mX (u:Ty):Nat->Ty
 |0=> .unit
 |1=>u
 |n+2=> .pair u (mX u (n+1))
def selA (u:Ty):(n:Nat)->(mX u n).den->Int->u.den
 |0,_,_=>u.dflt
 |1,x,_=>x
 |n+2,x,i=>sel (decide (i=0)) x.1 (selA u (n+1) x.2 (i-1))
def A7i (cx:Cx) (st:St) (ctx:Hq) (ti:TI) (x ix:Operand):Option (Option Prop×DV):=do
 let te<-cx.ti ti.elem
 let c<-(st.ev ctx x).bind c1
 let i<-(st.ev ctx ix).bind JH
 match c with
 | .pf t y 0=>if h:t=mX te.ty ti.arr then some (some (0<=i/\i<(ti.arr:Int)),one1 (.pf te.ty (selA te.ty ti.arr (h▸y) i) 0))else none
 | _=>none
def iJ:Operand->Bool
 | .const _=>true
 | _=>false
def A7h (cx:Cx) (st:St) (ctx:Hq) (T:TypeId) (x:Operand):Option (Option Prop×DV):=do
 let ti<-cx.ti T
 let c<-(st.ev ctx x).bind c1
 match ti.ty,c with
 | .sl t, .raw (.slice none 0 0)=>some (some False,one1 (.pf t t.dflt 0))
 | _,_=>none
def A4y (cx:Cx) (st:St) (ctx:Hq) (T:TypeId) (x ix:Operand):Option (Option Prop×DV):=do
 let ti<-cx.ti T
 let c<-(st.ev ctx x).bind c1
 let i<-(st.ev ctx ix).bind JH
 let r<-A4x st i c
 match ti.ty,r.2 with
 | .sl t, .pf t' _ _=>bif decide (t=t')then some (r.1,one1 r.2)else none
 | .sl t, .elp _ sz _ _=>bif Nat.beq t.size sz then some (r.1,one1 r.2)else none
 | _,_=>none
def oB (cx:Cx) (st:St) (ctx:Hq) (T:TypeId) (x ix:Operand):Option (Option Prop×DV):=
 match cx.ti T with
 |some ti=>bif Nat.beq ti.arr 0 then(match A7h cx st ctx T x with
  |some r=>some r
  |none=>A4y cx st ctx T x ix)else(bif iJ ix then A7g cx st ctx ti x ix else A7i cx st ctx ti x ix)
 |none=>none
def A7r:C->Bool
 | .box _ _=>true
 | .elp _ _ _ _=>true
 | .pf _ _ _=>true
 | .fn _ _=>true
 | .fv _ _ _ _ _ _=>true
 | _=>false
def pG (st:St) (ctx:Hq) (x:Operand):Option (Option Prop×DV):=do
 let c<-(st.ev ctx x).bind c1
 bif A7r c then some (none,one1 c)else none
def A2j (st:St) (ctx:Hq):Option Operand->Option (Option Int)
 |none=>some none
 |some o=>((st.ev ctx o).bind JH).map some
def RB (st:St) (ctx:Hq) (x lo hi:Operand):Option (Option Prop×DV):=do
 let c<-(st.ev ctx x).bind c1
 let l<-(st.ev ctx lo).bind JH
 let h<-(st.ev ctx hi).bind JH
 match c with
 | .val .str s=>some (some (0<=l/\l<=h/\h<=(s.data.toList.length:Int)),one1 (.val .str (s.extract l.toNat h.toNat)))
 | _=>none
def oK (cx:Cx) (T:TypeId):Bool:=match cx.ti T with
 |some ti=>(match ti.ty with| .str=>true| _=>false)
 |none=>false
def ZA (cx:Cx) (st:St) (ctx:Hq) (T:TypeId) (x:Operand) (lo hi:Option Operand):Option (Option Prop×DV):=
 bif oK cx T then(match lo,hi with|some l,some h=>RB st ctx x l h| _,_=>none)else do
 let ti<-cx.ti T
 let c<-(st.ev ctx x).bind c1
 let l<-A2j st ctx lo
 let h<-A2j st ctx hi
 let r<-gC st l h c
 match ti.ty,r.2 with
 | .sl t, .val (.sl t') _=>bif decide (t=t')then some (r.1,one1 r.2)else none
 | .sl t, .win _ sz _ _=>bif Nat.beq t.size sz then some (r.1,one1 r.2)else none
 | _,_=>none
def eM (cx:Cx) (st:St) (ctx:Hq) (T T':TypeId) (x:Operand):Option (Option Prop×DV):=do
 let ti<-cx.ti T
 let ti'<-cx.ti T'
 let c<-(st.ev ctx x).bind c1
 match ti.ty,ti'.ty,c with
 | .int _, .int k', .val (.int _) a=>some (none,one1 (.val (.int k') (k'.wrap a)))
 | _,_,_=>none
def WW (cx:Cx) (st:St) (ctx:Hq) (T:TypeId) (parts:List (Nat×Operand)):Option (Option Prop×DV):=do
 let ti<-cx.ti T
 let l<-Kp st ctx parts
 bif ti.fields.isEmpty then(do
  let te<-cx.ti ti.elem
  bif Nat.beq ti.arr 0 then none else(Wr (fun i=>some (i*te.ty.size,te.ty.size)) (Ze ti.ty) l).map fun cs=>(none, .one ⟨true,cs⟩))
 else(Wr (fun i=>(ti.fields.map fun x=>(x.1,x.2.1))[i]?) (Ze ti.ty) l).map fun cs=>(none, .one ⟨true,cs⟩)
def ZD (t:Ty):List C->Option (List t.den)
 | []=>some []
 |c::r=>(MD t c).bind fun x=>(ZD t r).map (x:: ·)
def M9 (s:ByteArray) (i:Int):Int:=((s.data.toList.getD i.toNat 0).toNat:Int)
def PI (st:St) (ctx:Hq) (x ix:Operand):Option (Option Prop×DV):=do
 let c<-(st.ev ctx x).bind c1
 let i<-(st.ev ctx ix).bind JH
 match c with
 | .val .str s=>some (some (0<=i/\i<(s.data.toList.length:Int)),one1 (.val (.int .u8) (M9 s i)))
 | _=>none
def PH (cx:Cx) (st:St) (ctx:Hq) (T:TypeId) (x ix:Operand):Option (Option Prop×DV):=do
 let ti<-cx.ti T
 let te<-cx.ti ti.elem
 let s<-st.ev ctx x
 let i<-(st.ev ctx ix).bind JH
 let vs<-ZD te.ty s.cs
 bif s.agg&& !te.agg&& !(Nat.beq ti.arr 0)&&Nat.beq te.ty.size 1&&Nat.beq vs.length ti.arr then
  (match te.ty,vs with
   | .int k,vs=>some (some (0<=i/\i<(vs.length:Int)),one1 (.val (.int k) (gx 0 vs i)))
   | .bool,vs=>some (some (0<=i/\i<(vs.length:Int)),one1 (.val .bool (gx false vs i)))
   | _,_=>none)else none
def XR (cx:Cx) (st:St) (ctx:Hq) (T:TypeId) (x ix:Operand):Option (Option Prop×DV):=
 match((cx.ti T).map fun t:TI=>t.ty:Option Ty)with
 |some .str=>PI st ctx x ix
 | _=>PH cx st ctx T x ix
def A7l:C->Bool
 | .mp _=>true
 | _=>false
def A5a:Ty->Bool
 | .sl _=>true
 | _=>false
def PU (cx:Cx) (st:St) (ctx:Hq) (T:TypeId) (x ix:Operand) (ck:Bool):Option (Option Prop×DV):=do
 let ti<-cx.ti T
 let c<-(st.ev ctx x).bind c1
 let sk<-st.ev ctx ix
 match ti.ty with
 | .mp ka kt va vt=>do
  let es<-A2e st ka kt va vt c
  let k<-Gq ka kt sk
  bif ti.rows&&A7l c&&A5a vt&& !ck&& !va then some (some (V9 kt k es=none),one1 (.raw (.slice none 0 0)))else
  bif Mb vt then some (none,bif ck then .tup [⟨va,explode vt ((V9 kt k es).getD vt.dflt)⟩,⟨false,[.val .bool (V9 kt k es).isSome]⟩]else .one ⟨va,explode vt ((V9 kt k es).getD vt.dflt)⟩)else none
 | _=>none
def pA (st:St) (ctx:Hq) (fn:Fn) (first caps:List Operand):Option (Option Prop×DV):=
 match fn,first with
 | .func f,[]=>do
  let ss<-evL st ctx caps
  let ks<-kF ss
  some (none,one1 (.fn f ks))
 | _,_=>none
def IX (cx:Cx) (st:St) (ctx:Hq) (b:Builtin) (args:List Operand) (ts:List TypeId):Option (Option Prop×DV):=
 match b,args,ts with
 | .len,[x],[T]=>do
  let ti<-cx.ti T
  let c<-(st.ev ctx x).bind c1
  let n<-A1z st c
  match ti.ty,c with
  | _, .mp _=>none
  | .str, .val .str _=>some (some (n<=9223372036854775807),one1 (.val (.int .i64) n))
  | _, .val .str _=>none
  | .sl _,_=>some (none,one1 (.val (.int .i64) n))
  | _,_=>none
 | .max,[x,y],_=>do
  match<-(st.ev ctx x).bind c1, <-(st.ev ctx y).bind c1 with
  | .val (.int k) a, .val (.int k') b=>bif decide (k=k')then some (none,one1 (.val (.int k) (max a b)))else none
  | _,_=>none
 | .min,[x,y],_=>do
  match<-(st.ev ctx x).bind c1, <-(st.ev ctx y).bind c1 with
  | .val (.int k) a, .val (.int k') b=>bif decide (k=k')then some (none,one1 (.val (.int k) (min a b)))else none
  | _,_=>none
 | .max,[x,y,z],_=>do
  match<-(st.ev ctx x).bind c1, <-(st.ev ctx y).bind c1, <-(st.ev ctx z).bind c1 with
  | .val (.int k) a, .val (.int k') b, .val (.int k'') c=>bif decide (k=k')&&decide (k=k'')then some (none,one1 (.val (.int k) (max (max a b) c)))else none
  | _,_,_=>none
 | _,_,_=>none
def Tx (cx:Cx) (st:St) (ctx:Hq):Op->Option (Option Prop×DV)
 | .move x=>A2f st ctx x
 | .assign x=>A2f st ctx x
 | .pick c a b=>fV st ctx c a b
 | .unOp op _ x=>A0r st ctx op x
 | .binOp op T x y _=>eE cx st ctx op T x y
 | .extract x i=>JC st x i
 | .fieldAddr T x f=>Wo cx st ctx T x f
 | .field T x f=>XK cx st ctx T x f
 | .load T x=>PT cx st ctx T x
 | .indexAddr T x i=>oB cx st ctx T x i
 | .index T x i=>XR cx st ctx T x i
 | .lookup T x i ck=>PU cx st ctx T x i ck
 | .slice T x lo hi none=>ZA cx st ctx T x lo hi
 | .convert T T' x=>eM cx st ctx T T' x
 | .build T parts=>WW cx st ctx T parts.toList
 | .nilCheck x=>pG st ctx x
 | .makeFunc fn first caps=>pA st ctx fn first.toList caps.toList
 | .call ⟨.builtin b,args,ts⟩=>IX cx st ctx b args.toList ts.toList
 | _=>none
section
variable {za:Zn} {w0 w:World} {Z:Nat->Prop} {B:Nat->Value} {st:St} {E:G3} {cx:Cx}
theorem bind_some {α β:Type} {x:Option α} {f:α->Option β} {b:β} :x.bind f=some b↔∃a,x=some a/\f a=some b:=Option.bind_eq_some_iff
theorem C0.tup (h:C0 za w0 st E w Z B) {t:Tmp} {vs:List SV} (hd:st.S t= .tup vs):∃us:List Value,E t= .tuple us.toArray/\Oj w Z B vs us/\∀s∈vs,Mm st.nx s:=by
 have hs:=h.slots t;have hr:=h.refs t;rw[hd]at hs hr;obtain⟨us,e,h1⟩:=hs;exact⟨us,e,h1,hr⟩
theorem Oj.get:∀ {ss:List SV} {vs:List Value} {i:Nat} {s:SV},Oj w Z B ss vs->ss[i]? =some s->∃v,vs[i]? =some v/\RS w Z B s v
 | [],_,_,_,_,hi=>by simp at hi
 |s'::ss,_,i,s,⟨v,vs',e,h1,h2⟩,hi=>by
  cases i with
  |zero=>simp at hi;subst hi;exact⟨v,by rw[e];rfl,h1⟩
  |succ i=>simp at hi;obtain⟨u,h3,h4⟩:=Oj.get h2 hi;exact⟨u,by rw[e];simpa using h3,h4⟩
theorem K9 {P:Program} {T:TypeId} {ti:TI} (h:Ui P T ti=true):Na P T ti.ty.size=true/\(ti.agg=true/\SZ P T ti.ty.size=true\/ti.agg=false/\S7 P T=true/\ti.ty.size=1)/\Qv P T ti.ty=true:=by
 simp only[Ui,Bool.and_eq_true]at h;obtain⟨⟨⟨⟨⟨⟨h1,h2⟩,h3⟩,_⟩,_⟩,_⟩,_⟩:=h;refine⟨h1, ?_,h3⟩;cases ha:ti.agg with
 |true=>rw[ha]at h2;exact .inl ⟨rfl,h2⟩
 |false=>simp only[ha,cond_false,Bool.and_eq_true]at h2;exact .inr ⟨rfl,h2.1,Nat.eq_of_beq_eq_true h2.2⟩
theorem AB {P:Program} {T:TypeId} {ti:TI} {t:Ty} (h:Ui P T ti=true) (ht:ti.ty= .sl t):Aq P T ti.elem t.size=true/\Qv P ti.elem t=true/\∃i,P.info? ti.elem=some i/\i.bytes=ti.bytes:=by
 simp only[Ui,Bool.and_eq_true]at h;obtain⟨⟨⟨⟨_,h4⟩,_⟩,_⟩,_⟩:=h;rw[ht]at h4;simp only[Bool.and_eq_true]at h4;refine⟨h4.1.1,h4.1.2, ?_⟩;cases hi:P.info? ti.elem with
 |none=>simp[hi]at h4
 |some i=>simp only[hi]at h4;exact⟨i,rfl,Nat.eq_of_beq_eq_true h4.2⟩
theorem dJ {P:Program} {T:TypeId} {ti:TI} {k:IntKind} (h:Ui P T ti=true) (ht:ti.ty= .int k):A1x P T k=true:=by
 simp only[Ui,Bool.and_eq_true]at h;obtain⟨⟨⟨⟨_,h4⟩,_⟩,_⟩,_⟩:=h;rw[ht]at h4;exact h4
theorem Ya {P:Program} {T:TypeId} {ti:TI} (h:Ui P T ti=true) (he:ti.fields.isEmpty=false):Wq P T 0 ti.fields=true/\Zv P T=some (ti.fields.map fun x=>(x.1,x.2.1)):=by
 simp only[Ui,Bool.and_eq_true]at h;obtain⟨⟨⟨_,h5⟩,_⟩,_⟩:=h;simp only[he,cond_false,Bool.and_eq_true]at h5;refine⟨h5.1, ?_⟩;cases hp:Zv P T with
 |none=>simp[hp]at h5
 |some pl=>simp only[hp,decide_eq_true_eq]at h5;rw[h5.2]
theorem HM {P:Program} {T:TypeId} {ti:TI} (h:Ui P T ti=true) (he:Nat.beq ti.arr 0=false):P.underlying T=some (.array ti.arr ti.elem):=by
 simp only[Ui,Bool.and_eq_true]at h;obtain⟨⟨_,h6⟩,_⟩:=h;simp only[he,cond_false]at h6;split at h6
 . rename_i n e hu;simp only[Bool.and_eq_true]at h6;rw[hu,Nat.eq_of_beq_eq_true h6.1,Nat.eq_of_beq_eq_true h6.2]
 . cases h6
theorem Pk {P:Program} {T:TypeId} {ti:TI} {ka va:Bool} {kt vt:Ty} (h:Ui P T ti=true) (ht:ti.ty= .mp ka kt va vt):P.underlying T=some (.map ti.key ti.elem)/\AS P ti.key ka kt=true/\Qv P ti.elem vt=true/\Zf P ti.elem va=true:=by
 simp only[Ui,Bool.and_eq_true]at h;obtain⟨⟨⟨⟨_,h4⟩,_⟩,_⟩,_⟩:=h;rw[ht]at h4;simp only[Bool.and_eq_true]at h4;obtain⟨⟨⟨h1,h2⟩,h3⟩,h5⟩:=h4;refine⟨?_,h2,h3,h5⟩;split at h1
 . rename_i k e hu;simp only[Bool.and_eq_true]at h1;rw[hu,Nat.eq_of_beq_eq_true h1.1,Nat.eq_of_beq_eq_true h1.2]
 . cases h1
theorem A3c {P:Program} {T:TypeId} {ti:TI} (h:Ui P T ti=true) (he:ti.eq=true):AS P T ti.agg ti.ty=true:=by
 simp only[Ui,Bool.and_eq_true]at h;have:=h.2;rw[he]at this;exact this
theorem Ti {P:Program} {T:TypeId} :∀ {l:List (Nat×Nat×Bool)} {f0 f:Nat} {q:Nat×Nat×Bool},Wq P T f0 l=true->l[f]? =some q->JD P T (f0+f) q.1=true/\eP P T (f0+f) q.2.1 q.2.2=true
 | [],_,_,_,_,hi=>by simp at hi
 | (off,sz,agg)::l,f0,f,q,h,hi=>by
  simp only[Wq,Bool.and_eq_true]at h;cases f with
  |zero=>simp at hi;subst hi;exact h.1
  |succ f=>
   simp at hi;have:=Ti h.2 hi;rw[show f0+1+f=f0+(f+1)from by omega]at this;exact this
theorem Hz {α:Type} {l:List α} {i:Nat} {a:α} (h:l[i]? =some a):l.isEmpty=false:=by
 cases l with
 |nil=>simp at h
 |cons _ _=>rfl
end
section
variable {za:Zn} {w0 w:World} {Z:Nat->Prop} {B:Nat->Value} {st:St} {E:G3} {cx:Cx} {ctx:Hq} {ty:TypeId} {φ:Option Prop} {d:DV}
theorem iR (h:C0 za w0 st E w Z B) (hc:P6 E ctx) {x:Operand} (ho:A2f st ctx x=some (φ,d)):Vz cx.P st E w Z B ty (.move x) d/\Vz cx.P st E w Z B ty (.assign x) d:=by
 unfold A2f at ho;cases hv:st.ev ctx x with
 |some s=>
  rw[hv]at ho;cases ho;obtain⟨h1,h2⟩:=h.ev hc hv;exact⟨⟨_,fun w' _=>SQ,fun _=>h1,h2⟩,⟨_,fun w' _=>SO,fun _=>h1,h2⟩⟩
 |none=>
  rw[hv]at ho;cases x with
  |tmp t=>
   simp only at ho;cases hd:st.S t with
   |tup vs=>
    rw[hd]at ho;cases ho;obtain⟨us,e,h1,h2⟩:=h.tup hd;exact⟨⟨_,fun w' _=>SQ,fun _=>⟨us,e,h1⟩,h2⟩,⟨_,fun w' _=>SO,fun _=>⟨us,e,h1⟩,h2⟩⟩
   |one _=>rw[hd]at ho;cases ho
   |cnd _ _ _=>rw[hd]at ho;cases ho
   |dead=>rw[hd]at ho;cases ho
  |const _=>cases ho
  |global _=>cases ho
  |func _=>cases ho
theorem C0.c1 (h:C0 za w0 st E w Z B) (hc:P6 E ctx) {x:Operand} {c:C} (hx:(st.ev ctx x).bind Vc.c1=some c):RC w Z B c (Gw.ev E x)/\Cd st.nx c:=by
 obtain⟨s,hs,h1⟩:=bind_some.1 hx;obtain⟨h2,h3⟩:=h.ev hc hs;exact aF h2 h3 h1
theorem C0.int (h:C0 za w0 st E w Z B) (hc:P6 E ctx) {x:Operand} {n:Int} (hx:(st.ev ctx x).bind JH=some n):∃k,Gw.ev E x= .int k n/\FX k n:=by
 obtain⟨s,hs,h1⟩:=bind_some.1 hx;exact iH (h.ev hc hs).1 h1
theorem lL (h:C0 za w0 st E w Z B) (hc:P6 E ctx) {c a b:Operand} (ho:fV st ctx c a b=some (φ,d)):Vz cx.P st E w Z B ty (.pick c a b) d:=by
 simp only[fV,Option.bind_eq_bind,bind_some,Option.map_eq_some_iff]at ho;obtain⟨e,⟨s,hs,he⟩,ca,⟨sa,hsa,hca⟩,cb,⟨sb,hsb,hcb⟩,r,hr,heq⟩:=ho;cases heq;have hcv:Gw.ev E c= .bool e:=Lq (h.ev hc hs).1 he;have cx1:∀q,e=q->P6 E (A5u st q c++ctx):=fun q hq t b hm=>by
  rcases List.mem_append.1 hm with hm|hm
  . cases c with
    |tmp tc=>exact h.gctx (by rw[<-hq];exact hcv) t b hm
    |const _=>cases hm
    |global _=>cases hm
    |func _=>cases hm
  . exact hc t b hm
 have h3:=pV (w:=w) (Z:=Z) (B:=B) (v1:=Gw.ev E a) (v2:=Gw.ev E b) hr (fun q=>(aF (h.ev (cx1 true q) hsa).1 (h.ev (cx1 true q) hsa).2 hca).1) (fun q=>(aF (h.ev (cx1 false q) hsb).1 (h.ev (cx1 false q) hsb).2 hcb).1);exact Ew (fun w' _=>A6i hcv) h3.1 (h3.2 _)
theorem A0s (h:C0 za w0 st E w Z B) (hc:P6 E ctx) {op:UnOp} {T:TypeId} {x:Operand} (ho:A0r st ctx op x=some (φ,d)):Vz cx.P st E w Z B ty (.unOp op T x) d:=by
 simp only[A0r,Option.bind_eq_bind,bind_some,Option.map_eq_some_iff]at ho;obtain⟨c,⟨s,hs,hcs⟩,r,hr,heq⟩:=ho;cases heq;exact A8a (h.c1 hc (bind_some.2 ⟨s,hs,hcs⟩)).1 hr
theorem A8e {P:Program} {T T' ty:TypeId} {x y:Operand} {a:Ty} {u v:a.den} (hT:AS P T true a=true) (hx:X3 true a w Z (Gw.ev E x) u) (hy:X3 true a w Z (Gw.ev E y) v) (w':World):Gw.C8 P E ty (.binOp .eql T x y T') w' (.bool (Wa a u v)) w'/\Gw.C8 P E ty (.binOp .neq T x y T') w' (.bool (!(Wa a u v))) w':=by
 have hr:=UM hT hx hy w';have hgt:P.eqGuardType P.depth T=false:=by simp only[AS,Bool.and_eq_true,Bool.not_eq_true']at hT;exact hT.1.2
 obtain⟨cs,ex,_⟩:=hx;obtain⟨cs',ey,_⟩:=hy;rw[ex,ey]at hr;refine⟨fun _ _ _ _=> ?_,fun _ _ _ _=> ?_⟩
 . have hg:(eqGuard .eql T x y (.agg cs.toArray) (.agg cs'.toArray)).run P w'= .ok () w':=run_eqGuard_agg w' _ _ _ _ _ _ hgt;simp only[execOp,ex,ey];simp[hg,run_eql_struct,hr,Result.andThen]
 . have hg:(eqGuard .neq T x y (.agg cs.toArray) (.agg cs'.toArray)).run P w'= .ok () w':=run_eqGuard_agg w' _ _ _ _ _ _ hgt;simp only[execOp,ex,ey];simp[hg,run_neq_struct,hr,Result.andThen]
theorem kA (h:C0 za w0 st E w Z B) (hty:G9 cx.P cx.tys=true) (hc:P6 E ctx) {op:BinOp} {T T':TypeId} {x y:Operand} (ho:eE cx st ctx op T x y=some (φ,d)) (hφ:CC φ):Vz cx.P st E w Z B ty (.binOp op T x y T') d:=by
 simp only[eE,Option.bind_eq_bind,bind_some]at ho;obtain⟨sx,hsx,sy,hsy,ho⟩:=ho;obtain⟨hx,rx⟩:=h.ev hc hsx;obtain⟨hy,ry⟩:=h.ev hc hsy;split at ho
 . rename_i a b ha hb;have hxa:=(aF hx rx ha).1;have hyb:=(aF hy ry hb).1;cases hg:XU a&& !(isB cx.P T)with
   |true=>simp[hg]at ho
   |false=>
    simp only[hg,cond_false,Option.map_eq_some_iff]at ho;obtain⟨r,hr,heq⟩:=ho;cases heq;have hT:isB cx.P T=true\/∀e,a≠ .val .bool e:=by
     cases hbt:isB cx.P T with
     |true=>exact .inl rfl
     |false=>
      right;intro e he;subst he;simp[XU,hbt]at hg
    obtain⟨v,h1,h2,h3⟩:=A1j (P:=cx.P) (ty:=ty) (T':=T') hr hφ hxa hyb hT;exact Ew (fun w' _=>h1 w') h2 (h3 _)
 . simp only[bind_some]at ho;obtain⟨ti,hti,a,ha,b,hb,ho⟩:=ho;obtain⟨he,ho⟩:(ti.eq&&ti.agg)=true/\ _:=by
    cases hh:(ti.eq&&ti.agg)with
    |false=>simp[hh]at ho
    |true=>simp only[hh,cond_true]at ho;exact⟨rfl,ho⟩
   simp only[Bool.and_eq_true]at he;have h3:=A3c (B4 hty hti) he.1;rw[he.2]at h3;have h4:=fun w'=>A8e (P:=cx.P) (ty:=ty) (T':=T') h3 (Ax hx ha) (Ax hy hb) w'
   split at ho
   . cases ho;exact Ew (fun w' _=>(h4 w').1) rfl trivial
   . cases ho;exact Ew (fun w' _=>(h4 w').2) rfl trivial
   . cases ho
theorem XJ (h:C0 za w0 st E w Z B) {x:Operand} {i:Nat} (ho:JC st x i=some (φ,d)):Vz cx.P st E w Z B ty (.extract x i) d:=by
 unfold JC at ho;split at ho
 . rename_i t;split at ho
   . rename_i vs hd;simp only[Option.map_eq_some_iff]at ho;obtain⟨s,hs,heq⟩:=ho;cases heq;obtain⟨us,e,h1,h2⟩:=h.tup hd;obtain⟨v,h3,h4⟩:=Oj.get h1 hs;exact⟨v,fun w' _=>mF (vs:=us.toArray) e (by simpa using h3),fun _=>h4,h2 s (List.mem_of_getElem? hs)⟩
   . cases ho
 . cases ho
theorem PD (h:C0 za w0 st E w Z B) (hty:G9 cx.P cx.tys=true) (hc:P6 E ctx) {T:TypeId} {x:Operand} {f:Nat} (ho:Wo cx st ctx T x f=some (φ,d)):Vz cx.P st E w Z B ty (.fieldAddr T x f) d:=by
 simp only[Wo,Option.bind_eq_bind,bind_some,Option.map_eq_some_iff]at ho;obtain⟨ti,hti,q,hq,c,⟨s,hs,hcs⟩,r,hr,heq⟩:=ho;cases heq;have h1:=Ya (B4 hty hti) (Hz hq);have h2:=Ti h1.1 hq;rw[Nat.zero_add]at h2;have h3:=h.c1 hc (bind_some.2 ⟨s,hs,hcs⟩);exact A6x h2.1 h3.1 h3.2 hr
theorem eQ (h:C0 za w0 st E w Z B) (hty:G9 cx.P cx.tys=true) (hc:P6 E ctx) {T:TypeId} {x:Operand} {f:Nat} (ho:XK cx st ctx T x f=some (φ,d)):Vz cx.P st E w Z B ty (.field T x f) d:=by
 simp only[XK,Option.bind_eq_bind,bind_some]at ho;obtain⟨ti,hti,q,hq,s,hs,ho⟩:=ho;obtain⟨h1,h2⟩:=h.ev hc hs;have h3:=Ya (B4 hty hti) (Hz hq);have h4:=Ti h3.1 hq;rw[Nat.zero_add]at h4;obtain⟨sa,cs⟩:=s;cases sa with
 |false=>simp at ho
 |true=>
  simp only[cond_true,Option.map_eq_some_iff]at ho;obtain⟨cs',hcut,heq⟩:=ho;cases heq;obtain⟨vs,e,hvs⟩:=h1;obtain⟨h5,h6,h7⟩:=Td hvs hcut;obtain⟨hfT,hfA⟩:=h4;unfold JD at hfT;unfold eP at hfA;split at hfT
  . rename_i fs hu;simp only[hu]at hfA;split at hfT
    . rename_i fd hfd;simp only[hfd]at hfA;simp only[Bool.and_eq_true,beq_iff_eq]at hfT;obtain⟨off,sz,agg⟩:=q;simp only at hfT hfA h5 h6;obtain⟨ho1,_⟩:=hfT;subst ho1;cases agg with
      |true=>
       simp only[cond_true]at hfA;refine⟨.agg ((vs.drop fd.offset).take sz).toArray,fun w' _ _ _ _ _=> ?_,fun _=>⟨_,rfl,h5⟩,fun c hc=>h2 c (h7 c hc)⟩;obtain⟨g1,g2⟩:=Qn (P:=cx.P) (w:=w') hfA;simp only[execOp,e];simp[Instr.field,run_underlying hu,hfd,asAgg,part,g1,g2,go_sem]
      |false=>
       simp only[cond_false,Bool.and_eq_true]at hfA;have hsz:=Nat.eq_of_beq_eq_true hfA.2;subst hsz
       match hw:(vs.drop fd.offset).take 1,h5,h6 with
       | [v],h5,_=>
        have hgv:vs[fd.offset]? =some v:=by
         have:((vs.drop fd.offset).take 1)[0]? =some v:=by rw[hw];rfl
         simpa using this
        refine⟨v,fun w' _ _ _ _ _=> ?_,fun _=>h5,fun c hc=>h2 c (h7 c hc)⟩;have g1:=Dn (P:=cx.P) (w:=w') hfA.1;simp only[execOp,e];simp[Instr.field,run_underlying hu,hfd,asAgg,part,g1,hgv,go_sem]
    . cases hfT
  . cases hfT
theorem kY (h:C0 za w0 st E w Z B) (hty:G9 cx.P cx.tys=true) (hc:P6 E ctx) {T:TypeId} {x:Operand} (ho:PT cx st ctx T x=some (φ,d)):Vz cx.P st E w Z B ty (.load T x) d:=by
 simp only[PT,Option.bind_eq_bind,bind_some,Option.map_eq_some_iff]at ho;obtain⟨ti,hti,c,⟨s,hs,hcs⟩,r,hr,heq⟩:=ho;cases heq;obtain⟨h1,h2,_⟩:=K9 (B4 hty hti);refine A2c h (h.c1 hc (bind_some.2 ⟨s,hs,hcs⟩)).1 hr ?_;rcases h2 with⟨ha,h2⟩ | ⟨ha,h2,h3⟩
 . exact .inl ⟨ha,h2⟩
 . exact .inr ⟨ha,h2,h3⟩
theorem A1v (h:C0 za w0 st E w Z B) (hty:G9 cx.P cx.tys=true) (hc:P6 E ctx) {T:TypeId} {x ix:Operand} (ho:A4y cx st ctx T x ix=some (φ,d)) (hφ:CC φ):Vz cx.P st E w Z B ty (.indexAddr T x ix) d:=by
 simp only[A4y,Option.bind_eq_bind,bind_some]at ho;obtain⟨ti,hti,c,⟨s,hs,hcs⟩,i,⟨si,hsi,hii⟩,r,hr,ho⟩:=ho;have h1:=h.c1 hc (bind_some.2 ⟨s,hs,hcs⟩);obtain⟨k,h2,_⟩:=h.int hc (bind_some.2 ⟨si,hsi,hii⟩);obtain⟨ψ,c'⟩:=r;simp only at ho;split at ho
 . rename_i t t' y off hT;cases hd:decide (t=t')with
   |false=>simp[hd]at ho
   |true=>
    simp only[hd,cond_true]at ho;cases ho;have:=of_decide_eq_true hd;subst this;have h3:=AB (B4 hty hti) hT;refine oD h h1.1 h2 hr hφ (e:=ti.elem) (fun s hh=> ?_) h1.2;rcases hh with⟨t2,y2,e1,e2⟩ | ⟨_,_,e1⟩
    . cases e1;subst e2;exact h3.1
    . cases e1
 . rename_i t k' sz j off hT;cases hd:Nat.beq t.size sz with
   |false=>simp[hd]at ho
   |true=>
    simp only[hd,cond_true]at ho;cases ho;have:=Nat.eq_of_beq_eq_true hd;have h3:=AB (B4 hty hti) hT;refine oD h h1.1 h2 hr hφ (e:=ti.elem) (fun s hh=> ?_) h1.2;rcases hh with⟨t2,y2,e1,e2⟩ | ⟨_,_,e1⟩
    . cases e1
    . cases e1;rw[<-this];exact h3.1
 . cases ho
theorem ZG {P:Program} {T e ty:TypeId} {x ix:Operand} {kd:IntKind} {i:Int} {b o n sz:Nat} (hx:Gw.ev E x= .pointer (some ⟨b,o,none⟩)) (hi:Gw.ev E ix= .int kd i) (hu:P.underlying T=some (.array n e)) (hz:Na P e sz=true) (h0:0<=i) (h1:i<(n:Int)) (w:World):
 Gw.C8 P E ty (.indexAddr T x ix) w (.pointer (some ⟨b,o+i.toNat*sz,none⟩)) w:=fun _ _ _ _=>by
 have h3:=Gw.Co (P:=P) (w:=w) hz;simp[execOp,hx,hi,Instr.indexAt,asIntOf,run_underlying hu,Instr.sureAddr,h0,h1,h3,go_sem,L4]
theorem C6.selA {u:Ty} :∀ {n:Nat} {ec:List Value} {x:(mX u n).den} {i:Int},0<=i->i<(n:Int)->C6 (mX u n) w Z ec x->C6 u w Z ((ec.drop (i.toNat*u.size)).take u.size) (Vc.selA u n x i)
 |0,_,_,i,h0,h1,_=>by omega
 |1,ec,x,i,h0,h1,h=>by
  have:i.toNat=0:=by omega
  rw[this,Nat.zero_mul,List.drop_zero,List.take_of_length_le (by rw[C6.length h];exact Nat.le_refl _)];exact h
 |n+2,ec,x,i,h0,h1,⟨c1,c2,e,g1,g2⟩=>by
  subst e;have hl:=C6.length g1;simp only[Vc.selA];by_cases hi:i=0
  . subst hi;simp only[decide_true,sel,cond_true];rw[show(0:Int).toNat=0 from rfl,Nat.zero_mul,List.drop_zero, <-hl,List.take_left];exact g1
  . simp only[hi,decide_false,sel,cond_false];have:=C6.selA (i:=i-1) (by omega) (by omega) g2;have e2:i.toNat*u.size=c1.length+(i-1).toNat*u.size:=by
     rw[hl,show i.toNat=(i-1).toNat+1 from by omega,Nat.succ_mul,Nat.add_comm]
    rw[e2, <-List.drop_drop,List.drop_left];exact this
theorem oC (h:C0 za w0 st E w Z B) (hty:G9 cx.P cx.tys=true) (hc:P6 E ctx) {T:TypeId} {x ix:Operand} (ho:oB cx st ctx T x ix=some (φ,d)) (hφ:CC φ):Vz cx.P st E w Z B ty (.indexAddr T x ix) d:=by
 unfold oB at ho;split at ho
 . rename_i ti hti;cases ha:Nat.beq ti.arr 0 with
   |true=>
    simp only[ha,cond_true]at ho;split at ho
    . rename_i r hr;cases ho;simp only[A7h,Option.bind_eq_bind,bind_some]at hr;obtain⟨_,_,c,_,hr⟩:=hr;split at hr
      . cases hr;exact hφ.elim
      . cases hr
    . exact A1v h hty hc ho hφ
   |false=>
    simp only[ha,cond_false]at ho;cases hcn:iJ ix with
    |false=>
     simp only[hcn,cond_false,A7i,Option.bind_eq_bind,bind_some]at ho;obtain⟨te,hte,c,⟨s,hs,hcs⟩,i,⟨si,hsi,hii⟩,ho⟩:=ho;have h1:=h.c1 hc (bind_some.2 ⟨s,hs,hcs⟩);obtain⟨k,h2,_⟩:=h.int hc (bind_some.2 ⟨si,hsi,hii⟩);have harr:=HM (B4 hty hti) ha;have hsz:=(K9 (B4 hty hte)).1;split at ho
     . rename_i t y;split at ho
       . rename_i hh;subst hh;cases ho;obtain⟨g0,g1⟩:=hφ;obtain⟨b,o,ec,e,hz,hcc,hx⟩:=h1.1;exact Ew (fun w' _=>ZG e h2 harr hsz g0 g1 w') ⟨b,o+0+i.toNat*te.ty.size,_,rfl,hz,M8 hcc _ te.ty.size,hx.selA g0 g1⟩ trivial
       . cases ho
     . cases ho
    |true=>
    simp only[hcn,cond_true]at ho;simp only[A7g,Option.bind_eq_bind,bind_some,Option.map_eq_some_iff]at ho;obtain⟨te,hte,c,⟨s,hs,hcs⟩,i,⟨si,hsi,hii⟩,c',hc',ho⟩:=ho;cases ho;have h1:=h.c1 hc (bind_some.2 ⟨s,hs,hcs⟩);obtain⟨k,h2,_⟩:=h.int hc (bind_some.2 ⟨si,hsi,hii⟩);have harr:=HM (B4 hty hti) ha;have hsz:=(K9 (B4 hty hte)).1;obtain⟨g0,g1⟩:=hφ;have hx:=h1.1;have hr:=h1.2;unfold faC at hc';split at hc'<;>cases hc'
    . obtain⟨b,e,hv⟩:=hx;exact Ew (fun w' _=>ZG hv h2 harr hsz g0 g1 w') ⟨b,e,rfl⟩ hr
    . obtain⟨b,m,cap,e,hi,hv⟩:=hx;exact Ew (fun w' _=>ZG hv h2 harr hsz g0 g1 w') ⟨b,m,cap,e,hi,by rw[Nat.add_assoc]⟩ hr
    . obtain⟨b,o,ec,e,hz,hcc,hx⟩:=hx;exact Ew (fun w' _=>ZG e h2 harr hsz g0 g1 w') ⟨b,o,ec,by rw[Nat.add_assoc],hz,hcc,hx⟩ hr
 . cases ho
theorem pH (h:C0 za w0 st E w Z B) (hc:P6 E ctx) {x:Operand} (ho:pG st ctx x=some (φ,d)):Vz cx.P st E w Z B ty (.nilCheck x) d:=by
 simp only[pG,Option.bind_eq_bind,bind_some]at ho;obtain⟨c,⟨s,hs,hcs⟩,ho⟩:=ho;have h1:=h.c1 hc (bind_some.2 ⟨s,hs,hcs⟩);cases hn:A7r c with
 |false=>simp only[hn,cond_false]at ho;cases ho
 |true=>
  simp only[hn,cond_true]at ho;cases ho;have hx:=h1.1;refine Ew (v:=Gw.ev E x) (fun w' _ _ _ _ _=> ?_) hx h1.2;cases c with
  |box k off=>obtain⟨b,e,hv⟩:=hx;simp[execOp,hv]
  |elp k sz i off=>obtain⟨b,m,cap,e,hi,hv⟩:=hx;simp[execOp,hv]
  |pf t y off=>obtain⟨b,o,ec,e,_⟩:=hx;simp[execOp,e]
  |fn f caps=>have hv:Gw.ev E x= _:=hx;simp[execOp,hv]
  |fv _ _ _ _ _ _=>obtain⟨g,caps,hv,_⟩:=hx;simp[execOp,hv]
  | _=>cases hn
theorem NT (h:C0 za w0 st E w Z B) (hc:P6 E ctx) {o:Option Operand} {i:Option Int} (hi:A2j st ctx o=some i):mT E o i:=by
 unfold A2j at hi;cases o with
 |none=>cases hi;rfl
 |some o=>
  simp only[Option.map_eq_some_iff]at hi;obtain⟨j,hj,rfl⟩:=hi;obtain⟨k,h1,_⟩:=h.int hc hj;exact⟨k,j,rfl,h1⟩
theorem RR {P:Program} {T:TypeId} {ti:TI} (h:Ui P T ti=true) (hs:ti.ty= .str):P.underlying T=some .string:=by
 unfold Ui at h;simp only[Bool.and_eq_true]at h;have h1:=h.1.1.1.2;rw[hs]at h1;simp only at h1;split at h1
 . assumption
 . cases h1
theorem mG {P:Program} {E:Gw.G3} {w:World} {ty T:TypeId} {x:Operand} {s:ByteArray} (hx:Gw.ev E x= .string s) (hT:P.underlying T=some .string):Gw.C8 P E ty (.call ⟨.builtin .len, #[x], #[T]⟩) w (.int .i64 (s.data.toList.length:Int)) w:=fun _ _ _ _=>by
 have h3:s.data.toList.length=s.size:=by rw[Array.length_toList];rfl
 rw[h3];simp[execOp,resolve,invoke,builtin,Builtin.len_,hx,run_underlying hT,goInt,go_sem]
theorem dQ {P:Program} {E:Gw.G3} {w:World} {ty T:TypeId} {x lo hi:Operand} {s:ByteArray} {k k':IntKind} {l h:Int} (hx:Gw.ev E x= .string s) (hl:Gw.ev E lo= .int k l) (hh:Gw.ev E hi= .int k' h) (hT:P.underlying T=some .string) (h0:0<=l) (h1:l<=h) (h2:h<=(s.data.toList.length:Int)):Gw.C8 P E ty (.slice T x (some lo) (some hi) none) w (.string (s.extract l.toNat h.toNat)) w:=fun _ _ _ _=>by
 have h3:s.data.toList.length=s.size:=by rw[Array.length_toList];rfl
 have a1:0<=h/\h<=(s.size:Int):=by omega
 have a2:0<=l/\l<=max h 0:=by omega
 simp[execOp,hx,hl,hh,Instr.sliceAt,Instr.slice,Instr.sliceBounds,Instr.sliceBound,asIntOf,run_underlying hT,go_sem];rw[if_pos a1,if_pos a2]
theorem dC (h:C0 za w0 st E w Z B) (hc:P6 E ctx) {P:Program} {T:TypeId} {x lo hi:Operand} (hT:P.underlying T=some .string) (ho:RB st ctx x lo hi=some (φ,d)) (hφ:CC φ):Vz P st E w Z B ty (.slice T x (some lo) (some hi) none) d:=by
 simp only[RB,Option.bind_eq_bind,bind_some]at ho;obtain⟨c,⟨sv,hsv,hcv⟩,l,⟨sl,hsl,hll⟩,hh,⟨sh,hsh,hhl⟩,ho⟩:=ho;obtain⟨k0,hlv,_⟩:=h.int hc (bind_some.2 ⟨sl,hsl,hll⟩);obtain⟨k1,hhv,_⟩:=h.int hc (bind_some.2 ⟨sh,hsh,hhl⟩);split at ho
 . rename_i s;cases ho;have hx1:=(h.c1 hc (bind_some.2 ⟨sv,hsv,hcv⟩)).1;have hx:Gw.ev E x= .string s:=(List.cons.inj (show [Gw.ev E x]= [.string s]from hx1)).1;exact Ew (fun w' _=>dQ hx hlv hhv hT hφ.1 hφ.2.1 hφ.2.2) rfl trivial
 . cases ho
theorem gD (h:C0 za w0 st E w Z B) (hty:G9 cx.P cx.tys=true) (hc:P6 E ctx) {T:TypeId} {x:Operand} {lo hi:Option Operand} (ho:ZA cx st ctx T x lo hi=some (φ,d)) (hφ:CC φ):Vz cx.P st E w Z B ty (.slice T x lo hi none) d:=by
 unfold ZA at ho;cases hstr:oK cx T with
 |true=>
  simp only[hstr,cond_true]at ho;split at ho
  . unfold oK at hstr;split at hstr
    . rename_i ti hti;split at hstr
      . rename_i hT;exact dC h hc (RR (B4 hty hti) hT) ho hφ
      . cases hstr
    . cases hstr
  . cases ho
 |false=>
 simp only[hstr,cond_false,Option.bind_eq_bind,bind_some]at ho;obtain⟨ti,hti,c,⟨s,hs,hcs⟩,l,hl,hh,hhh,r,hr,ho⟩:=ho;have h1:=h.c1 hc (bind_some.2 ⟨s,hs,hcs⟩);obtain⟨ψ,c'⟩:=r;simp only at ho;split at ho
 . rename_i t t' y hT;cases hd:decide (t=t')with
   |false=>simp[hd]at ho
   |true=>
    simp only[hd,cond_true]at ho;cases ho;have:=of_decide_eq_true hd;subst this;have h3:=AB (B4 hty hti) hT;refine dD h (e:=ti.elem) h1.1 hr h1.2 hφ (NT h hc hl) (NT h hc hhh) (fun s hs=> ?_);rcases hs with⟨t2,y2,e2,rfl⟩ | ⟨_,_,_,e2⟩
    . cases e2;exact h3.1
    . cases e2
 . rename_i t k sz lo' hi' hT;cases hd:Nat.beq t.size sz with
   |false=>simp[hd]at ho
   |true=>
    simp only[hd,cond_true]at ho;cases ho;have:=Nat.eq_of_beq_eq_true hd;subst this;have h3:=AB (B4 hty hti) hT;refine dD h (e:=ti.elem) h1.1 hr h1.2 hφ (NT h hc hl) (NT h hc hhh) (fun s hs=> ?_);rcases hs with⟨t2,y2,e2,rfl⟩ | ⟨_,_,_,e2⟩
    . cases e2
    . cases e2;exact h3.1
 . cases ho
theorem kH (h:C0 za w0 st E w Z B) (hty:G9 cx.P cx.tys=true) (hc:P6 E ctx) {T T':TypeId} {x:Operand} (ho:eM cx st ctx T T' x=some (φ,d)):Vz cx.P st E w Z B ty (.convert T T' x) d:=by
 simp only[eM,Option.bind_eq_bind,bind_some]at ho;obtain⟨ti,hti,ti',hti',c,⟨s,hs,hcs⟩,ho⟩:=ho;have h1:=h.c1 hc (bind_some.2 ⟨s,hs,hcs⟩);split at ho
 . rename_i k k' k'' a hT hT';cases ho;exact A1l h1.1 ⟨_,UL (dJ (B4 hty hti) hT)⟩ (dJ (B4 hty hti') hT')
 . cases ho
theorem eG (h:C0 za w0 st E w Z B) (hty:G9 cx.P cx.tys=true) (hc:P6 E ctx) {T:TypeId} {parts:List (Nat×Operand)} (ho:WW cx st ctx T parts=some (φ,d)):Vz cx.P st E w Z B ty (.build T parts.toArray) d:=by
 simp only[WW,Option.bind_eq_bind,bind_some]at ho;obtain⟨ti,hti,l,hl,ho⟩:=ho;have h1:=B4 hty hti;cases he:ti.fields.isEmpty with
 |true=>
  simp only[he,cond_true,bind_some]at ho;obtain⟨te,hte,ho⟩:=ho;cases ha:Nat.beq ti.arr 0 with
  |true=>simp[ha]at ho
  |false=>
   simp only[ha,cond_false,Option.map_eq_some_iff]at ho;obtain⟨cs,hcs,heq⟩:=ho;cases heq;exact WX h hc (K9 h1).2.2 (HM h1 ha) (K9 (B4 hty hte)).1 hl hcs
 |false=>
  simp only[he,cond_false,Option.map_eq_some_iff]at ho;obtain⟨cs,hcs,heq⟩:=ho;cases heq;exact mZ h hc (K9 h1).2.2 (Ya h1 he).2 hl hcs
theorem WC {t:Ty} :∀ {cs:List C} {vs:List Value} {xs:List t.den},Cf w Z B cs vs->ZD t cs=some xs->xs.length=vs.length/\∀(i:Nat) (x:t.den),xs[i]? =some x->∃v,vs[i]? =some v/\C6 t w Z [v] x
 | [],vs,xs,h,hv=>by cases hv;rw[show vs= []from h];exact⟨rfl,fun i x hi=>by simp at hi⟩
 |c::cs,vs,xs,⟨v,vs',e,h1,h2⟩,hv=>by
  simp only[ZD,bind_some,Option.map_eq_some_iff]at hv;obtain⟨x,hx,r,hr,rfl⟩:=hv;obtain⟨h3,h4⟩:=WC h2 hr;subst e;refine⟨by simp[h3],fun i y hi=> ?_⟩;cases i with
  |zero=>simp at hi;subst hi;exact⟨v,rfl,NJ h1 hx⟩
  |succ i=>simp at hi;obtain⟨u,h5,h6⟩:=h4 i y hi;exact⟨u,by simpa using h5,h6⟩
theorem bH (h:C0 za w0 st E w Z B) (hty:G9 cx.P cx.tys=true) (hc:P6 E ctx) {T:TypeId} {x ix:Operand} (ho:PH cx st ctx T x ix=some (φ,d)) (hφ:CC φ):Vz cx.P st E w Z B ty (.index T x ix) d:=by
 simp only[PH,Option.bind_eq_bind,bind_some]at ho;obtain⟨ti,hti,te,hte,s,hs,i,⟨si,hsi,hii⟩,vs,hvs,ho⟩:=ho;have h1:=B4 hty hti;have h2:=B4 hty hte;obtain⟨k0,hiv,_⟩:=h.int hc (bind_some.2 ⟨si,hsi,hii⟩);obtain⟨hx,_⟩:=h.ev hc hs;obtain⟨sa,cs⟩:=s;cases hg:(sa&& !te.agg&& !(Nat.beq ti.arr 0)&&Nat.beq te.ty.size 1&&Nat.beq vs.length ti.arr)with
 |false=>simp only[hg,cond_false]at ho;cases ho
 |true=>
  simp only[hg,cond_true]at ho;simp only[Bool.and_eq_true,Bool.not_eq_true']at hg;obtain⟨⟨⟨⟨rfl,g2⟩,g3⟩,g4⟩,g5⟩:=hg;obtain⟨us,e,hus⟩:=hx;obtain⟨h3,h4⟩:=WC hus hvs;have harr:=HM h1 g3;have hlen:=Nat.eq_of_beq_eq_true g5;have hsc:S7 cx.P ti.elem=true:=by
   rcases(K9 h2).2.1 with⟨ha,_⟩ | ⟨_,hs,_⟩
   . rw[ha]at g2;cases g2
   . exact hs
  have hsz:Na cx.P ti.elem 1=true:=by have:=(K9 h2).1;rwa[Nat.eq_of_beq_eq_true g4]at this
  have main:∀(dd:te.ty.den),0<=i/\i<(vs.length:Int)->∃v,us[i.toNat]? =some v/\C6 te.ty w Z [v] (gx dd vs i)/\∀w',Gw.C8 cx.P E ty (.index T x ix) w' v w':=fun dd hb=>by
   obtain⟨v,hv,hrep⟩:=h4 i.toNat _ (S5 (d:=dd) hb.1 hb.2);refine⟨v,hv,hrep,fun w'=> ?_⟩;exact dO (cs:=us.toArray) e hiv harr hsc hsz hb.1 (by rw[<-hlen];exact hb.2) (by simpa using hv)
  split at ho
  . rename_i k vs' hT hvs';cases ho;have main':=main;clear main;generalize hq:te.ty=q at*;subst hT;cases hvs';obtain⟨v,_,h6,h7⟩:=main' 0 hφ;exact Ew (fun w' _=>h7 w') h6 trivial
  . rename_i vs' hT hvs';cases ho;have main':=main;clear main;generalize hq:te.ty=q at*;subst hT;cases hvs';obtain⟨v,_,h6,h7⟩:=main' false hφ;exact Ew (fun w' _=>h7 w') h6 trivial
  . cases ho
theorem dP {P:Program} {E:Gw.G3} {w:World} {ty T:TypeId} {x ix:Operand} {s:ByteArray} {kd:IntKind} {i:Int} (hx:Gw.ev E x= .string s) (hi:Gw.ev E ix= .int kd i) (hT:P.underlying T=some .string) (h0:0<=i) (h1:i<(s.data.toList.length:Int)):Gw.C8 P E ty (.index T x ix) w (.int .u8 (M9 s i)) w:=fun _ _ _ _=>by
 have hlt:i.toNat<s.data.size:=by rw[<-Array.length_toList];omega
 have hg:s[i.toNat]? =some s.data[i.toNat]:=by
  have:s[i.toNat]? =s.data[i.toNat]?:=by
   rw[getElem?_def,getElem?_def];rfl
  rw[this,Array.getElem?_eq_getElem hlt]
 have hb:M9 s i=(s.data[i.toNat].toNat:Int):=by
  unfold M9;rw[List.getD_eq_getElem?_getD,Array.getElem?_toList,Array.getElem?_eq_getElem hlt];rfl
 simp[execOp,hx,hi,Instr.index,asIntOf,run_underlying hT,h0,hg,hb,go_sem]
theorem bI (h:C0 za w0 st E w Z B) (hc:P6 E ctx) {P:Program} {T:TypeId} {x ix:Operand} (hT:P.underlying T=some .string) (ho:PI st ctx x ix=some (φ,d)) (hφ:CC φ):Vz P st E w Z B ty (.index T x ix) d:=by
 simp only[PI,Option.bind_eq_bind,bind_some]at ho;obtain⟨c,⟨sv,hsv,hcv⟩,i,⟨si,hsi,hii⟩,ho⟩:=ho;obtain⟨k0,hiv,_⟩:=h.int hc (bind_some.2 ⟨si,hsi,hii⟩);split at ho
 . rename_i s;cases ho;have hx1:=(h.c1 hc (bind_some.2 ⟨sv,hsv,hcv⟩)).1;have hx:Gw.ev E x= .string s:=(List.cons.inj (show [Gw.ev E x]= [.string s]from hx1)).1;exact Ew (fun w' _=>dP hx hiv hT hφ.1 hφ.2) ⟨rfl,by
    have:=(s.data.toList.getD i.toNat 0).toNat_lt;unfold M9;constructor
    . exact Int.natCast_nonneg _
    . show _ <=(255:Int);omega⟩ trivial
 . cases ho
theorem eV (h:C0 za w0 st E w Z B) (hty:G9 cx.P cx.tys=true) (hc:P6 E ctx) {T:TypeId} {x ix:Operand} (ho:XR cx st ctx T x ix=some (φ,d)) (hφ:CC φ):Vz cx.P st E w Z B ty (.index T x ix) d:=by
 unfold XR at ho;split at ho
 . rename_i hs;cases hti:cx.ti T with
   |none=>rw[hti]at hs;cases hs
   |some ti=>
    rw[hti]at hs;exact bI h hc (RR (B4 hty hti) (Option.some.inj hs)) ho hφ
 . exact bH h hty hc ho hφ
theorem iQ (h:C0 za w0 st E w Z B) {ka va:Bool} {kt vt:Ty} {c:C} {v:Value} {es:List (kt.den×vt.den)} (hc:RC w Z B c v) (hm:A2e st ka kt va vt c=some es):
 (v= .map none/\es= [])\/∃b ents cl,v= .map (some b)/\b<w.heap.size/\w.heap[b]? =some (.map ents cl)/\Kj w Z ka kt va vt ents.toList es:=by
 unfold A2e at hm;split at hm
 . rename_i k;split at hm
   . rename_i ka' kt' va' vt' es' hk;split at hm
     . rename_i hh;have h1:=h.locs k;rw[hk]at h1;obtain⟨b,ents,cl,e,_,_,hb,_,he⟩:=h1;cases hh;cases hm;exact .inr ⟨b,ents,cl,(show v= _ from hc).trans e,(Array.getElem?_eq_some_iff.1 hb).1,hb,he⟩
     . cases hm
   . rename_i ka' kt' va' vt' es' j q hk;split at hm
     . rename_i hh;have h1:=h.locs k;rw[hk]at h1;obtain⟨b,ents,cl,e,_,_,hb,⟨_,he⟩,_⟩:=h1;cases hh;cases hm;exact .inr ⟨b,ents,cl,(show v= _ from hc).trans e,(Array.getElem?_eq_some_iff.1 hb).1,hb,he⟩
     . cases hm
   . cases hm
 . rename_i t es';split at hm
   . rename_i hh;subst hh;cases hm;rcases hc with⟨e,hn⟩ | ⟨b,ents,cl,e,hb,hh,_,he⟩
     . simp only[List.cons.injEq,and_true]at e;exact .inl ⟨e,hn⟩
     . simp only[List.cons.injEq,and_true]at e;exact .inr ⟨b,ents,cl,e,h.zlt b hb,hh,he⟩
   . cases hm
 . cases hm;exact .inl ⟨hc.1,rfl⟩
 . cases hm
theorem Re {κ:Ty} {ν:Type} {Rk:Value->κ.den->Prop} {Rv:Value->ν->Prop} {k:κ.den} :∀ {l:List (κ.den×ν)} {es:List MapEntry} {i:Nat},O8 Rk Rv es l->(N2 κ k l i=none/\V9 κ k l=none)\/∃j e y,N2 κ k l i=some (i+j)/\es[j]? =some e/\V9 κ k l=some y/\Rv e.val y/\Rk e.key ((l[j]?).map (·.1) |>.getD k)/\Wa κ k ((l[j]?).map (·.1) |>.getD k)=true
 | [],_,_,_=> .inl ⟨rfl,rfl⟩
 |x::l,_,i,⟨e,es',he,h1,h2,h3⟩=>by
  subst he;simp only[N2,V9];cases hb:Wa κ k x.1 with
  |true=>exact .inr ⟨0,e,x.2,rfl,rfl,rfl,h2,h1,hb⟩
  |false=>
   rcases Re (i:=i+1) h3 with⟨g1,g2⟩ | ⟨j,e',y,g1,g2,g3,g4,g5⟩
   . exact .inl ⟨g1,g2⟩
   . exact .inr ⟨j+1,e',y,by rw[cond_false,g1,Nat.add_assoc,Nat.add_comm 1 j],by simpa using g2,g3,g4,by simpa using g5⟩
theorem SR {P:Program} {T:TypeId} {z:Value} (h:Dc P T=some z) (w':World):(zeroValue T).run P w'= .ok z w':=by
 unfold Dc at h;cases hi:P.info? T with
 |none=>simp[hi]at h
 |some i=>simp only[hi,Option.bind_some]at h;simp[zeroValue,typeInfo,hi,h]
theorem bU (h:C0 za w0 st E w Z B) (hty:G9 cx.P cx.tys=true) (hc:P6 E ctx) {T:TypeId} {x ix:Operand} {ck:Bool} (ho:PU cx st ctx T x ix ck=some (φ,d)) (hφ:CC φ):Vz cx.P st E w Z B ty (.lookup T x ix ck) d:=by
 simp only[PU,Option.bind_eq_bind,bind_some]at ho;obtain⟨ti,hti,c,⟨s,hs,hcs⟩,sk,hsk,ho⟩:=ho;have h1:=h.c1 hc (bind_some.2 ⟨s,hs,hcs⟩);obtain⟨h2,_⟩:=h.ev hc hsk;split at ho
 . rename_i ka kt va vt hT;simp only[bind_some]at ho;obtain⟨es,hes,k,hk,ho⟩:=ho;have hcase:(∃t,vt= .sl t/\ck=false/\va=false/\φ=some (V9 kt k es=none)/\d=one1 (.raw (.slice none 0 0)))\/(Mb vt=true/\some (φ,d)=some ((none:Option Prop),bif ck then DV.tup [⟨va,explode vt ((V9 kt k es).getD vt.dflt)⟩,⟨false,[.val .bool (V9 kt k es).isSome]⟩]else .one ⟨va,explode vt ((V9 kt k es).getD vt.dflt)⟩)):=by
    cases hb:ti.rows&&A7l c&&A5a vt&& !ck&& !va with
    |true=>
     simp only[hb,cond_true]at ho;cases ho;simp only[Bool.and_eq_true,Bool.not_eq_true']at hb;cases vt<;>simp[A5a]at hb;exact .inl ⟨_,rfl,hb.1.2,hb.2,rfl,rfl⟩
    |false=>
     simp only[hb,cond_false]at ho;cases hh:Mb vt with
     |false=>simp[hh]at ho
     |true=>simp only[hh,cond_true]at ho;exact .inr ⟨rfl,ho.symm⟩
   have hnp:Mb vt=true:=by
    rcases hcase with⟨t,rfl,_⟩ | ⟨h,_⟩
    . rfl
    . exact h
   obtain⟨hu,hkt,hz,hva⟩:=Pk (B4 hty hti) hT;have hkey:=Ax h2 hk;obtain⟨z,hz1,hz2⟩:=Db hz;have hzr:X3 va vt w Z z vt.dflt:=by
    have hzz:=Zg (w:=w) (Z:=Z) hnp;rw[<-hz2]at hzz;unfold Zf at hva;rw[hz1]at hva;cases z with
    |agg cs=>cases va<;>simp at hva;exact⟨cs.toList,by simp,hzz⟩
    |tuple _=>simp at hva
    | _=>cases va<;>simp at hva<;>exact hzz
   have main:∃u ok,(∀w',R2 w w'->(Instr.lookup T (Gw.ev E x) (Gw.ev E ix) ck).run cx.P w'= .ok (if ck then .tuple #[u, .bool ok]else u) w')/\X3 va vt w Z u ((V9 kt k es).getD vt.dflt)/\ok=(V9 kt k es).isSome/\(ok=false->u=z):=by
    rcases iQ h h1.1 hes with⟨e,hn⟩ | ⟨b,ents,cl,e,hlt,hb,he⟩
    . refine⟨z,false,fun w' _=> ?_,by rw[hn];exact hzr,by rw[hn];rfl,fun _=>rfl⟩;have hck:=fun em=>Le hkt hkey w' em
      have hfk:=Rj (Rv:=fun _ (_:vt.den)=>True) hkt hkey w' (l:= []) (es:= []) rfl;unfold Instr.lookup;simp only[Sem.run_bind,run_underlying hu,Result.andThen_ok,e,Sem.run_pure,hck,hfk,N2,Option.bind_none,SR hz1]
    . rcases Re (k:=k) (i:=0) he with⟨g1,g2⟩ | ⟨j,en,y,g1,g2,g3,g4,_⟩
      . refine⟨z,false,fun w' hx=> ?_,by rw[g2];exact hzr,by rw[g2];rfl,fun _=>rfl⟩;have hck:=fun em=>Le hkt hkey w' em
        have hfk:=Rj hkt hkey w' he;have hgo:(getObj b).run cx.P w'= .ok (.map ents cl) w':=by simp[getObj,Sem.run,hx.block b hlt,hb]
        unfold Instr.lookup;simp only[Sem.run_bind,run_underlying hu,Result.andThen_ok,e,Sem.run_pure,hgo,hck,hfk,g1,Option.bind_none,SR hz1]
      . refine⟨en.val,true,fun w' hx=> ?_,by rw[g3];exact g4,by rw[g3];rfl,fun hh=>(by cases hh)⟩;have hck:=fun em=>Le hkt hkey w' em
        have hfk:=Rj hkt hkey w' he;have hgo:(getObj b).run cx.P w'= .ok (.map ents cl) w':=by simp[getObj,Sem.run,hx.block b hlt,hb]
        rw[Nat.zero_add]at g1;unfold Instr.lookup;simp only[Sem.run_bind,run_underlying hu,Result.andThen_ok,e,Sem.run_pure,hgo,hck,hfk,g1,Option.bind_some,g2,Option.map_some]
   obtain⟨u,ok,h3,h4,h5,h6⟩:=main;rcases hcase with⟨t,rfl,rfl,rfl,rfl,rfl⟩ | ⟨_,ho⟩
   . have hφ:V9 kt k es=none:=hφ;have hu0:u= .slice none 0 0:=by
      rw[h6 (by rw[h5,hφ];rfl)];unfold Zf at hva;rw[hz1]at hva;cases z with
      |agg cs=>simp at hva
      |tuple _=>simp at hva
      |slice a n c=>simp[Dw,Value.cells]at hz2;obtain⟨rfl,rfl,rfl⟩:=hz2;rfl
      | _=>simp[Dw,Value.cells]at hz2
     refine⟨u,fun w' hx=>fun _ _ _ _=> ?_,fun E'=> ?_,fun c hc=> ?_⟩
     . have:=h3 w' (hx rfl);simp at this;simp[execOp,this]
     . rw[hu0];exact⟨_,[],rfl,⟨rfl,rfl⟩,rfl⟩
     . simp at hc;subst hc;trivial
   cases ck with
   |true=>
    simp only[cond_true]at ho;cases ho;refine⟨.tuple #[u, .bool ok],fun w' hx=>fun _ _ _ _=> ?_,fun E'=>⟨[u, .bool ok],rfl,u,_,rfl,X3.explode h4,_,_,rfl,⟨_,[],rfl,by rw[h5];rfl,rfl⟩,rfl⟩,fun s hs=> ?_⟩
    . simp[execOp,h3 w' (hx rfl)]
    . simp at hs;rcases hs with rfl|rfl
      . exact D8
      . intro c hc;simp at hc;subst hc;trivial
   |false=>
    simp only[cond_false]at ho;cases ho;refine⟨u,fun w' hx=>fun _ _ _ _=> ?_,fun E'=>X3.explode h4,D8⟩;simp[execOp,h3 w' (hx rfl)]
 . cases ho
theorem pB (h:C0 za w0 st E w Z B) (hc:P6 E ctx) {fn:Fn} {first caps:List Operand} (ho:pA st ctx fn first caps=some (φ,d)):Vz cx.P st E w Z B ty (.makeFunc fn first.toArray caps.toArray) d:=by
 unfold pA at ho;split at ho
 . simp only[Option.bind_eq_bind,bind_some]at ho;obtain⟨ss,hss,ks,hks,ho⟩:=ho;cases ho;exact A5l h hc hss hks
 . cases ho
theorem Tr {k:IntKind} {a b:Int} (ha:FX k a) (hb:FX k b):FX k (max a b)/\FX k (min a b):=by unfold FX at*;omega
theorem RC.int {k:IntKind} {a:Int} {v:Value} (h:RC w Z B (.val (.int k) a) v):v= .int k a/\FX k a:=by
 obtain⟨h1,h2⟩:=h;simp only[List.cons.injEq,and_true]at h1;exact⟨h1,h2⟩
theorem WY (h:C0 za w0 st E w Z B) (hty:G9 cx.P cx.tys=true) (hc:P6 E ctx) {b:Builtin} {args:List Operand} {ts:List TypeId} (ho:IX cx st ctx b args ts=some (φ,d)) (hφ:CC φ):Vz cx.P st E w Z B ty (.call ⟨.builtin b,args.toArray,ts.toArray⟩) d:=by
 unfold IX at ho;split at ho
 . rename_i x T;simp only[Option.bind_eq_bind,bind_some]at ho;obtain⟨ti,hti,c,⟨s,hs,hcs⟩,n,hn,ho⟩:=ho;have h1:=h.c1 hc (bind_some.2 ⟨s,hs,hcs⟩);split at ho
   . cases ho
   . rename_i s hT;cases ho;obtain rfl:n=(s.data.toList.length:Int):=by simpa[A1z]using hn.symm
     have hx:Gw.ev E x= .string s:=(List.cons.inj (show [Gw.ev E x]= [.string s]from h1.1)).1;exact Ew (fun w' _=>mG hx (RR (B4 hty hti) hT)) ⟨rfl,⟨Int.le_trans (by decide:(IntKind.i64.min:Int)<=0) (Int.natCast_nonneg _),hφ⟩⟩ trivial
   . cases ho
   . rename_i t hT hm hs;cases ho;refine A5f h h1.1 hn (AB (B4 hty hti) hT).1 (fun k hk=> ?_) (fun s hk=> ?_)
     . subst hk;exact hm _ rfl
     . subst hk;exact hs _ rfl
   . cases ho
 . simp only[Option.bind_eq_bind,bind_some]at ho;obtain⟨c,⟨s,hs,hcs⟩,c',⟨s',hs',hcs'⟩,ho⟩:=ho;have h1:=h.c1 hc (bind_some.2 ⟨s,hs,hcs⟩);have h2:=h.c1 hc (bind_some.2 ⟨s',hs',hcs'⟩);split at ho
   . rename_i k a k' b;cases hd:decide (k=k')with
     |false=>simp[hd]at ho
     |true=>
      simp only[hd,cond_true]at ho;cases ho;have:=of_decide_eq_true hd;subst this;have g1:=RC.int h1.1;have g2:=RC.int h2.1;exact Ew (fun w' _=>A6f g1.1 g2.1) ⟨rfl,(Tr g1.2 g2.2).1⟩ trivial
   . cases ho
 . simp only[Option.bind_eq_bind,bind_some]at ho;obtain⟨c,⟨s,hs,hcs⟩,c',⟨s',hs',hcs'⟩,ho⟩:=ho;have h1:=h.c1 hc (bind_some.2 ⟨s,hs,hcs⟩);have h2:=h.c1 hc (bind_some.2 ⟨s',hs',hcs'⟩);split at ho
   . rename_i k a k' b;cases hd:decide (k=k')with
     |false=>simp[hd]at ho
     |true=>
      simp only[hd,cond_true]at ho;cases ho;have:=of_decide_eq_true hd;subst this;have g1:=RC.int h1.1;have g2:=RC.int h2.1;exact Ew (fun w' _=>A6h g1.1 g2.1) ⟨rfl,(Tr g1.2 g2.2).2⟩ trivial
   . cases ho
 . simp only[Option.bind_eq_bind,bind_some]at ho;obtain⟨c,⟨s,hs,hcs⟩,c',⟨s',hs',hcs'⟩,c'',⟨s'',hs'',hcs''⟩,ho⟩:=ho;have h1:=h.c1 hc (bind_some.2 ⟨s,hs,hcs⟩);have h2:=h.c1 hc (bind_some.2 ⟨s',hs',hcs'⟩);have h3:=h.c1 hc (bind_some.2 ⟨s'',hs'',hcs''⟩);split at ho
   . rename_i k a k' b k'' c;cases hd:decide (k=k')&&decide (k=k'')with
     |false=>simp only[hd,cond_false]at ho;cases ho
     |true=>
      simp only[hd,cond_true]at ho;cases ho;simp only[Bool.and_eq_true,decide_eq_true_eq]at hd;obtain⟨rfl,rfl⟩:=hd;have g1:=RC.int h1.1;have g2:=RC.int h2.1;have g3:=RC.int h3.1;exact Ew (fun w' _=>A6g g1.1 g2.1 g3.1) ⟨rfl,(Tr (Tr g1.2 g2.2).1 g3.2).1⟩ trivial
   . cases ho
 . cases ho
theorem Zw (h:C0 za w0 st E w Z B) (hty:G9 cx.P cx.tys=true) (hc:P6 E ctx) {op:Op} (ho:Tx cx st ctx op=some (φ,d)) (hφ:CC φ):Vz cx.P st E w Z B ty op d:=by
 unfold Tx at ho;split at ho
 . exact(iR h hc ho).1
 . exact(iR h hc ho).2
 . exact lL h hc ho
 . exact A0s h hc ho
 . exact kA h hty hc ho hφ
 . exact XJ h ho
 . exact PD h hty hc ho
 . exact eQ h hty hc ho
 . exact kY h hty hc ho
 . exact oC h hty hc ho hφ
 . exact eV h hty hc ho hφ
 . exact bU h hty hc ho hφ
 . exact gD h hty hc ho hφ
 . exact kH h hty hc ho
 . rename_i T parts;have:=eG (ty:=ty) h hty hc ho;simpa using this
 . exact pH h hc ho
 . have:=pB (cx:=cx) (ty:=ty) h hc ho;simpa using this
 . have:=WY (ty:=ty) h hty hc ho hφ;simpa using this
 . cases ho
end
def A0k (sz:Nat) (lo hi:Int):C->C
 | .val (.sl t) l=>bif Nat.beq sz t.size then .val (.sl t) ((l.take hi.toNat).drop lo.toNat)else .dead
 | _=> .dead
def AR (k:Nat) (c':C):C->C
 | .win j sz lo hi=>bif Nat.beq j k then A0k sz lo hi c' else .win j sz lo hi
 | .row j=>bif Nat.beq j k then c' else .row j
 | .mp j=>bif Nat.beq j k then c' else .mp j
 |c=>c
def aW (k:Nat) (c':C) (s:SV):SV:=⟨s.agg,s.cs.map (AR k c')⟩
def FV (k:Nat) (c':C):DV->DV
 | .one s=> .one (aW k c' s)
 | .tup ss=> .tup (ss.map (aW k c'))
 | .cnd t b s=> .cnd t b (aW k c' s)
 | .dead=> .dead
def aV (k:Nat) (c':C):LC->LC
 | .box T cs=> .box T (cs.map (AR k c'))
 |x=>x
def bC (k:Nat):C->Bool
 | .win j _ _ _=>Nat.beq j k
 | .row j=>Nat.beq j k
 | .mp j=>Nat.beq j k
 | _=>false
def Wu (k:Nat):DV->Bool
 | .one s=>s.cs.any (bC k)
 | .tup ss=>ss.any fun s=>s.cs.any (bC k)
 | .cnd _ _ s=>s.cs.any (bC k)
 | .dead=>false
def UJ (k:Nat):LC->Bool
 | .box _ cs=>cs.any (bC k)
 | _=>false
def mapV {α:Type} (p:α->Bool) (f:α->α) (g:Nat):List (Nat×Nat×α)->List (Nat×Nat×α)
 | []=> []
 | (s,x)::l=>(s,bif p x.2 then(g,f x.2)else x)::mapV p f g l
theorem Zl {α:Type} (p:α->Bool) (f:α->α) (g:Nat) (d:Nat×α) (hd:p d.2=false) (q:Nat):∀l:List (Nat×Nat×α),find d q (mapV p f g l)=bif p (find d q l).2 then(g,f (find d q l).2)else find d q l
 | []=>by simp[mapV,find,hd]
 | (s,x)::l=>by
  simp only[mapV,find,Zl p f g d hd q l];cases Nat.beq s q<;>rfl
theorem Wv {k:Nat} {c':C} :∀ {cs:List C},cs.any (bC k)=false->cs.map (AR k c')=cs
 | [],_=>rfl
 |c::cs,h=>by
  simp only[List.any_cons,Bool.or_eq_false_iff]at h;rw[List.map_cons,Wv h.2];congr 1;cases c with
  |row j=>simp only[bC]at h;simp only[AR,h.1,cond_false]
  |mp j=>simp only[bC]at h;simp only[AR,h.1,cond_false]
  |win j _ _ _=>simp only[bC]at h;simp only[AR,h.1,cond_false]
  | _=>rfl
theorem UI {k:Nat} {c':C} {d:DV} (h:Wu k d=false):FV k c' d=d:=by
 cases d with
 |one s=>simp only[FV,aW,Wv h]
 |cnd t b s=>simp only[FV,aW,Wv h]
 |dead=>rfl
 |tup ss=>
  simp only[FV];congr 1;simp only[Wu]at h
  induction ss with
  |nil=>rfl
  |cons s ss ih=>
   simp only[List.any_cons,Bool.or_eq_false_iff]at h;rw[List.map_cons,ih h.2];congr 1;simp only[aW,Wv h.1]
theorem kP {k:Nat} {c':C} {l:LC} (h:UJ k l=false):aV k c' l=l:=by
 cases l with
 |box T cs=>simp only[aV,Wv h]
 | _=>rfl
def St.freeze (st:St) (k:Nat) (c':C):St:=⟨mapV (Wu k) (FV k c') (st.ct+1) st.sl,mapV (UJ k) (aV k c') (st.ct+1) (put k (st.ct+1, .none) st.lc),st.nx,st.ct+1,st.nm,st.fr.map (mapV (Wu k) (FV k c') (st.ct+1))⟩
theorem St.eS_freeze (st:St) (k:Nat) (c':C) (s:Nat):(st.freeze k c').eS s=bif Wu k (st.S s)then(st.ct+1,FV k c' (st.S s))else st.eS s:=Zl _ _ _ _ rfl _ _
theorem St.S_freeze (st:St) (k:Nat) (c':C) (s:Nat):(st.freeze k c').S s=FV k c' (st.S s):=by
 show((st.freeze k c').eS s).2= _;rw[St.eS_freeze];cases h:Wu k (st.S s)with
 |true=>rfl
 |false=>exact(UI h).symm
theorem St.eL_freeze (st:St) (k:Nat) (c':C) (q:Nat):(st.freeze k c').eL q=bif UJ k (if q=k then(st.ct+1,LC.none)else st.eL q).2 then(st.ct+1,aV k c' (if q=k then(st.ct+1,LC.none)else st.eL q).2)else(if q=k then(st.ct+1,LC.none)else st.eL q):=by
 show find (0, .none) q (mapV (UJ k) (aV k c') (st.ct+1) (put k (st.ct+1, .none) st.lc))= _;rw[Zl _ _ _ _ rfl,Ws];rfl
theorem St.L_freeze (st:St) (k:Nat) (c':C) (q:Nat):(st.freeze k c').L q=aV k c' (if q=k then .none else st.L q):=by
 show((st.freeze k c').eL q).2= _;rw[St.eL_freeze];have e:(if q=k then(st.ct+1,LC.none)else st.eL q).2=if q=k then LC.none else st.L q:=by split<;>rfl
 rw[e];cases h:UJ k (if q=k then LC.none else st.L q)with
 |true=>rfl
 |false=>rw[cond_false,e];exact(kP h).symm
theorem UG {w:World} {v:Value} {b k:Nat} {c':C} {l:LC} :A4 w v (aV k c' l) b↔A4 w v l b:=by cases l<;>exact Iff.rfl
section
variable {za:Zn} {w0 w w':World} {Z:Nat->Prop} {B:Nat->Value} {st:St} {E:G3} {n:Nat}
section frz
variable {k:Nat} {c':C} (hc':∀v,v=B k->RC w Z B c' v) (hr':Cd n c')
include hc' in
theorem A1t {c:C} {v:Value} (h:RC w Z B c v):RC w Z B (AR k c' c) v:=by
 cases c with
 |row j=>
  simp only[AR];cases hj:Nat.beq j k with
  |true=>have:=Nat.eq_of_beq_eq_true hj;subst this;exact hc' v h
  |false=>exact h
 |mp j=>
  simp only[AR];cases hj:Nat.beq j k with
  |true=>have:=Nat.eq_of_beq_eq_true hj;subst this;exact hc' v h
  |false=>exact h
 |win j sz lo hi=>
  simp only[AR];cases hj:Nat.beq j k with
  |true=>
   have:=Nat.eq_of_beq_eq_true hj;subst this;have h2:=hc' (B j) rfl;simp only[cond_true];unfold A0k;split
   . rename_i t l;cases hs:Nat.beq sz t.size with
     |false=>trivial
     |true=>
      have:=Nat.eq_of_beq_eq_true hs;subst this;obtain⟨a,n,cap,hB,ga,gn,g0,g1,g2,g3,g4,hv⟩:=h;rw[hB]at h2;rw[hv];exact jB h2 g0 g1 g2
   . trivial
  |false=>exact h
 | _=>exact h
include hr' in
theorem nU {c:C} (h:Cd n c):Cd n (AR k c' c):=by
 cases c with
 |row j=>
  simp only[AR];cases Nat.beq j k with
  |true=>exact hr'
  |false=>exact h
 |mp j=>
  simp only[AR];cases Nat.beq j k with
  |true=>exact hr'
  |false=>exact h
 |win j sz lo hi=>
  simp only[AR];cases Nat.beq j k with
  |true=>
   simp only[cond_true];unfold A0k;split
   . cases Nat.beq sz _ <;>trivial
   . trivial
  |false=>exact h
 | _=>exact h
include hc' in
theorem FU:∀ {cs:List C} {vs:List Value},Cf w Z B cs vs->Cf w Z B (cs.map (AR k c')) vs
 | [],_,h=>h
 | _:: _,_,⟨v,vs',e,h1,h2⟩=>⟨v,vs',e,A1t hc' h1,FU h2⟩
include hr' in
theorem Zo {cs:List C} (h:∀c∈cs,Cd n c):∀c∈cs.map (AR k c'),Cd n c:=fun c hc=>by
 obtain⟨c0,h0,rfl⟩:=List.mem_map.1 hc;exact nU hr' (h c0 h0)
include hc' in
theorem XO:∀ {s:SV} {v:Value},RS w Z B s v->RS w Z B (aW k c' s) v
 | ⟨true,_⟩,_,⟨vs,e,h⟩=>⟨vs,e,FU hc' h⟩
 | ⟨false,_⟩,_,h=>FU hc' h
include hc' in
theorem aX:∀ {ss:List SV} {vs:List Value},Oj w Z B ss vs->Oj w Z B (ss.map (aW k c')) vs
 | [],_,h=>h
 | _:: _,_,⟨v,vs',e,h1,h2⟩=>⟨v,vs',e,XO hc' h1,aX h2⟩
include hc' in
theorem iB:∀ {d:DV} {v:Value},RD w Z B E d v->RD w Z B E (FV k c' d) v
 | .one _,_,h=>XO hc' h
 | .tup _,_,⟨vs,e,h⟩=>⟨vs,e,aX hc' h⟩
 | .cnd _ _ _,_,h=>h.imp (fun⟨a,b⟩=>⟨a,XO hc' b⟩) id
 | .dead,_,_=>trivial
include hr' in
theorem aU:∀ {d:DV},GV n d->GV n (FV k c' d)
 | .one _,h=>Zo hr' h
 | .tup ss,h=>fun s hs=>by
  obtain⟨s0,h0,rfl⟩:=List.mem_map.1 hs;exact Zo hr' (h s0 h0)
 | .cnd _ _ _,h=>Zo hr' h
 | .dead,_=>trivial
theorem aY (s:Nat) (f:List (Nat×Nat×DV)) (g:Nat):(find (0, .dead) s (mapV (Wu k) (FV k c') g f)).2=FV k c' (find (0, .dead) s f).2:=by
 rw[Zl _ _ _ _ rfl];cases h:Wu k (find (0,DV.dead) s f).2 with
 |true=>rfl
 |false=>exact(UI h).symm
include hc' in
theorem iC {g:Nat} :∀ {es:List G3} {fr:List (List (Nat×Nat×DV))},RF w Z B es fr->RF w Z B es (fr.map (mapV (Wu k) (FV k c') g))
 | [],[],_=>trivial
 | _:: _,_:: _,⟨h1,h2⟩=>⟨fun s=>by rw[aY];exact iB hc' (h1 s),iC h2⟩
 | [],_:: _,h=>h.elim
 | _:: _,[],h=>h.elim
include hr' in
theorem nV {g:Nat} {fr:List (List (Nat×Nat×DV))} (h:ZM n fr):ZM n (fr.map (mapV (Wu k) (FV k c') g)):=fun f hf s=>by
 obtain⟨f0,h0,rfl⟩:=List.mem_map.1 hf;rw[aY];exact aU hr' (h f0 h0 s)
include hr' in
theorem nW:∀ {d:LC},Xn n d->Xn n (aV k c' d)
 | .box _ _,h=>Zo hr' h
 | .none,_=>trivial
 | .row _ _ _,_=>trivial
 | .map _ _ _ _ _,_=>trivial
 | .rows _ _ _ _ _ _,h=>h
 | .al _,h=>h
 | .sbox _ _ _,h=>h
 | .iter _ _ _ _ _ _,h=>h
 | .mapE _ _ _ _ _ _ _,h=>h
 | .nest _ _ _ _ _ _,h=>h
 | .itM _ _ _ _ _ _ _ _,h=>h
end frz
theorem Hh {base e sz m:Nat} {v:Value} {xs:List Value} {b cap:Nat} (hown:w.ownsRow base e sz v m xs) (hv:v= .slice (some ⟨b,0,none⟩) m cap):K0 w ⟨b,0,none⟩ xs:=fun j u hj=>by
 subst hv;rcases hown.2 with⟨hh,_⟩ | ⟨g,cap',cur,hh,_,hg,_,_,_,htk⟩
 . cases hh
 . cases hh;rw[L4,Nat.zero_add];simp only[World.cell?,hg];rw[<-htk,List.getElem?_take]at hj;split at hj
   . simpa using hj
   . cases hj
theorem Bz {t:Ty} {base e:Nat} {v:Value} {l:List t.den} {xs:List Value} (hown:w.ownsRow base e t.size v l.length xs) (he:G4 (C6 t w Z) xs l) (hz:∀b,v.ownBlock=some b->Z b):C6 (.sl t) w Z [v] l:=by
 rcases hown.2 with⟨hv,hn⟩ | ⟨g,cap,cur,hv,_,hg,hc,hm,_⟩
 . have:l= []:=List.eq_nil_of_length_eq_zero hn;subst this;subst hv;exact⟨none,0,rfl,Nat.le_refl _,Nat.zero_le _,fun _=>rfl, .inl rfl⟩
 . exact⟨some ⟨g,0,none⟩,cap,by rw[hv],hc,hm,fun hh=>(by cases hh), .inr ⟨g,0,xs,rfl,hz g (by rw[hv];rfl),Hh hown hv,he⟩⟩
theorem Ri {t:Ty} {k e e':Nat} {ls:List (List t.den)} {al:List (Nat×Nat)} {ho:Option Nat} {xs:List Value} (h1:w.ownsRow 0 e 1 (B k) ls.length xs) {i b:Nat} {x:Value} (hi:Dy ho i=false) (hx:xs[i]? =some x) (hb:root x=some b):A4 w (B k) (.rows t e e' ls al ho) b:=by
 refine .inr ?_;rcases h1.2 with⟨hv,hn⟩ | ⟨g,cap,cur,hv,_,hg,hle,_,hsz,htk⟩
 . have:=h1.1;rw[hn]at this;have hxs:xs= []:=List.eq_nil_of_length_eq_zero (by omega);rw[hxs]at hx;cases hx
 . have hil:i<ls.length:=by have:=(List.getElem?_eq_some_iff.1 hx).1;have h0:=h1.1;omega
   refine⟨g,_,cap,cur,e,i,x,hv,hg,hil,hi, ?_,hb⟩;rw[<-htk,List.getElem?_take_of_lt (by omega)]at hx;simpa using hx
theorem OU {α:Type} {R:List Value->α->Prop} :∀ {l:List α} {cs:List Value},cs.length=l.length->(∀(i:Nat) (a:α) (x:Value),l[i]? =some a->cs[i]? =some x->R [x] a)->G4 R cs l
 | [],cs,h,_=>List.eq_nil_of_length_eq_zero h
 |a::l,[],h,_=>by simp at h
 |a::l,x::cs,h,hh=>⟨[x],cs,rfl,hh 0 a x rfl rfl,OU (by simpa using h) fun i a x ha hx=>hh (i+1) a x (by simpa using ha) (by simpa using hx)⟩
theorem Ua {t:Ty} {e e' i b n:Nat} {v x:Value} {ls:List (List t.den)} {al:List (Nat×Nat)} {xs:List Value} (h1:w.ownsRow 0 e 1 v n xs) (hx:xs[i]? =some x) (hb:root x=some b):A4 w v (.rows t e e' ls al none) b:=by
 refine .inr ?_;rcases h1.2 with⟨hv,hn⟩ | ⟨g,cap,cur,hv,_,hg,hle,_,hsz,htk⟩
 . have:=h1.1;rw[hn]at this;have hxs:xs= []:=List.eq_nil_of_length_eq_zero (by omega);rw[hxs]at hx;cases hx
 . have hil:i<n:=by have:=(List.getElem?_eq_some_iff.1 hx).1;have h0:=h1.1;omega
   refine⟨g,_,cap,cur,e,i,x,hv,hg,hil,rfl, ?_,hb⟩;rw[<-htk,List.getElem?_take_of_lt (by omega)]at hx;simpa using hx
theorem VL {Z':Nat->Prop} {t:Ty} {e e':Nat} {v:Value} {ls:List (List t.den)} {al:List (Nat×Nat)} (h:Bt w Z t e e' v ls) (hz:∀b,Z b->Z' b) (hf:∀b,A4 w v (.rows t e e' ls al none) b->Z' b):C6 (.sl (.sl t)) w Z' [v] ls:=by
 obtain⟨xs,h1,h3,h4,h5⟩:=h;refine Bz (t:= .sl t) h1 (OU (by have:=h1.1;omega) fun i l x hl hx=> ?_) (fun b hb=>hf b (.inl ((E5 h1).trans hb)));obtain⟨ys,g1,g2⟩:=h3 i l x hl hx;exact Bz g1 (g2.mono fun _ _=>C6.mono hz (fun _ _=>rfl)) (fun b hb=>hf b (Ua h1 hx ((E5 g1).trans hb)))
theorem cW {U Z':Nat->Prop} {t:Ty} {k e e':Nat} {ls:List (List t.den)} {al:List (Nat×Nat)} (h:RL U w Z B k (.rows t e e' ls al none)) (hz:∀b,Z b->Z' b) (hf:∀b,A4 w (B k) (.rows t e e' ls al none) b->Z' b):C6 (.sl (.sl t)) w Z' [B k] ls:=VL h.rowsR hz hf
theorem Bt.wf {t:Ty} {e e':Nat} {v:Value} {ls:List (List t.den)} (h:Bt w Z t e e' v ls):(Ty.sl (Ty.sl t)).wf ls:=C6.wf (VL (al:= []) h (Z':=fun _=>True) (fun _ _=>trivial) (fun _ _=>trivial))
theorem C0.freeze (h:C0 za w0 st E w Z B) {k:Nat} {c':C} (hn:st.nm<=k) (hcv:RC w (fun b=>Z b\/A4 w (B k) (st.L k) b) B c' (B k)) (hr':∀n,Cd n c'):C0 za w0 (st.freeze k c') E w (fun b=>Z b\/A4 w (B k) (st.L k) b) B:=by
 have h1:C0 za w0 (st.setL k .none) E w (fun b=>Z b\/A4 w (B k) (st.L k) b) B:=by
  refine(h.drop k).keep h.ext (Nat.le_refl _) (fun _ _=>rfl) (fun _=> .inl) (fun b hb=> ?_);rcases hb with hb|hb
  . exact .inl hb
  . obtain⟨g1,g2,_⟩:=(h.locs k).root hb;refine .inr ⟨g2, ?_,fun q hq=> ?_⟩
    . rcases g1 with g1|g1
      . exact g1.2
      . have:=h.nms.1;omega
    . rw[St.L_setL]at hq;by_cases hqk:q=k
      . rw[if_pos hqk]at hq;exact hq.elim
      . rw[if_neg hqk]at hq;exact h.disj q k b hqk hq hb
 have hc':∀v,v=B k->RC w (fun b=>Z b\/A4 w (B k) (st.L k) b) B c' v:=fun v hv=>by subst hv;exact hcv
 refine⟨h1.ext,h1.zlt,fun s=> ?_,fun q=> ?_,fun q q' b hne l1 l2=> ?_,fun s=> ?_,fun q=> ?_,fun q hq=> ?_,h1.bone,h1.zin,h1.nms,h1.bfix,⟨h1.mrk.1,fun q b hk hl=>h1.mrk.2 q b hk (by rw[St.L_freeze,UG, <-St.L_setL]at hl;exact hl)⟩,iC hc' h1.frs,nV (hr' _) h1.frf⟩
 . rw[St.S_freeze];exact iB hc' (h1.slots s)
 . rw[St.L_freeze, <-St.L_setL];have:=h1.locs q;cases hq:(st.setL k .none).L q with
   |box T cs=>
    rw[hq]at this;obtain⟨b,vs,e1,e2,e3,e4,e5⟩:=this;exact⟨b,vs,e1,e2,e3,e4,FU hc' e5⟩
   |none=>trivial
   |row _ _ _=>rw[hq]at this;exact this
   |map _ _ _ _ _=>rw[hq]at this;exact this
   |rows _ _ _ _ _ _=>rw[hq]at this;exact this
   |al _=>trivial
   |sbox _ _ _=>rw[hq]at this;exact this
   |iter _ _ _ _ _ _=>rw[hq]at this;exact this
   |mapE _ _ _ _ _ _ _=>rw[hq]at this;exact this
   |nest _ _ _ _ _ _=>rw[hq]at this;exact this
   |itM _ _ _ _ _ _ _ _=>rw[hq]at this;exact this
 . rw[St.L_freeze,UG, <-St.L_setL]at l1 l2;exact h1.disj q q' b hne l1 l2
 . rw[St.S_freeze];exact aU (hr' _) (h1.refs s)
 . rw[St.L_freeze, <-St.L_setL];exact nW (hr' _) (h1.refl q)
 . rw[St.L_freeze, <-St.L_setL,h1.fresh q hq];rfl
theorem YC {ka va:Bool} {kt vt:Ty} {b:Nat} {ents:Array MapEntry} {cl:Nat} {es:List (kt.den×vt.den)} (hb:w.heap[b]? =some (.map ents cl)) (hm:mJ ents cl) (he:Kj w Z ka kt va vt ents.toList es) (hz:Z b):C6 (.mp ka kt va vt) w Z [.map (some b)] es:= .inr ⟨b,ents,cl,rfl,hz,hb,hm,he⟩
def settle:St->List C->St
 |st,[]=>st
 |st, .row k::cs=>match st.L k with
  | .row t _ l=>settle (bif Nat.ble st.nm k then st.freeze k (.val (.sl t) l)else st) cs
  | .rows t _ _ ls _ none=>settle (bif Nat.ble st.nm k then st.freeze k (.val (.sl (.sl t)) ls)else st) cs
  | _=>settle st cs
 |st, .win k _ _ _::cs=>match st.L k with
  | .row t _ l=>settle (bif Nat.ble st.nm k then st.freeze k (.val (.sl t) l)else st) cs
  | _=>settle st cs
 |st, .mp k::cs=>match st.L k with
  | .map ka kt va vt es=>settle (bif Nat.ble st.nm k then st.freeze k (.val (.mp ka kt va vt) es)else st) cs
  | _=>settle st cs
 |st,_::cs=>settle st cs
theorem C0.settle (h:C0 za w0 st E w Z B):∀cs:List C,∃Z',C0 za w0 (settle st cs) E w Z' B:=by
 intro cs
 induction cs generalizing st Z with
 |nil=>exact⟨Z,h⟩
 |cons c cs ih=>
  cases c with
  |row k=>
   simp only[Vc.settle];cases hk:st.L k with
   |row t e l=>
    cases hn:Nat.ble st.nm k with
    |false=>exact ih h
    |true=>
     have hL:=h.locs k;rw[hk]at hL;obtain⟨xs,hown,heach,hnz⟩:=hL;have hro:=E5 hown;exact ih (h.freeze (Nat.le_of_ble_eq_true hn) (Bz hown (heach.mono fun _ _=>C6.mono (fun _=> .inl) (fun _ _=>rfl)) (fun b hb=> .inr (by rw[hk];exact hro.trans hb))) (fun _=>trivial))
   |rows t e e' ls al ho=>
    cases ho with
    |some _=>exact ih h
    |none=>
     cases hn:Nat.ble st.nm k with
     |false=>exact ih h
     |true=>
      have hL:=h.locs k;rw[hk]at hL;exact ih (h.freeze (Nat.le_of_ble_eq_true hn) (cW hL (fun _=> .inl) fun b hb=> .inr (by rw[hk];exact hb)) (fun _=>trivial))
   | _=>exact ih h
  |win k _ _ _=>
   simp only[Vc.settle];cases hk:st.L k with
   |row t e l=>
    cases hn:Nat.ble st.nm k with
    |false=>exact ih h
    |true=>
     have hL:=h.locs k;rw[hk]at hL;obtain⟨xs,hown,heach,hnz⟩:=hL;have hro:=E5 hown;exact ih (h.freeze (Nat.le_of_ble_eq_true hn) (Bz hown (heach.mono fun _ _=>C6.mono (fun _=> .inl) (fun _ _=>rfl)) (fun b hb=> .inr (by rw[hk];exact hro.trans hb))) (fun _=>trivial))
   | _=>exact ih h
  |mp k=>
   simp only[Vc.settle];cases hk:st.L k with
   |map ka kt va vt es=>
    cases hn:Nat.ble st.nm k with
    |false=>exact ih h
    |true=>
     have hL:=h.locs k;rw[hk]at hL;obtain⟨b,ents,cl,e,_,_,hb,hm,he⟩:=hL;exact ih (h.freeze (Nat.le_of_ble_eq_true hn) (by rw[e];exact YC hb hm (he.mono (fun _=> .inl) (fun _ _=>rfl)) (.inr (by rw[hk];rfl))) (fun _=>trivial))
   | _=>exact ih h
  | _=>exact ih h
def stillB (cx:Cx) (st:St) (k:Nat):St:=match st.L k with
 | .box T cs=>bif Nat.ble st.nm k then(match cx.ti T with
  |some ti=>match(settle st cs).L k with
   | .box _ cs'=>(match Mj ti.ty cs' with
    |some (x,[])=>((settle st cs).setL k .none).setL k (.sbox k ti.ty x)
    | _=>st)
   | _=>st
  |none=>st)else st
 | _=>st
theorem C0.stillB (h:C0 za w0 st E w Z B) (cx:Cx) (k:Nat):∃Z',C0 za w0 (stillB cx st k) E w Z' B:=by
 unfold Vc.stillB;split
 . rename_i T cs hk;cases hn:Nat.ble st.nm k with
   |false=>exact⟨Z,h⟩
   |true=>
    simp only[cond_true];split
    . rename_i ti hti;obtain⟨Z1,h1⟩:=h.settle cs;split
      . rename_i T' cs' hk';split
        . rename_i x hp;have hkn:k<(Vc.settle st cs).nx:=by
           by_cases hlt:k<(Vc.settle st cs).nx
           . exact hlt
           . rw[h1.fresh k (by omega)]at hk';cases hk'
          have hL:=h1.locs k;rw[hk']at hL;obtain⟨b,vs,e,g1,g2,g3,g4⟩:=hL;have hft:∀c,A4 w (B k) ((Vc.settle st cs).L k) c↔c=b:=fun c=>by
           rw[hk',e];simp only[A4,root,Option.some.injEq];exact eq_comm
          have h2:C0 za w0 ((Vc.settle st cs).setL k .none) E w (fun c=>Z1 c\/A4 w (B k) ((Vc.settle st cs).L k) c) B:=by
           refine(h1.drop k).keep h1.ext (Nat.le_refl _) (fun _ _=>rfl) (fun _=> .inl) (fun c hc=> ?_);rcases hc with hc|hc
           . exact .inl hc
           . obtain⟨q1,q2,_⟩:=(h1.locs k).root hc;refine .inr ⟨q2, ?_,fun q hq=> ?_⟩
             . rcases q1 with q1|q1
               . exact q1.2
               . have n1:=h1.nms.1;have n2:=h.nms.1;have:=Nat.le_of_ble_eq_true hn;omega
             . rw[St.L_setL]at hq;by_cases hqk:q=k
               . rw[if_pos hqk]at hq;exact hq.elim
               . rw[if_neg hqk]at hq;exact h1.disj q k c hqk hq hc
          have h3:=h2.addL (k:=k) (lc:= .sbox k ti.ty x) hkn ⟨rfl,⟨b,0,vs.toList,by rw[e], .inr ((hft b).2 rfl),g3.cellsAt,(Fq g4 hp).mono (fun _=> .inl) (fun _ _=>rfl)⟩,b,e⟩ (fun _ _ _ hh=>hh.elim) hkn (fun _ _ hh=>hh.elim);exact⟨_,h3⟩
        . exact⟨Z,h⟩
      . exact⟨Z,h⟩
    . exact⟨Z,h⟩
 . exact⟨Z,h⟩
def settleO (st:St) (x:Operand):St:=match st.ev [] x with
 |some s=>settle st s.cs
 |none=>st
theorem C0.settleO (h:C0 za w0 st E w Z B) (x:Operand):∃Z',C0 za w0 (settleO st x) E w Z' B:=by
 unfold Vc.settleO;split
 . exact h.settle _
 . exact⟨Z,h⟩
end
section
variable {P:Program} {all:List Oper} {E:G3} {w w':World} {next:G3->World->Prop} {d:Nat} {op:Op} {ty:TypeId} {pos:String} {aft:Array Edge} {g:Option (Nat×Bool)} {v:Value}
theorem J9 (hy:Gw.C8 P E ty op w v w') (hg:D4 all ⟨some d,op,ty,pos,aft,g⟩ E=true) (h:next (upd E d v) w'):M2 P all ⟨some d,op,ty,pos,aft,g⟩ next E w:=by
 unfold M2;rw[if_pos hg,hy];exact h
theorem jL (hy:Gw.C8 P E ty op w v w') (hg:D4 all ⟨none,op,ty,pos,aft,g⟩ E=true) (h:next E w'):M2 P all ⟨none,op,ty,pos,aft,g⟩ next E w:=by
 unfold M2;rw[if_pos hg,hy];exact h
theorem Ue (hy:Gw.EV P E ty op w w') (hg:D4 all ⟨none,op,ty,pos,aft,g⟩ E=true) (h:next E w'):M2 P all ⟨none,op,ty,pos,aft,g⟩ next E w:=by
 unfold M2;rw[if_pos hg,hy];exact h
theorem Xw {f:FuncId} {args:List Value} {Φ:Value->World->Prop} (he:Gw.WH P E ty op w f args) (hc:Gw.jW P f args w Φ) (hg:D4 all ⟨some d,op,ty,pos,aft,g⟩ E=true)
 (h:∀v w',Φ v w'->next (upd E d v) w'):M2 P all ⟨some d,op,ty,pos,aft,g⟩ next E w:=by
 unfold M2;rw[if_pos hg,he];exact Calls.mono hc fun _ _ ⟨v,he,hv⟩=>⟨v,he,h _ _ hv⟩
theorem Nc (hg:D4 all ⟨some d,op,ty,pos,aft,g⟩ E=false) (h:next (upd E d undef) w):M2 P all ⟨some d,op,ty,pos,aft,g⟩ next E w:=by
 unfold M2;rw[if_neg (by rw[hg];simp)];exact h
end
def gR:Op->Bool
 | .store _ _ _=>true
 | .mapUpdate _ _ _ _=>true
 | .insert _ _ _ _=>true
 | .next _ _=>true
 | .mapEntry _ _ _=>true
 | .entryStore _ _ _ _=>true
 | .call ⟨.builtin .append,_,_⟩=>true
 | .call ⟨.builtin .copy,_,_⟩=>true
 | .call ⟨.builtin .delete,_,_⟩=>true
 | .call ⟨.builtin .clear,_,_⟩=>true
 | _=>false
def Nx (za:Zn) (w0:World) (k:St->Prop) (E:G3) (w:World):Prop:=∃st Z B,C0 za w0 st E w Z B/\k st
def SS (za:Zn) (w0 w:World) (wr:Bool) (k:St->Prop) (E:G3) (w':World):Prop:=(wr=false->R2 w w')/\Nx za w0 k E w'
def Rt (t:Ty):Nat->List (Nat×List C)->Option (List t.den)
 | _,[]=>some []
 |i,(j,cs)::r=>bif Nat.beq i j then(match Mj t cs with
  |some (x,[])=>(Rt t (i+1) r).map (x:: ·)
  | _=>none)else none
def settleP:St->List (Nat×Operand)->St
 |st,[]=>st
 |st,(_,x)::r=>settleP (settleO st x) r
def XS (st:St) (x:Operand):Option Int:=(st.ev [] x).bind JH
def Tl:Value->Bool
 | .slice none 0 0=>true
 | _=>false
theorem Fl {v:Value} (h:Tl v=true):v= .slice none 0 0:=by
 unfold Tl at h;split at h
 . rfl
 . cases h
def OV (st:St) (t:Ty):C->Option (List t.den)
 | .val (.sl t') l=>if h:t'=t then some (h▸l)else none
 | .row k=>match st.L k with
  | .row t' _ l=>if h:t'=t then some (h▸l)else none
  | _=>none
 | .win k sz lo hi=>match st.L k with
  | .row t' _ l=>if h:t'=t then(bif Nat.beq sz t'.size then some (h▸((l.take hi.toNat).drop lo.toNat))else none)else none
  | _=>none
 | .raw v=>bif Tl v then some []else none
 | _=>none
def KD (st:St) (t:Ty) (e:TypeId):C->Option (List t.den)
 | .row k=>match st.L k with
  | .row t' e' l=>if h:t'=t then(bif Nat.beq e' e&&Nat.ble st.nm k then some (h▸l)else none)else none
  | _=>none
 | .raw v=>bif Tl v then some []else none
 | _=>none
def boxS (st:St) (d:Tmp) (T:TypeId) (cs:List C):St:=(st.newL (.box T cs)).setS d (one1 (.box st.nx 0))
def rowS (st:St) (d:Tmp) (t:Ty) (e:TypeId) (l:List t.den):St:=(st.newL (.row t e l)).setS d (one1 (.row st.nx))
def A5j (st:St) (d:Tmp) (ka:Bool) (kt:Ty) (va:Bool) (vt:Ty):St:=(st.newL (.map ka kt va vt [])).setS d (one1 (.mp st.nx))
def VM (st:St) (d:Tmp) (t:Ty) (e e':TypeId) (ls:List (List t.den)):St:=(st.newL (.rows t e e' ls [] none)).setS d (one1 (.row st.nx))
def PW (cx:Cx) (st:St) (d:Tmp) (ti:TI) (n:Nat):Option St:=match ti.ty with
 | .sl (.sl t)=>(cx.ti ti.elem).map fun t2=>VM st d t ti.elem t2.elem (List.replicate n [])
 | _=>none
def A0i (ka:Bool) (kt:Ty) (va:Bool) (vt:Ty):C->Option (List (kt.den×vt.den))
 | .val t es=>if h:t=Ty.mp ka kt va vt then some (h▸es:(Ty.mp ka kt va vt).den)else none
 | .raw (.map none)=>some []
 | _=>none
def mW (st:St) (d:Tmp) (k:Nat) (t:Ty) (e e':TypeId) (ls:List (List t.den)) (al:List (Nat×Nat)) (i:Nat):St:=((st.newL (.al k)).setL k (.rows t e e' ls ((i,st.nx)::al) none)).setS d (one1 (.row st.nx))
def dropR (st:St):C->St
 | .row k=>st.setL k .none
 | _=>st
def DR (c:C):C->Bool
 | .win k _ _ _=>match c with
  | .row j=> !(Nat.beq j k)
  | _=>true
 | .row k=>match c with
  | .row j=> !(Nat.beq j k)
  | _=>true
 | _=>true
def slT:Ty->Option Ty
 | .sl t=>some t
 | _=>none
def A4e (cx:Cx) (st:St) (d:Tmp) (T:TypeId) (x y:Operand):Option (Option Prop×St):=do
 let ti<-cx.ti T
 let t<-slT ti.ty
 let a<-(st.ev [] x).bind c1
 let b<-(st.ev [] y).bind c1
 let l<-KD st t ti.elem a
 let ys<-OV st t b
 bif DR a b&&Nat.ble 1 t.size then some (some ((l.length+ys.length)*ti.bytes<=140737488355328/\l.length+ys.length<=9223372036854775807),rowS (dropR st a) d t ti.elem (l++ys))else none
def Oo {α:Type} (l ys:List α):List α:=ys.take l.length++l.drop ys.length
def aI (cx:Cx) (st:St) (d:Tmp) (T:TypeId) (x y:Operand):Option St:=do
 let ti<-cx.ti T
 let t<-slT ti.ty
 let a<-(st.ev [] x).bind c1
 let b<-(st.ev [] y).bind c1
 let ys<-OV st t b
 match a with
 | .row k=>match st.L k with
  | .row t' e l=>if h:t'=t then(bif DR (.row k) b then some ((st.setL k (.row t' e (Oo l (h▸ys)))).setS d (one1 (.val (.int .i64) (min (ys.length:Int) (l.length:Int)))))else none)else none
  | _=>none
 | _=>none
def UR (cx:Cx) (st:St) (d:Tmp) (T:TypeId) (x:Operand):Option St:=do
 let ti<-cx.ti T
 let c<-(st.ev [] x).bind c1
 match c with
 | .elp k sz i off=>match st.L k with
  | .rows t e e' ls al none=>bif Nat.beq sz 1&&Nat.beq off 0&& !ti.agg then some (mW st d k t e e' ls al i)else none
  | _=>none
 | _=>none
def A1m (st:St):C->St
 | .row q=>match st.L q with
  | .al k=>match st.L k with
   | .rows t e e' ls al none=>match CB q al with
    |some i=>bif Nat.ble st.nm k&&Nat.ble st.nm q then(st.setL k (.rows t e e' ls [] (some i))).setL q (.row t e' (ls.getD i []))else st
    |none=>st
   | _=>st
  | _=>st
 | _=>st
def detO (st:St) (x:Operand):St:=match(st.ev [] x).bind c1 with
 |some c=>A1m st c
 |none=>st
def nL (cx:Cx) (st:St) (d:Tmp):Op->Option (Option Prop×St)
 | .box T x=>do
  let s<-st.ev [] x
  bif s.cs.all Eu then some (none,boxS st d T s.cs)else none
 | .alloc T=>do
  let ti<-cx.ti T
  some (none,boxS st d T (Ze ti.ty))
 | .buildSlice T len parts=>do
  let ti<-cx.ti T
  let t<-slT ti.ty
  let st1:=settleP st parts.toList
  let ps<-Kp st1 [] parts.toList
  let xs<-Rt t 0 ps
  bif Nat.beq xs.length len&&Nat.ble (len*t.size) 16777216&&Nat.ble 1 t.size then some (none,rowS st1 d t ti.elem xs)else none
 | .makeSlice T lo co=>do
  let ti<-cx.ti T
  let t<-slT ti.ty
  let l<-XS st lo
  let c<-XS st co
  bif ti.rows then(PW cx st d ti l.toNat).map fun st'=>(some (0<=l/\l<=c/\(ti.bytes:Int)*c<=281474976710656/\c<=9223372036854775807),st')
  else bif Mb t then some (some (0<=l/\l<=c/\(ti.bytes:Int)*c<=281474976710656/\c<=9223372036854775807),rowS st d t ti.elem (List.replicate l.toNat t.dflt))else none
 | .call ⟨.builtin .append,args,ts⟩=>match args.toList,ts.toList with
  | [x,y],[T,T']=>bif Nat.beq T T' then A4e cx (detO st x) d T x y else none
  | _,_=>none
 | .makeMap T r=>do
  let ti<-cx.ti T
  match ti.ty,r with
  | .mp ka kt va vt,none=>some (none,A5j st d ka kt va vt)
  | .mp ka kt va vt,some o=>(XS st o).map fun _=>(none,A5j st d ka kt va vt)
  | _,_=>none
 | .call ⟨.builtin .len,args,ts⟩=>match args.toList,ts.toList with
  | [x],[T]=>do
   let ti<-cx.ti T
   match ti.ty with
   | .mp ka kt va vt=>do
    let c<-(st.ev [] x).bind c1
    let es<-A2e st ka kt va vt c
    some (some (es.length<=9223372036854775807),st.setS d (one1 (.val (.int .i64) (es.length:Int))))
   | _=>none
  | _,_=>none
 | .load T x=>(UR cx st d T x).map fun st'=>(none,st')
 | .range T x=>do
  let ti<-cx.ti T
  match ti.ty with
  | .mp ka kt va vt=>do
   let c<-((settleO st x).ev [] x).bind c1
   let es<-A0i ka kt va vt c
   some (none,((settleO st x).newL (.iter ka kt va vt es none)).setS d (one1 (.box (settleO st x).nx 0)))
  | _=>none
 | .entry x=>do
  let c<-(st.ev [] x).bind c1
  match c with
  | .box k off=>match st.L k with
   | .iter ka kt va vt _ (some y)=>bif Nat.beq off 0 then some (none,st.setS d (.tup [⟨ka,explode kt y.1⟩,⟨va,explode vt y.2⟩]))else none
   | _=>none
  | _=>none
 | .call ⟨.builtin .copy,args,ts⟩=>match args.toList,ts.toList with
  | [x,y],[T,_]=>(aI cx st d T x y).map fun st'=>(none,st')
  | _,_=>none
 | _=>none
section
variable {za:Zn} {w0 w w':World} {Z Z':Nat->Prop} {B:Nat->Value} {st st':St} {E:G3} {cx:Cx} {φ:Option Prop} {d:Tmp}
theorem O8.len {κ ν:Type} {Rk:Value->κ->Prop} {Rv:Value->ν->Prop} :∀ {l:List (κ×ν)} {es:List MapEntry},O8 Rk Rv es l->es.length=l.length
 | [],_,h=>by rw[show _= _ from h];rfl
 | _:: _,_,⟨e,es',he,_,_,h3⟩=>by rw[he,List.length_cons,List.length_cons,O8.len h3]
theorem Dj (h:C0 za w0 st E w Z B) {k:Nat} (hl:live (st.L k)):k<st.nx:=by
 by_cases hlt:k<st.nx
 . exact hlt
 . rw[h.fresh k (by omega)]at hl;exact hl.elim
theorem Mi {base base' e sz n:Nat} {v:Value} {xs:List Value} (h:w.ownsRow base e sz v n xs) (hb:base'<=base):w.ownsRow base' e sz v n xs:=by
 refine⟨h.1, ?_⟩;rcases h.2 with h| ⟨g,cap,cur,h1,h2,h3⟩
 . exact .inl h
 . exact .inr ⟨g,cap,cur,h1,Nat.le_trans hb h2,h3⟩
theorem YP {base base' e sz n:Nat} {v:Value} {xs:List Value} (h:w.ownsRow base e sz v n xs) (hb:∀b,v.ownBlock=some b->base'<=b):w.ownsRow base' e sz v n xs:=by
 refine⟨h.1, ?_⟩;rcases h.2 with h| ⟨g,cap,cur,h1,h2,h3⟩
 . exact .inl h
 . exact .inr ⟨g,cap,cur,h1,hb g (by rw[h1];rfl),h3⟩
theorem C0.newBox (h:C0 za w0 st E w Z B) (d:Tmp) {T:TypeId} {cs:List C} {vs:Array Value} (hcs:Cf w Z B cs vs.toList) (hr:∀c∈cs,Cd st.nx c):
 ∃B',C0 za w0 (boxS st d T cs) (upd E d (.pointer (some ⟨w.heap.size,0,none⟩))) (w.alloc (.cells vs T)) Z B':=by
 have hx:R2 w (w.alloc (.cells vs T)):=R2.alloc w _;have h1:=h.more (Z':=Z) hx (fun _=>id) (fun _=> .inl);have hZ:∀b,Z b->b<w.heap.size:=h.zlt;have hs:N5 Z w (w.alloc (.cells vs T)):=fun b hb=>hx.block b (hZ b hb)
 have h2:=h1.new (v:= .pointer (some ⟨w.heap.size,0,none⟩)) (lc:= .box T cs) ⟨w.heap.size,vs,A9 _ _ _, .inl ⟨h.nms.2,h.ext.size⟩,fun hz=>absurd (hZ _ hz) (Nat.lt_irrefl _),Df w vs T,
  Cf.mono (n:=st.nx) (fun _=>id) hs (fun k hk=>C1 _ _ _ _ (Nat.ne_of_lt hk)) hr hcs⟩
  (fun k b hb hb'=>by
   simp only[A4,root,Option.some.injEq]at hb;have:=((h.locs k).root (h.ft hx hb')).2.1;omega)
  (fun c hc=>(hr c hc).le (Nat.le_succ _)) rfl (fun b _ hb=>by simp only[A4,root,Option.some.injEq]at hb;have:=h.mrk.1;omega)
 refine⟨_,h2.setS d (x:=one1 (.box st.nx 0)) ⟨_,[],rfl,⟨w.heap.size,A9 _ _ _,rfl⟩,rfl⟩ (fun c hc=> ?_)⟩;simp at hc;subst hc;exact Nat.lt_succ_self _
theorem C0.newRowE (h:C0 za w0 st E w' Z B) (d:Tmp) {t:Ty} {e:TypeId} {l:List t.den} {v:Value} {xs:List Value} (hown:w'.ownsRow w0.heap.size e t.size v l.length xs) (heach:G4 (C6 t w' Z) xs l) (hn:∀b,v.ownBlock=some b->¬Z b/\∀k,¬A4 w' (B k) (st.L k) b) (hmk:∀b,za.k0<=st.nx->v.ownBlock=some b->za.b0<=b):
 C0 za w0 (rowS st d t e l) (upd E d v) w' Z (upd B st.nx v):=by
 have hro:=E5 hown;have hv1:v.oneCell'=true:=by rcases hown.2 with⟨hv,_⟩ | ⟨_,_,_,hv,_⟩<;>rw[hv]<;>rfl
 have h2:=h.new (v:=v) (lc:= .row t e l) ⟨xs,by rw[A9];exact Mi hown (Nat.zero_le _),heach,fun b hb=>by rw[A9]at hb;exact⟨.inl ⟨h.nms.2,(World.ownsRow.lt hown b hb).1⟩,(hn b hb).1⟩⟩
  (fun k b hb hb'=>(hn b (hro.symm.trans hb)).2 k hb') trivial hv1 (fun b hk hb=>hmk b hk (hro.symm.trans hb))
 refine h2.setS d (x:=one1 (.row st.nx)) ⟨_,[],rfl,(A9 _ _ _).symm,rfl⟩ (fun c hc=> ?_);simp at hc;subst hc;exact Nat.lt_succ_self _
theorem C0.newRow (h:C0 za w0 st E w' Z B) (d:Tmp) {t:Ty} {e:TypeId} {l:List t.den} {v:Value} {xs:List Value} (hown:w'.ownsRow w0.heap.size e t.size v l.length xs) (heach:G4 (C6 t w' Z) xs l) (hn:∀b,v.ownBlock=some b->¬Z b/\∀k,¬A4 w' (B k) (st.L k) b) (hmk:∀b,za.k0<=st.nx->v.ownBlock=some b->za.b0<=b):
 ∃B',C0 za w0 (rowS st d t e l) (upd E d v) w' Z B':=⟨_,h.newRowE d hown heach hn hmk⟩
theorem Rs {base base' e e' sz n:Nat} {v:Value} {xs xs':List Value} (h:w.ownsRow base e sz v n xs) (h':w.ownsRow base' e' sz v n xs'):xs=xs':=by
 rcases h.2 with⟨hv,hn⟩ | ⟨g,cap,cur,hv,_,hg,_,_,_,ht⟩
 . have h1:=h.1;have h2:=h'.1;rw[hn,Nat.zero_mul]at h1 h2;rw[List.eq_nil_of_length_eq_zero h1,List.eq_nil_of_length_eq_zero h2]
 . rcases h'.2 with⟨hv',_⟩ | ⟨g',cap',cur',hv',_,hg',_,_,_,ht'⟩
   . rw[hv]at hv';cases hv'
   . rw[hv]at hv';cases hv';rw[hg]at hg';cases hg';rw[<-ht, <-ht']
theorem C0.newRows (h:C0 za w0 st E w' Z B) (d:Tmp) (t:Ty) {e:TypeId} (e':TypeId) {n:Nat} {v:Value} {xs:List Value} (hown:w'.ownsRow w0.heap.size e 1 v n xs) (hxs:∀x∈xs,x= .slice none 0 0) (hn:∀b,v.ownBlock=some b->¬Z b/\∀k,¬A4 w' (B k) (st.L k) b) (hmk:∀b,za.k0<=st.nx->v.ownBlock=some b->za.b0<=b):
 ∃B',C0 za w0 (VM st d t e e' (List.replicate n [])) (upd E d v) w' Z B':=by
 have hro:=E5 hown;have hv1:v.oneCell'=true:=by rcases hown.2 with⟨hv,_⟩ | ⟨_,_,_,hv,_⟩<;>rw[hv]<;>rfl
 have hxs':∀(i:Nat) (x:Value),xs[i]? =some x->x= .slice none 0 0:=fun i x hx=>hxs x (List.mem_of_getElem? hx)
 have hft:∀b,A4 w' v (.rows t e e' (List.replicate n []) [] none) b->v.ownBlock=some b:=fun b hb=>by
  rcases hb with hb| ⟨g,m,cap,cur,e1,i,x,hv,hg,hi,_,hx,hb⟩
  . exact hro.symm.trans hb
  . exfalso;rcases hown.2 with⟨hv',_⟩ | ⟨g',cap',cur',hv',_,hg',hle,_,hsz,htk⟩
    . rw[hv]at hv';cases hv'
    . rw[hv]at hv';cases hv';rw[hg]at hg';cases hg';have:xs[i]? =some x:=by rw[<-htk,List.getElem?_take_of_lt (by omega)];simpa using hx
      rw[hxs' i x this]at hb;simp[root]at hb
 have h2:=h.new (v:=v) (lc:= .rows t e e' (List.replicate n []) [] none) ⟨xs,by rw[A9,List.length_replicate];exact Mi hown (Nat.zero_le _),⟨fun p hp=>(by cases hp),fun i l x _ hl hx=>⟨[], ?_, ?_⟩,fun i j x y b _ _ _ hx _ hb=> ?_⟩,fun i x b _ hx hb=> ?_,fun b hb=> ?_⟩
  (fun k b hb hb'=>(hn b (hft b hb)).2 k hb') (fun p hp=>by cases hp) hv1 (fun b hk hb=>hmk b hk (hft b hb))
 . refine⟨_,h2.setS d (x:=one1 (.row st.nx)) ⟨_,[],rfl,(A9 _ _ _).symm,rfl⟩ (fun c hc=> ?_)⟩;simp at hc;subst hc;exact Nat.lt_succ_self _
 . have:=(List.mem_replicate.1 (List.mem_of_getElem? hl)).2;subst this;exact⟨by simp, .inl ⟨hxs' i x hx,rfl⟩⟩
 . have:=(List.mem_replicate.1 (List.mem_of_getElem? hl)).2;subst this;rfl
 . rw[hxs' i x hx]at hb;simp[root]at hb
 . rw[hxs' i x hx]at hb;simp[root]at hb
 . rw[A9]at hb;have hb:=hft b hb;have:=World.ownsRow.lt hown b hb;exact⟨.inl ⟨h.nms.2,this.1⟩,(hn b hb).1,this.2⟩
theorem C0.aliasL (h:C0 za w0 st E w Z B) {k:Nat} {t:Ty} {e e':TypeId} {ls:List (List t.den)} {al:List (Nat×Nat)} {i:Nat} {v:Value} {xs:List Value} (hk:st.L k= .rows t e e' ls al none) (hown:w.ownsRow 0 e 1 (B k) ls.length xs) (hx:AtV xs i v) (hv1:v.oneCell'=true):
 C0 za w0 ((st.newL (.al k)).setL k (.rows t e e' ls ((i,st.nx)::al) none)) E w Z (upd B st.nx v):=by
 have hkn:k<st.nx:=Dj h (by rw[hk];trivial);have h2:=h.new (v:=v) (lc:= .al k) trivial (fun _ _ hb=>hb.elim) trivial hv1 (fun _ _ hb=>hb.elim);have hk2:(st.newL (.al k)).L k= .rows t e e' ls al none:=by rw[St.L_newL,if_neg (Nat.ne_of_lt hkn),hk]
 have hL:=h2.locs k;have hR:=h2.refl k;rw[hk2]at hL hR;have hBk:(upd B st.nx v) k=B k:=C1 _ _ _ _ (Nat.ne_of_lt hkn);obtain⟨xs',h1,⟨g2,g3,g4⟩,h5,h6⟩:=hL;have hxx:xs=xs':=Rs hown (by rw[<-hBk];exact h1);subst hxx;refine h2.relc (k:=k) (lc:= .rows t e e' ls ((i,st.nx)::al) none) (by rw[hk2];trivial) ⟨xs,h1,⟨fun p hp=> ?_,g3,g4⟩,h5,h6⟩ (fun p hp=> ?_) (fun b hb=> .inr (by rw[hk2];exact hb))
 . rcases List.mem_cons.1 hp with rfl|hp
   . simp only[A9];exact hx
   . exact g2 p hp
 . rcases List.mem_cons.1 hp with rfl|hp
   . exact Nat.lt_succ_self _
   . exact hR p hp
theorem C0.alias (h:C0 za w0 st E w Z B) (d:Tmp) {k:Nat} {t:Ty} {e e':TypeId} {ls:List (List t.den)} {al:List (Nat×Nat)} {i:Nat} {v:Value} {xs:List Value} (hk:st.L k= .rows t e e' ls al none) (hown:w.ownsRow 0 e 1 (B k) ls.length xs) (hx:xs[i]? =some v) (hv1:v.oneCell'=true):
 ∃B',C0 za w0 (mW st d k t e e' ls al i) (upd E d v) w Z B':=by
 refine⟨_,(h.aliasL hk hown (.inl hx) hv1).setS d (x:=one1 (.row st.nx)) ⟨_,[],rfl,(A9 _ _ _).symm,rfl⟩ (fun c hc=> ?_)⟩;simp at hc;subst hc;exact Nat.lt_succ_self _
theorem C0.newMap (h:C0 za w0 st E w Z B) (d:Tmp) (ka:Bool) (kt:Ty) (va:Bool) (vt:Ty):
 ∃B',C0 za w0 (A5j st d ka kt va vt) (upd E d (.map (some w.heap.size))) (w.alloc (.map #[] 0)) Z B':=by
 have hx:R2 w (w.alloc (.map #[] 0)):=R2.alloc w _;have h1:=h.more (Z':=Z) hx (fun _=>id) (fun _=> .inl);have hZ:∀b,Z b->b<w.heap.size:=h.zlt;have h2:=h1.new (v:= .map (some w.heap.size)) (lc:= .map ka kt va vt []) ⟨w.heap.size, #[],0,A9 _ _ _, .inl ⟨h.nms.2,h.ext.size⟩,fun hz=>absurd (hZ _ hz) (Nat.lt_irrefl _),heap_alloc_new w _,⟨by simp,by simp⟩,rfl⟩
  (fun k b hb hb'=>by
   simp only[A4,root,Option.some.injEq]at hb;have:=((h.locs k).root (h.ft hx hb')).2.1;omega)
  trivial rfl (fun b _ hb=>by simp only[A4,root,Option.some.injEq]at hb;have:=h.mrk.1;omega)
 refine⟨_,h2.setS d (x:=one1 (.mp st.nx)) ⟨_,[],rfl,(A9 _ _ _).symm,rfl⟩ (fun c hc=> ?_)⟩;simp at hc;subst hc;exact Nat.lt_succ_self _
theorem Tv {t:Ty} :∀ {i:Nat} {ps:List (Nat×List C)} {vals:List (Nat×Value)} {xs:List t.den},gV w Z B ps vals->Rt t i ps=some xs->vals=((vals.map (·.2)).zipIdx i).map (fun x=>(x.2,x.1))/\(∀v∈vals.map (·.2),v.cells.size=t.size)/\xs.length=vals.length/\G4 (C6 t w Z) ((vals.map (·.2)).flatMap (·.cells.toList)) xs
 |i,[],vals,xs,h,hp=>by cases hp;rw[show vals= []from h];exact⟨rfl,by simp,rfl,rfl⟩
 |i,(j,cs)::r,vals,xs,⟨v,vs',e,h1,h2⟩,hp=>by
  simp only[Rt]at hp;cases hb:Nat.beq i j with
  |false=>simp[hb]at hp
  |true=>
   have hij:=Nat.eq_of_beq_eq_true hb;subst hij;simp only[hb,cond_true]at hp;split at hp
   . rename_i x hx;simp only[Option.map_eq_some_iff]at hp;obtain⟨xs',hx',rfl⟩:=hp;obtain⟨g1,g2,g3,g4⟩:=Tv h2 hx';have hrep:=Fq h1 hx;subst e;refine⟨?_, ?_,by simp[g3],⟨v.cells.toList,_,by simp,hrep,g4⟩⟩
     . simp only[List.map_cons,List.zipIdx_cons];rw[<-g1]
     . intro u hu;simp only[List.map_cons,List.mem_cons]at hu;rcases hu with rfl|hu
       . have:=C6.length hrep;simpa using this
       . exact g2 u (by simpa using hu)
   . cases hp
theorem C0.settleP (h:C0 za w0 st E w Z B):∀ps:List (Nat×Operand),∃Z',C0 za w0 (settleP st ps) E w Z' B:=by
 intro ps
 induction ps generalizing st Z with
 |nil=>exact⟨Z,h⟩
 |cons x ps ih=>
  obtain⟨Z1,h1⟩:=h.settleO x.2;exact ih h1
theorem Hu {P:Program} {T e ty:TypeId} {sz len:Nat} {parts:List (Nat×Operand)} {z:Value} (vs:List Value) (ht:Aq P T e sz=true) (hz:Dc P e=some z) (hlen:len*sz<=16777216) (hsz:1<=sz) (hzs:z.cells.size=sz)
 (hp:(parts.map fun x=>(x.1,Gw.ev E x.2))=(vs.zipIdx 0).map fun x=>(x.2,x.1)) (hv:∀v∈vs,v.cells.size=sz) (hl:vs.length=len):
 ∃cs:Array Value,cs.toList=vs.flatMap (·.cells.toList)/\Gw.C8 P E ty (.buildSlice T len parts.toArray) w (.slice (some ⟨w.heap.size,0,none⟩) len len) (w.alloc (.cells cs e)):=by
 by_cases h0:len=0
 . subst h0;have:vs= []:=List.eq_nil_of_length_eq_zero hl;subst this;refine⟨#[],rfl,fun _ _ _ _=> ?_⟩;obtain⟨hu,hs⟩:=Iu ht;have h3:=Gw.Co (P:=P) (w:=w) hs;have hp':parts= []:=by simpa using hp
   subst hp';simp only[execOp];unfold Instr.buildSlice;have h0:Array.range 0= #[]:=by apply Array.ext<;>simp
   simp[run_underlying hu,h3,Instr.fill,newRow,h0]
 . obtain⟨r,hr,hrl,hrs⟩:=aR sz vs 0 ((Array.range (len*sz)).map (z.cells[· %z.cells.size]!)) hv (by simp[hl]);refine⟨r,by rw[hrl];simp[hl], ?_⟩;have hne:len*sz≠0:=by
    have:1<=len:=by omega
    have:=Nat.mul_le_mul this hsz;omega
   exact ZF r ht hz hlen (by rw[hp];exact hr) hne
theorem CY {P:Program} {base:Nat} {t ty e:TypeId} {i:TypeInfo} {z:Value} {size:Nat} (ht:P.underlying t=some (.slice e)) (hi:P.info? e=some i) (hz:i.zero=some z) (hsize:i.size=size) (hzs:z.cells.size=size) (hsz:0<size)
 {v:Value} {n:Nat} {xs:List Value} (hown:w.ownsRow base e size v n xs) {ao:Option Addr} {m c:Nat} {news:List Value} (hl:news.length=m*size) (hnews:∀a,ao=some a->K0 w a news) (hno:ao=none->m=0/\c=0) (h1:∀u∈news,u.oneCell'=true)
 (h63:n+m<=9223372036854775807) (hbytes:(n+m)*i.bytes<=140737488355328) (hbase:base<=w.heap.size):
 ∃v' w',(Builtin.append_ #[t,t] ty #[v, .slice ao m c]).run P w= .ok v' w'/\w'.ownsRow base e size v' (n+m) (xs++news)/\w.grownBy w' v.ownBlock/\(v'.ownBlock=v.ownBlock\/v'.ownBlock=some w.heap.size)/\w.drawn<=w'.drawn:=by
 cases ao with
 |none=>
  obtain⟨rfl,rfl⟩:=hno rfl;have hnil:news= []:=List.eq_nil_of_length_eq_zero (by simpa using hl);subst hnil;refine⟨v,w,run_append_owned_none (P:=P) w base t ty e i size ht hi v n xs hown,by simpa using hown,⟨rfl,rfl,rfl,Nat.le_refl _,fun _ _ _=>rfl⟩, .inl rfl,Nat.le_refl _⟩
 |some a=>
  by_cases hm0:m=0
  . subst hm0;have hnil:news= []:=List.eq_nil_of_length_eq_zero (by simpa using hl);subst hnil;have hrun:(Builtin.append_ #[t,t] ty #[v, .slice (some a) 0 c]).run P w= .ok v w:=by
     have hl0:(loadCells a 0).run P w= .ok #[] w:=by simpa using run_loadCells_list (P:=P) w a [] (by simp)
     rcases hown.2 with⟨rfl,rfl⟩ | ⟨g,cap,cur,rfl,_,_,hnc,_⟩
     . simp[Builtin.append_,run_underlying ht,sizeOf,typeInfo,hi,Builtin.lenOf,Builtin.firstCells,hl0]
     . simp[Builtin.append_,run_underlying ht,sizeOf,typeInfo,hi,Builtin.lenOf,Builtin.firstCells,hnc,storeCells,hl0]
    exact⟨v,w,hrun,by simpa using hown,⟨rfl,rfl,rfl,Nat.le_refl _,fun _ _ _=>rfl⟩, .inl rfl,Nat.le_refl _⟩
  . have hmax:n+m<=maxLen:=by simp only[maxLen];omega
    have hn':=hnews a rfl;obtain⟨v',w1,hrun,hown',hgr,_⟩:=run_append_own (P:=P) w base t ty e i z size i.bytes ht hi hz hsize rfl hzs hsz v n xs hown a m c news hl hn' h1 hmax hbytes hbase;refine⟨v',w1,hrun,hown',hgr, ?_⟩;subst hsize;rcases hown.2 with⟨rfl,rfl⟩ | ⟨gb,cap,cur,rfl,_,hcur,hnc,_,hcs,_⟩
    . have h48:m*i.bytes<=281474976710656:=by simp only[Nat.zero_add]at hbytes;omega
      have hr:=run_append_nil (P:=P) w t ty e i z ht hi hz a m c news hl hn' (by omega) (by omega) h48;rw[hr]at hrun;cases hrun;exact⟨.inr rfl,by simp[World.drawn_alloc,World.drawn_drew]<;>omega⟩
    . by_cases hroom:n+m<=cap
      . have hfit:n*i.size+news.length<=cur.size:=by rw[hl,hcs, <-Nat.add_mul];exact Nat.mul_le_mul_right _ hroom
        have hr:=run_append_room (P:=P) w t ty e i ht hi gb n cap cur hcur a m c news hl hn' h1 hroom hfit;rw[hr]at hrun;cases hrun;exact⟨.inl rfl,by simp<;>omega⟩
      . have holds:∀j u,xs[j]? =some u->w.cell? ((⟨gb,0,none⟩:Addr).add j)=some u:=hown.cells (g:=gb) rfl;have hr:=run_append_grow (P:=P) w t ty e i z ht hi hz ⟨gb,0,none⟩ n cap xs hown.1 holds a m c news hl hn' (by omega) (by omega) (growslice_fits (by omega) hbytes);rw[hr]at hrun;cases hrun;exact⟨.inr rfl,by simp[World.drawn_alloc,World.drawn_drew]<;>omega⟩
theorem OX (h:C0 za w0 st E w Z B) {t:Ty} {c:C} {l:List t.den} {v:Value} (hc:RC w Z B c v) (he:OV st t c=some l):
 ∃ao cap ec,v= .slice ao l.length cap/\l.length<=cap/\(ao=none->cap=0)/\(∀a,ao=some a->K0 w a ec)/\G4 (C6 t w Z) ec l:=by
 unfold OV at he;split at he
 . rename_i t' l';split at he
   . rename_i heq;subst heq;cases he;obtain⟨a,cap,e1,hlc,_,hn,hh⟩:=hc;simp only[List.cons.injEq,and_true]at e1;rcases hh with hh| ⟨b,o,ec,ha,hz,hcells,heach⟩
     . subst hh;exact⟨a,cap,[],e1,hlc,hn,fun _ _ j u hj=>by simp at hj,rfl⟩
     . subst ha;exact⟨_,cap,ec,e1,hlc,hn,fun a ha=>by cases ha;exact hcells,heach⟩
   . cases he
 . rename_i k;split at he
   . rename_i t' e' l' hk;split at he
     . rename_i heq;subst heq;cases he;have hL:=h.locs k;rw[hk]at hL;obtain⟨xs,hown,heach,_⟩:=hL;have hc:v=B k:=hc;rcases hown.2 with⟨hv,hn⟩ | ⟨g,cap,cur,hv,_,_,hnc,_⟩
       . have:l'= []:=List.eq_nil_of_length_eq_zero hn;subst this;exact⟨none,0,[],by rw[hc,hv];rfl,Nat.le_refl _,fun _=>rfl,fun a ha=>(by cases ha),rfl⟩
       . exact⟨some ⟨g,0,none⟩,cap,xs,by rw[hc,hv],hnc,fun hh=>(by cases hh),fun a ha=>by cases ha;exact Hh hown hv,heach⟩
     . cases he
   . cases he
 . rename_i k sz lo hi;split at he
   . rename_i t' e' l' hk;split at he
     . rename_i heq;subst heq;cases hs:Nat.beq sz t'.size with
       |false=>simp only[hs,cond_false]at he;cases he
       |true=>
        simp only[hs,cond_true]at he;cases he;have:=Nat.eq_of_beq_eq_true hs;subst this;have hL:=h.locs k;rw[hk]at hL;obtain⟨xs,hown,heach,_⟩:=hL;obtain⟨a,n,cap,hB,ga,gn,g0,g1,g2,g3,g4,hv⟩:=hc;have hn:n=l'.length:=by
         rcases hown.2 with⟨hh,h0⟩ | ⟨_,_,_,hh,_⟩<;>rw[hB]at hh<;>cases hh
         . exact h0.symm
         . rfl
        subst hn;have hl2:((l'.take hi.toNat).drop lo.toNat).length=hi.toNat-lo.toNat:=by simp;omega
        refine⟨_,_,(xs.take (hi.toNat*t'.size)).drop (lo.toNat*t'.size),by rw[hv,hl2],by rw[hl2];omega,fun hz=> ?_,fun a' ha'=> ?_,G4.drop (fun _ _ h=>C6.length h) lo.toNat (G4.take (fun _ _ h=>C6.length h) hi.toNat heach)⟩
        . split at hz
          . omega
          . have:=gn (by simpa using hz);omega
        . by_cases hcl:cap=lo.toNat
          . intro j u hj;have hj':=BV hj;rw[List.length_drop,List.length_take]at hj';have h1:xs.length=l'.length*t'.size:=hown.1;have h2:lo.toNat=hi.toNat:=by omega
            rw[h2]at hj';omega
          . rw[if_neg hcl]at ha';cases a with
            |none=>cases ha'
            |some x=>
             obtain⟨g,rfl⟩:=ga x rfl;cases ha';show K0 w ((⟨g,0,none⟩:Addr).add (lo.toNat*t'.size)) _;rw[L4,Nat.zero_add];have hx1:=M8 (Hh hown hB) 0 (hi.toNat*t'.size);rw[List.drop_zero,Nat.add_zero]at hx1;have hx2:=M8 hx1 (lo.toNat*t'.size) ((xs.take (hi.toNat*t'.size)).drop (lo.toNat*t'.size)).length;rw[List.take_length,Nat.zero_add]at hx2;exact hx2
     . cases he
   . cases he
 . rename_i v0;cases hn:Tl v0 with
   |false=>simp[hn]at he
   |true=>
    simp[hn]at he;subst he;exact⟨none,0,[],by rw[hc.1,Fl hn];rfl,Nat.le_refl _,fun _=>rfl,fun a ha=>(by cases ha),rfl⟩
 . cases he
theorem Es {P:Program} {T:TypeId} {ti:TI} {t:Ty} (h:Ui P T ti=true) (ht:ti.ty= .sl t):∃i z,P.underlying T=some (.slice ti.elem)/\P.info? ti.elem=some i/\i.zero=some z/\i.size=t.size/\z.cells.toList=Dw t/\z.cells.size=t.size/\i.bytes=ti.bytes/\Aq P T ti.elem t.size=true:=by
 obtain⟨h1,h2,i,hi,hb⟩:=AB h ht;obtain⟨hu,hs⟩:=Iu h1;obtain⟨z,hz,hzc⟩:=Db h2;unfold Dc at hz;unfold Na at hs;simp only[hi,Option.bind_some]at hz;simp only[hi,beq_iff_eq]at hs;have hsz:(Dw t).length=t.size:=by
  clear hzc hs h1 h2 ht
  induction t with
  |pair a b iha ihb=>simp[Dw,Ty.size,iha,ihb]
  | _=>rfl
 exact⟨i,z,hu,hi,hz,hs,hzc,by rw[<-Array.length_toList,hzc,hsz],hb,h1⟩
theorem Fu {ty t:Ty} (h:slT ty=some t):ty= .sl t:=by
 unfold slT at h;split at h
 . cases h;rfl
 . cases h
variable {all:List Oper} {ty:TypeId} {pos:String} {aft:Array Edge} {g:Option (Nat×Bool)} {k:St->Prop}
theorem D5 (E:G3):P6 E []:=fun _ _ h=>by cases h
theorem G4.of_index {α:Type} {R:List Value->α->Prop} {s:Nat} :∀ {l:List α} {cs:List Value},cs.length=l.length*s->(∀(i:Nat) (x:α),l[i]? =some x->R ((cs.drop (i*s)).take s) x)->G4 R cs l
 | [],cs,hl,_=>List.eq_nil_of_length_eq_zero (by simpa using hl)
 |x::l,cs,hl,h=>by
  have hl':cs.length=s+l.length*s:=by rw[hl,List.length_cons,Nat.succ_mul,Nat.add_comm]
  refine⟨cs.take s,cs.drop s,(List.take_append_drop s cs).symm, ?_,G4.of_index (s:=s) (by rw[List.length_drop];omega) (fun i y hi=> ?_)⟩
  . have:=h 0 x rfl;simpa using this
  . have:=h (i+1) y (by simpa using hi);rw[Nat.succ_mul,Nat.add_comm, <-List.drop_drop]at this;exact this
theorem Zr {t:Ty} {z:Array Value} (hz:z.toList=Dw t) (hn:Mb t=true) (hsz:z.size=t.size) (c l:Nat) (hlc:l<=c):G4 (C6 t w Z) ((madeCells z (c*t.size)).toList.take (l*t.size)) (List.replicate l t.dflt):=by
 have hlen:((madeCells z (c*t.size)).toList.take (l*t.size)).length=l*t.size:=by
  rw[List.length_take,Array.length_toList,size_madeCells];exact Nat.min_eq_left (Nat.mul_le_mul_right _ hlc)
 refine G4.of_index (s:=t.size) (by rw[hlen,List.length_replicate]) (fun i x hi=> ?_);have hil:i<l:=by have:=BV hi;simpa using this
 have hx:x=t.dflt:=by
  have:=List.mem_of_getElem? hi;exact(List.mem_replicate.1 this).2
 subst hx;have hcell:(((madeCells z (c*t.size)).toList.take (l*t.size)).drop (i*t.size)).take t.size=Dw t:=by
  have hzl:(Dw t).length=t.size:=by rw[<-hz,Array.length_toList,hsz]
  have hle:i*t.size+t.size<=l*t.size:=by rw[<-Nat.succ_mul];exact Nat.mul_le_mul_right _ hil
  have hle2:l*t.size<=c*t.size:=Nat.mul_le_mul_right _ hlc;apply List.ext_getElem?;intro j;by_cases hj:j<t.size
  . rw[List.getElem?_take,if_pos hj,List.getElem?_drop,List.getElem?_take,if_pos (by omega)];have h1:(i*t.size+j)%z.size=j:=by rw[hsz,Nat.mul_comm,Nat.mul_add_mod,Nat.mod_eq_of_lt hj]
    have h2:(madeCells z (c*t.size)).toList[i*t.size+j]? =some (z[(i*t.size+j)%z.size]!):=by
     simp only[madeCells,Array.getElem?_toList,Array.getElem?_map];rw[Array.getElem?_range,if_pos (by omega)];rfl
    rw[h2,h1, <-hz,Array.getElem?_toList];rw[Array.getElem?_eq_getElem (by omega),getElem!_pos z j (by omega)]
  . rw[List.getElem?_take,if_neg hj,List.getElem?_eq_none (by omega)]
 rw[hcell];exact Zg hn
theorem bT (h:C0 za w0 st E w Z B) (hty:G9 cx.P cx.tys=true) {T:TypeId} {x:Operand} (hs:UR cx st d T x=some st'):∃v B',(∀w',R2 w w'->Gw.C8 cx.P E ty (.load T x) w' v w')/\C0 za w0 st' (upd E d v) w Z B':=by
 unfold UR at hs;simp only[Option.bind_eq_bind,bind_some]at hs;obtain⟨ti,hti,c,⟨s,hs1,hs2⟩,hs⟩:=hs;split at hs
 . rename_i q sz i off;split at hs
   . rename_i t e e' ls al hq;cases hd:Nat.beq sz 1&&Nat.beq off 0&& !ti.agg with
     |false=>simp only[hd,cond_false]at hs;cases hs
     |true=>
      simp only[hd,cond_true]at hs;cases hs;simp only[Bool.and_eq_true,Bool.not_eq_true']at hd;have hsz:=Nat.eq_of_beq_eq_true hd.1.1;have hoff:=Nat.eq_of_beq_eq_true hd.1.2;subst hsz hoff;have hsc:S7 cx.P T=true:=by
       rcases(K9 (B4 hty hti)).2.1 with⟨ha,_⟩ | ⟨_,ha,_⟩
       . rw[hd.2]at ha;cases ha
       . exact ha
      obtain⟨b,n,cap,hB,hi,hv⟩:=(h.c1 (D5 E) (bind_some.2 ⟨s,hs1,hs2⟩)).1;have hL:=h.locs q;rw[hq]at hL;obtain⟨xs,h1,⟨g2,g3,g4⟩,h5,h6⟩:=hL;have hn:n=ls.length:=by
       rw[hB]at h1;rcases h1.2 with⟨hh,_⟩ | ⟨_,_,_,hh,_⟩<;>cases hh
       rfl
      subst hn;have hxl:i<xs.length:=by have:=h1.1;omega
      have hx:=List.getElem?_eq_getElem hxl;have hcell:=Hh h1 hB i _ hx;rw[L4,Nat.zero_add]at hcell;have hls:=List.getElem?_eq_getElem hi;obtain⟨ys,g5,_⟩:=g3 i _ _ rfl hls hx;have hv1:(xs[i]).oneCell'=true:=by rcases g5.2 with⟨hv,_⟩ | ⟨_,_,_,hv,_⟩<;>rw[hv]<;>rfl
      obtain⟨B',h7⟩:=h.alias d hq h1 hx hv1;refine⟨_,B',fun w' hx'=>SP hv hsc ?_,h7⟩;have hbl:b<w.heap.size:=by rw[hB]at h1;exact(World.ownsRow.lt h1 b rfl).2
      have e:=World.cell?_of_block (a:=⟨b,i,none⟩) (hx'.block b hbl);rw[show i*1+0=i from by omega,e];exact hcell
   . cases hs
 . cases hs
theorem lT {P:Program} {w:World} {dT sT ty elem:TypeId} {size g dLen dCap sLen:Nat} {src:Value} {cur:Array Value} {t:TypeId} {cs:List Value} (hu:P.underlying dT=some (.slice elem)) (hs:(P.info? elem).map (·.size)=some size)
 (hg:w.heap[g]? =some (.cells cur t (0,0))) (hl:(Builtin.lenOf src).run P w= .ok sLen w) (hc:(Builtin.firstCells size (Nat.min sLen dLen) src).run P w= .ok cs.toArray w) (hfit:cs.length<=cur.size) (h1:∀v∈cs,v.oneCell'=true):
 (Builtin.copy_ #[dT,sT] ty #[.slice (some ⟨g,0,none⟩) dLen dCap,src]).run P w= .ok (goInt (Nat.min sLen dLen)) (w.setRow g (cs++cur.toList.drop cs.length).toArray):=by
 have hst:=run_storeCells_at P g 0 t cs 0 cur w hg (by simpa using hfit) h1;cases hq:P.info? elem with
 |none=>simp[hq]at hs
 |some i=>
  have hi:i.size=size:=by simpa[hq]using hs
  simp only[Nat.zero_add,List.take_zero,List.nil_append]at hst;simp[Builtin.copy_,run_underlying hu,hl,sizeOf,typeInfo,hq,hi,hc,hst]
theorem lS {P:Program} {w:World} {dT sT ty elem:TypeId} {size dCap sLen:Nat} {src:Value} (hu:P.underlying dT=some (.slice elem)) (hs:(P.info? elem).map (·.size)=some size)
 (hl:(Builtin.lenOf src).run P w= .ok sLen w) (hc:(Builtin.firstCells size 0 src).run P w= .ok #[] w):
 (Builtin.copy_ #[dT,sT] ty #[.slice none 0 dCap,src]).run P w= .ok (goInt 0) w:=by
 cases hq:P.info? elem with
 |none=>simp[hq]at hs
 |some i=>
  have hi:i.size=size:=by simpa[hq]using hs
  simp[Builtin.copy_,run_underlying hu,hl,sizeOf,typeInfo,hq,hi,hc]
theorem nF (h:C0 za w0 st E w Z B) (hty:G9 cx.P cx.tys=true) {T sT:TypeId} {x y:Operand} (hs:aI cx st d T x y=some st'):∃v w' B',Gw.C8 cx.P E ty (.call ⟨.builtin .copy, #[x,y], #[T,sT]⟩) w v w'/\C0 za w0 st' (upd E d v) w' Z B':=by
 simp only[aI,Option.bind_eq_bind,bind_some]at hs;obtain⟨ti,hti,t,ht,a,⟨sa,ha1,ha2⟩,b,⟨sb,hb1,hb2⟩,ys,hys,hs⟩:=hs;have ht:=Fu ht;obtain⟨i,z,hu,hi,hz,hsz,hzc,hzs,hbt,hsl⟩:=Es (B4 hty hti) ht;obtain⟨hx,_⟩:=h.c1 (D5 E) (bind_some.2 ⟨sa,ha1,ha2⟩);obtain⟨hy,_⟩:=h.c1 (D5 E) (bind_some.2 ⟨sb,hb1,hb2⟩);obtain⟨ao,cap',ec,hv,hlc,hn0,hcells,heach⟩:=OX h hy hys;cases a with
 |row k=>
  simp only at hs;split at hs
  . rename_i t' e l hk;split at hs
    . rename_i heq;subst heq;cases hd:DR (.row k) b with
      |false=>simp only[hd,cond_false]at hs;cases hs
      |true=>
       simp only[hd,cond_true]at hs;cases hs;have hL:=h.locs k;rw[hk]at hL;obtain⟨xs,hown,hex,hUZ⟩:=hL;have hBx:Gw.ev E x=B k:=hx;have hlen:(Builtin.lenOf (Gw.ev E y)).run cx.P w= .ok ys.length w:=by rw[hv];rfl
       have hinfo:(cx.P.info? ti.elem).map (·.size)=some t'.size:=by rw[hi,Option.map_some,hsz]
       have hmin:Nat.min ys.length l.length=min ys.length l.length:=rfl;have hcsl:ec.length=ys.length*t'.size:=heach.length (fun c x=>C6.length);have hfc:(Builtin.firstCells t'.size (Nat.min ys.length l.length) (Gw.ev E y)).run cx.P w= .ok (ec.take (min ys.length l.length*t'.size)).toArray w:=by
        rw[hv];cases ao with
        |none=>
         have:ys= []:=List.eq_nil_of_length_eq_zero (by have:=hn0 rfl;omega);subst this;simp[Builtin.firstCells]
        |some a=>
         have h5:(ec.take (min ys.length l.length*t'.size)).length=min ys.length l.length*t'.size:=by
          rw[List.length_take,hcsl];exact Nat.min_eq_left (Nat.mul_le_mul_right _ (Nat.min_le_left ..))
         have:=run_loadCells_list (P:=cx.P) w a (ec.take (min ys.length l.length*t'.size)) (fun j v hj=>hcells a rfl j v (by
          have hjl:=BV hj;rw[List.getElem?_take_of_lt (by omega)]at hj;exact hj))
         rw[h5]at this;exact this
       have hone:∀u∈ec.take (min ys.length l.length*t'.size),u.oneCell'=true:=fun u hu'=>heach.oneCell u (List.mem_of_mem_take hu')
       have hval:∀m:Nat,m<=l.length->RC w Z B (.val (.int .i64) (m:Int)) (.int .i64 (m:Int)):=fun m hm=>by
        have:l.length<=maxLen:=by
         rcases hown.2 with⟨_,h0⟩ | ⟨_,_,_,_,_,_,h1,h2,_⟩
         . omega
         . omega
        refine⟨rfl, ?_⟩;unfold FX;simp only[maxLen]at this;constructor
        . change(-9223372036854775808:Int)<= _;omega
        . change _ <=(9223372036854775807:Int);omega
       have hmi:(min (ys.length:Int) (l.length:Int))=((min ys.length l.length:Nat):Int):=by omega
       rcases hown.2 with⟨hBk,h0⟩ | ⟨g,cap,cur,hBk,hg0,hgh,hnc,hcm,hcs,htk⟩
       . have hl0:l= []:=List.eq_nil_of_length_eq_zero h0;subst hl0;have hrun:=lS (sT:=sT) (ty:=ty) (dCap:=0) hu hinfo hlen (by simpa using hfc);refine⟨goInt 0,w,B,fun _ _ _ _=>by simp[execOp,resolve,invoke,builtin,hBx,hBk,hrun], ?_⟩;have h6:C0 za w0 (st.setL k (.row t' e (Oo [] ys))) E w Z B:=by
          have e0:Oo ([]:List t'.den) ys= []:=by simp[Oo]
          rw[e0];exact h.relc (by rw[hk];trivial) ⟨xs,hown,hex,hUZ⟩ trivial (fun b hb=> .inl hb)
         refine h6.setS d ?_ (fun c hc=>by simp at hc;subst hc;trivial);rw[hmi,show min ys.length ([]:List t'.den).length=0 from Nat.min_zero _];exact⟨_,_,rfl,hval _ (by simp),rfl⟩
       . have hfit:(ec.take (min ys.length l.length*t'.size)).length<=cur.size:=by
          rw[List.length_take,hcsl,hcs];have h1:min ys.length l.length*t'.size<=cap*t'.size:=Nat.mul_le_mul_right _ (by omega);omega
         have h5:(ec.take (min ys.length l.length*t'.size)).length=min ys.length l.length*t'.size:=by
          rw[List.length_take,hcsl];exact Nat.min_eq_left (Nat.mul_le_mul_right _ (Nat.min_le_left ..))
         have hrun:=lT (sT:=sT) (ty:=ty) (dCap:=cap) hu hinfo hgh hlen hfc hfit hone;refine⟨goInt (Nat.min ys.length l.length),w.setRow g (ec.take (min ys.length l.length*t'.size)++cur.toList.drop (ec.take (min ys.length l.length*t'.size)).length).toArray,B,fun _ _ _ _=>by simp[execOp,resolve,invoke,builtin,hBx,hBk,hrun], ?_⟩;generalize hcur':(ec.take (min ys.length l.length*t'.size)++cur.toList.drop (ec.take (min ys.length l.length*t'.size)).length).toArray=cur';have hchg:IH g w (w.setRow g cur'):=⟨rfl,rfl,⟨rfl,Nat.le_refl _⟩,by simp,fun k hk=>setRow_other w g k _ hk⟩;have hroot:root (B k)=some g:=by rw[hBk];rfl
         obtain⟨hU,hnz⟩:=hUZ g (by rw[hBk];rfl);have hsame:N5 Z w (w.setRow g cur'):=fun z hz=>hchg.2.2.2.2 z (fun hh=>hnz (hh▸hz))
         have hnew:G4 (C6 t' (w.setRow g cur') Z) (ec.take (min ys.length l.length*t'.size)++xs.drop (min ys.length l.length*t'.size)) (Oo l ys):=by
          have e1:Oo l ys=ys.take (min ys.length l.length)++l.drop (min ys.length l.length):=by
           unfold Oo;rcases Nat.le_total ys.length l.length with hh|hh
           . rw[Nat.min_eq_left hh,List.take_of_length_le hh,List.take_of_length_le (Nat.le_refl _)]
           . rw[Nat.min_eq_right hh,List.drop_of_length_le hh,List.drop_of_length_le (Nat.le_refl _)]
          rw[e1];refine G4.append ?_ ?_
          . exact(heach.take (fun c x=>C6.length) _).mono fun c x=>C6.mono (fun _=>id) hsame
          . exact(hex.drop (fun c x=>C6.length) _).mono fun c x=>C6.mono (fun _=>id) hsame
         have hcl:(Oo l ys).length=l.length:=by
          unfold Oo;rw[List.length_append,List.length_take,List.length_drop];omega
         have h6:C0 za w0 (st.setL k (.row t' e (Oo l ys))) E (w.setRow g cur') Z B:=by
          refine h.chg (by rw[hk];trivial) (by rw[hk];exact hroot) hchg ⟨_,⟨?_, .inr ⟨g,cap,cur', ?_,hg0,setRow_heap w g cur _ e _ hgh, ?_,hcm, ?_, ?_⟩⟩,hnew,fun b hb=> ?_⟩ trivial (fun b hb=> .inl hb)
          . rw[hnew.length (fun c x=>C6.length)]
          . rw[hcl];exact hBk
          . rw[hcl];exact hnc
          . have e8:cur.toList.length=cur.size:=Array.length_toList;have e9:cur'.size=(ec.take (min ys.length l.length*t'.size)).length+(cur.toList.length-(ec.take (min ys.length l.length*t'.size)).length):=by
             rw[<-hcur', <-List.length_drop, <-List.length_append];rfl
            omega
          . rw[hcl, <-hcur',h5, <-htk,List.drop_take,List.take_append];have h8:min ys.length l.length*t'.size<=l.length*t'.size:=Nat.mul_le_mul_right _ (by omega);rw[h5,List.take_of_length_le (by omega)]
          . exact hUZ b hb
         refine h6.setS d ?_ (fun c hc=>by simp at hc;subst hc;trivial);rw[hmi];exact⟨_,_,rfl,(hval _ (by omega)),rfl⟩
    . cases hs
  . cases hs
 | _=>simp at hs
def A7j:LC->Bool
 | .al _=>true
 | _=>false
theorem cV {v:Value} {e e1:TypeId} {n n' g cap j:Nat} {xs:List Value} {cur:Array Value} {x:Value} (h1:w.ownsRow 0 e 1 v n xs) (hv:v= .slice (some ⟨g,0,none⟩) n' cap) (hg:w.heap[g]? =some (.cells cur e1 (0,0))) (hj:j<n') (hx:cur[j]? =some x):xs[j]? =some x:=by
 rcases h1.2 with⟨hv',_⟩ | ⟨g2,cap2,cur2,hv',_,hg2,hle,_,hsz2,htk⟩
 . rw[hv]at hv';cases hv'
 . rw[hv]at hv';cases hv';rw[hg]at hg2;cases hg2;rw[<-htk,List.getElem?_take_of_lt (by omega)];simpa using hx
theorem C0.detach (h:C0 za w0 st E w Z B) {k q i:Nat} {t:Ty} {e e':TypeId} {ls:List (List t.den)} {al:List (Nat×Nat)} (hk:st.L k= .rows t e e' ls al none) (hq:st.L q= .al k) (hi:CB q al=some i) (hkn:st.nm<=k) (hqn:st.nm<=q) (hb0:za.b0=0):
 C0 za w0 ((st.setL k (.rows t e e' ls [] (some i))).setL q (.row t e' (ls.getD i []))) E w Z B:=by
 have hL:=h.locs k;have hR:=h.refl k;rw[hk]at hL hR;obtain⟨xs,h1,⟨g2,g3,g4⟩,h5,h6⟩:=hL;have hmem:=Lh hi;have hx:∀b,root (B q)=some b->xs[i]? =some (B q):=fun b hb=>(g2 (i,q) hmem).resolve_right fun hh=>by rw[hh.2]at hb;simp[root]at hb
 obtain⟨_,ys,_,_,o1,o2⟩:=YY ⟨xs,h1,⟨g2,g3,g4⟩,h5,h6⟩ hi;have hqx:q<st.nx:=hR (i,q) hmem;have hne:k≠q:=fun hh=>by rw[hh,hq]at hk;cases hk
 have hmono:∀b,A4 w (B k) (.rows t e e' ls [] (some i)) b->A4 w (B k) (.rows t e e' ls al none) b:=fun b hb=>by
  rcases hb with hb| ⟨g,n,cap,cur,e1,j,x,hv,hg,hj,_,hxj,hb⟩
  . exact .inl hb
  . exact .inr ⟨g,n,cap,cur,e1,j,x,hv,hg,hj,rfl,hxj,hb⟩
 have hs1:C0 za w0 (st.setL k (.rows t e e' ls [] (some i))) E w Z B:=
  h.relc (by rw[hk];trivial) ⟨xs,h1,⟨fun p hp=>(by cases hp),fun j l x _ hl hxj=>g3 j l x rfl hl hxj,fun a c x y b hac _ _ hxa hyc=>g4 a c x y b hac rfl rfl hxa hyc⟩,fun j x b _ hxj=>h5 j x b rfl hxj,fun b hb=>h6 b (hmono b hb)⟩ (fun p hp=>(by cases hp)) (fun b hb=> .inr (by rw[hk];exact hmono b hb))
 have hro:=E5 o1;have hin:∀b,root (B q)=some b->A4 w (B k) (.rows t e e' ls al none) b:=fun b hb=>Ri h1 rfl (hx b hb) hb
 refine hs1.addL (k:=q) hqx ⟨ys,o1,o2,fun b hb=> ?_⟩ (fun j b hj hb hb2=> ?_) trivial (fun b _ _=>by rw[hb0];exact Nat.zero_le _)
 . obtain⟨u1,u2,_⟩:=h6 b (hin b (hro.trans hb));refine⟨.inl ?_,u2⟩;have hn:=h.nms.1;rcases u1 with u1|u1
   . exact⟨by omega,u1.2⟩
   . omega
 . have hb:root (B q)=some b:=hb;rw[St.L_setL]at hb2;by_cases hjk:j=k
   . subst hjk;rw[if_pos rfl]at hb2;rcases hb2 with hb2| ⟨g,n,cap,cur,e1,m,x,hv,hg,hm,hho,hxm,hbx⟩
     . exact h5 i (B q) b rfl (hx b hb) hb hb2
     . have hxm':=cV h1 hv hg hm hxm;have him:i≠m:=fun hh=>by
        subst hh;simp[Dy]at hho
       exact g4 i m (B q) x b him rfl rfl (hx b hb) hxm' hb hbx
   . rw[if_neg hjk]at hb2;exact h.disj k j b (Ne.symm hjk) (by rw[hk];exact hin b hb) hb2
theorem C0.detO (h:C0 za w0 st E w Z B) (x:Operand) (hm:za.b0=0\/∀k,(st.ev [] x).bind Vc.c1=some (C.row k)->A7j (st.L k)=false):C0 za w0 (Vc.detO st x) E w Z B:=by
 unfold Vc.detO;split
 . rename_i c hc;unfold A1m;split
   . rename_i q;split
     . rename_i k hq;split
       . rename_i t e e' ls al hk;split
         . rename_i i hi;cases hd:Nat.ble st.nm k&&Nat.ble st.nm q with
           |false=>exact h
           |true=>
            simp only[Bool.and_eq_true]at hd;rcases hm with hm|hm
            . exact h.detach hk hq hi (Nat.le_of_ble_eq_true hd.1) (Nat.le_of_ble_eq_true hd.2) hm
            . have:=hm q hc;rw[hq]at this;cases this
         . exact h
       . exact h
     . exact h
   . exact h
 . exact h
theorem A1n (st:St) (x:Operand) (ctx:Hq) (y:Operand):(detO st x).ev ctx y=st.ev ctx y:=by
 have hbif:∀(b:Bool) (s1 s2:St),s1.ev ctx y=s2.ev ctx y->(bif b then s1 else s2).ev ctx y=s2.ev ctx y:=by
  intro b s1 s2 h;cases b
  . rfl
  . exact h
 unfold detO;split
 . unfold A1m;split
   . split
     . split
       . split
         . exact hbif _ _ _ rfl
         . rfl
       . rfl
     . rfl
   . rfl
 . rfl
def YJ (k0:Nat) (st:St):Op->Bool
 | .call ⟨.builtin .append,args,_⟩=>match args.toList with
  |x:: _=>(match(st.ev [] x).bind c1 with
   |some (.row k)=>Nat.ble k0 k&& !(A7j (st.L k))
   | _=>true)
  | _=>true
 | _=>true
theorem A1o {op0:Op} (h:C0 za w0 st E w Z B) (hmkd:za.b0=0\/∀op,op=op0->YJ za.k0 st op=true) (hty:G9 cx.P cx.tys=true) (hs:nL cx st d op0=some (φ,st')) (hφ:CC φ) (hk:k st') (hg:D4 all ⟨some d,op0,ty,pos,aft,g⟩ E=true):M2 cx.P all ⟨some d,op0,ty,pos,aft,g⟩ (SS za w0 w (gR op0) k) E w:=by
 unfold nL at hs;split at hs
 . simp only[Option.bind_eq_bind,bind_some]at hs;obtain⟨s,hsv,hs⟩:=hs;cases hd:s.cs.all Eu with
   |false=>simp only[hd,cond_false]at hs;cases hs
   |true=>
    simp only[hd,cond_true]at hs;cases hs;obtain⟨h1,h2⟩:=h.ev (D5 E) hsv;obtain⟨B',h3⟩:=h.newBox d (T:= _) (RS.cells h h1 hd) h2;exact J9 (A8d rfl) hg ⟨fun _=>R2.alloc w _,_,_,_,h3,hk⟩
 . simp only[Option.bind_eq_bind,bind_some]at hs;obtain⟨ti,hti,hs⟩:=hs;cases hs;obtain⟨z,hz,hzc⟩:=Db (K9 (B4 hty hti)).2.2;have h3:=Ci (w:=w) (Z:=Z) (B:=B) (n:=st.nx) (Dw ti.ty);obtain⟨B',h4⟩:=h.newBox d (T:= _) (vs:=z.cells) (by rw[hzc];exact h3.1) h3.2;exact J9 (jT hz) hg ⟨fun _=>R2.alloc w _,_,_,_,h4,hk⟩
 . rename_i T len parts;simp only[Option.bind_eq_bind,bind_some]at hs;obtain⟨ti,hti,t,ht,ps,hps,xs,hxs,hs⟩:=hs;have ht:=Fu ht;cases hd:Nat.beq xs.length len&&Nat.ble (len*t.size) 16777216&&Nat.ble 1 t.size with
   |false=>simp only[hd,cond_false]at hs;cases hs
   |true=>
    simp only[hd,cond_true]at hs;cases hs;simp only[Bool.and_eq_true]at hd;obtain⟨i,z,hu,hi,hz,hsz,hzc,hzs,hb,hsl⟩:=Es (B4 hty hti) ht;obtain⟨Z1,h1⟩:=h.settleP parts.toList;obtain⟨h2,h3⟩:=Ls h1 (D5 E) hps;obtain⟨g1,g2,g3,g4⟩:=Tv h2 hxs;have hlen:=Nat.eq_of_beq_eq_true hd.1.1;have hzT:Dc cx.P ti.elem=some z:=by simp[Dc,hi,hz]
    obtain⟨cs,hcs,hy⟩:=Hu (w:=w) (ty:=ty) (len:=len) _ hsl hzT (Nat.le_of_ble_eq_true hd.1.2) (Nat.le_of_ble_eq_true hd.2) hzs g1 g2 (by rw[List.length_map, <-g3,hlen]);have hx:R2 w (w.alloc (.cells cs ti.elem)):=R2.alloc w _;have h4:=h1.more (Z':=Z1) hx (fun _=>id) (fun _=> .inl);have hsame:N5 Z1 w (w.alloc (.cells cs ti.elem)):=fun b hb=>hx.block b (h1.zlt b hb)
    have hll:cs.toList.length=len*t.size:=by rw[hcs,G4.length (fun _ _ h=>C6.length h) g4,hlen]
    have hown:(w.alloc (.cells cs ti.elem)).ownsRow w0.heap.size ti.elem t.size (.slice (some ⟨w.heap.size,0,none⟩) len len) xs.length cs.toList:=by
     rw[hlen];refine⟨hll, .inr ⟨w.heap.size,len,cs,rfl,h.ext.size,Df w _ _,Nat.le_refl _, ?_,by simpa using hll,by rw[<-hll,List.take_length]⟩⟩;have h5:=Nat.le_of_ble_eq_true hd.1.2;have h6:=Nat.le_of_ble_eq_true hd.2;have:len*1<=len*t.size:=Nat.mul_le_mul_left _ h6;simp only[maxLen];omega
    obtain⟨B',h5⟩:=h4.newRow d (t:=t) (e:=ti.elem) (l:=xs) hown (by rw[hcs];exact g4.mono fun _ _=>C6.mono (fun _=>id) hsame) (fun b hb=>by
     simp only[Value.ownBlock,Option.some.injEq]at hb;refine⟨fun hz=> ?_,fun q hq=> ?_⟩
     . have:=h1.zlt b hz;omega
     . have:=((h1.locs q).root (h1.ft hx hq)).2.1;omega) (fun b _ hb=>by simp only[Value.ownBlock,Option.some.injEq]at hb;have:=h.mrk.1;omega)
    have:=J9 (pos:=pos) (aft:=aft) hy (by simpa using hg) (show SS za w0 w (gR (.buildSlice T len parts)) k _ _ from⟨fun _=>hx,_,_,_,h5,hk⟩);simpa using this
 . rename_i T lo co;simp only[Option.bind_eq_bind,bind_some]at hs;obtain⟨ti,hti,t,ht,l,hl,c,hc,hs⟩:=hs;have ht:=Fu ht;cases hrw:ti.rows with
   |true=>
    simp only[hrw,cond_true,Option.map_eq_some_iff]at hs;obtain⟨st2,hmr,hs⟩:=hs;cases hs;unfold PW at hmr;split at hmr
    case h_2=>cases hmr
    rename_i t0 hty0;rw[ht]at hty0;cases hty0;simp only[Option.map_eq_some_iff]at hmr;obtain⟨t2,_,hmr⟩:=hmr;subst hmr;obtain⟨f1,f2,f3,f4⟩:=hφ;obtain⟨i,z,hu,hi,hz,hsz,hzc,hzs,hb,hsl⟩:=Es (B4 hty hti) ht;obtain⟨k1,e1,_⟩:=h.int (D5 E) hl;obtain⟨k2,e2,_⟩:=h.int (D5 E) hc;have hrun:=run_make (P:=cx.P) w T ti.elem i z hu hi hz k1 k2 l c f1 f2 (by rw[hb];exact f3) f4;have hy:Gw.C8 cx.P E ty (.makeSlice T lo co) w (.slice (some ⟨w.heap.size,0,none⟩) l.toNat c.toNat) (w.alloc (.cells (madeCells z.cells (c.toNat*i.size)) ti.elem)):=fun _ _ _ _=>by simp[execOp,e1,e2,hrun]
    generalize hcs:madeCells z.cells (c.toNat*i.size)=cs at hy;have hsz1:(Ty.sl t0).size=1:=rfl;rw[hsz1]at hsz hzs;have hcsz:cs.size=c.toNat*1:=by rw[<-hcs, <-hsz];simp[madeCells]
    have hx:R2 w (w.alloc (.cells cs ti.elem)):=R2.alloc w _;have h4:=h.more (Z':=Z) hx (fun _=>id) (fun _=> .inl);have hlc:l.toNat<=c.toNat:=by omega
    have heach:G4 (C6 (.sl t0) (w.alloc (.cells cs ti.elem)) Z) (cs.toList.take (l.toNat*1)) (List.replicate l.toNat (Ty.sl t0).dflt):=by
     rw[<-hcs,hsz];exact Zr hzc rfl hzs _ _ hlc
    have hown:(w.alloc (.cells cs ti.elem)).ownsRow w0.heap.size ti.elem 1 (.slice (some ⟨w.heap.size,0,none⟩) l.toNat c.toNat) l.toNat (cs.toList.take (l.toNat*1)):=by
     refine⟨?_, .inr ⟨w.heap.size,c.toNat,cs,rfl,h.ext.size,Df w _ _,hlc, ?_,hcsz,rfl⟩⟩
     . rw[List.length_take,Array.length_toList,hcsz];exact Nat.min_eq_left (Nat.mul_le_mul_right _ hlc)
     . simp only[maxLen];omega
    have hnil:∀x∈cs.toList.take (l.toNat*1),x= .slice none 0 0:=fun x hx=>by
     have hx:=List.mem_of_mem_take hx;rw[<-hcs]at hx;simp only[madeCells,Array.toList_map,List.mem_map]at hx;obtain⟨j,_,rfl⟩:=hx;have hz1:z.cells.toList= [.slice none 0 0]:=hzc;have hz2:z.cells= #[.slice none 0 0]:=by rw[<-Array.toArray_toList (xs:=z.cells),hz1]
     rw[hz2];simp[Nat.mod_one]
    obtain⟨B',h5⟩:=h4.newRows d t0 t2.elem hown hnil (fun b hb=>by
     simp only[Value.ownBlock,Option.some.injEq]at hb;refine⟨fun hz=> ?_,fun q hq=> ?_⟩
     . have:=h.zlt b hz;omega
     . have:=((h.locs q).root (h.ft hx hq)).2.1;omega) (fun b _ hb=>by simp only[Value.ownBlock,Option.some.injEq]at hb;have:=h.mrk.1;omega)
    exact J9 hy hg ⟨fun _=>hx,_,_,_,h5,hk⟩
   |false=>
   simp only[hrw,cond_false]at hs;cases hd:Mb t with
   |false=>simp only[hd,cond_false]at hs;cases hs
   |true=>
    simp only[hd,cond_true]at hs;cases hs;obtain⟨f1,f2,f3,f4⟩:=hφ;obtain⟨i,z,hu,hi,hz,hsz,hzc,hzs,hb,hsl⟩:=Es (B4 hty hti) ht;obtain⟨k1,e1,_⟩:=h.int (D5 E) hl;obtain⟨k2,e2,_⟩:=h.int (D5 E) hc;have hrun:=run_make (P:=cx.P) w T ti.elem i z hu hi hz k1 k2 l c f1 f2 (by rw[hb];exact f3) f4;have hy:Gw.C8 cx.P E ty (.makeSlice T lo co) w (.slice (some ⟨w.heap.size,0,none⟩) l.toNat c.toNat) (w.alloc (.cells (madeCells z.cells (c.toNat*i.size)) ti.elem)):=fun _ _ _ _=>by simp[execOp,e1,e2,hrun]
    generalize hcs:madeCells z.cells (c.toNat*i.size)=cs at hy;have hcsz:cs.size=c.toNat*t.size:=by rw[<-hcs, <-hsz];simp[madeCells]
    have hx:R2 w (w.alloc (.cells cs ti.elem)):=R2.alloc w _;have h4:=h.more (Z':=Z) hx (fun _=>id) (fun _=> .inl);have hlc:l.toNat<=c.toNat:=by omega
    have heach:G4 (C6 t (w.alloc (.cells cs ti.elem)) Z) (cs.toList.take (l.toNat*t.size)) (List.replicate l.toNat t.dflt):=by
     rw[<-hcs,hsz];exact Zr hzc hd hzs _ _ hlc
    have hown:(w.alloc (.cells cs ti.elem)).ownsRow w0.heap.size ti.elem t.size (.slice (some ⟨w.heap.size,0,none⟩) l.toNat c.toNat) (List.replicate l.toNat t.dflt).length (cs.toList.take (l.toNat*t.size)):=by
     rw[List.length_replicate];refine⟨?_, .inr ⟨w.heap.size,c.toNat,cs,rfl,h.ext.size,Df w _ _,hlc, ?_,hcsz,rfl⟩⟩
     . rw[List.length_take,Array.length_toList,hcsz];exact Nat.min_eq_left (Nat.mul_le_mul_right _ hlc)
     . simp only[maxLen];omega
    obtain⟨B',h5⟩:=h4.newRow d hown heach (fun b hb=>by
     simp only[Value.ownBlock,Option.some.injEq]at hb;refine⟨fun hz=> ?_,fun q hq=> ?_⟩
     . have:=h.zlt b hz;omega
     . have:=((h.locs q).root (h.ft hx hq)).2.1;omega) (fun b _ hb=>by simp only[Value.ownBlock,Option.some.injEq]at hb;have:=h.mrk.1;omega)
    exact J9 hy hg ⟨fun _=>hx,_,_,_,h5,hk⟩
 . rename_i args ts;split at hs
   . rename_i x y T T' hargs hts;cases hT:Nat.beq T T' with
     |false=>simp[hT]at hs
     |true=>
      simp only[hT,cond_true]at hs;have hTT:=Nat.eq_of_beq_eq_true hT;subst hTT;have h0:=h.detO x (hmkd.imp id fun hh k hk=>by
       have:=hh _ rfl;simp only[YJ,hargs,hk,Bool.and_eq_true,Bool.not_eq_true']at this;exact this.2)
      have hev:=A1n st x;have hok0:za.b0=0\/∀j,(st.ev [] x).bind Vc.c1=some (C.row j)->za.k0<=j:=hmkd.imp id fun hh j hj=>by
       have:=hh _ rfl;simp only[YJ,hargs,hj,Bool.and_eq_true,Bool.not_eq_true']at this;exact Nat.le_of_ble_eq_true this.1
      generalize Vc.detO st x=st1 at hs h0 hev;simp only[A4e,Option.bind_eq_bind,bind_some]at hs;obtain⟨ti,hti,t,ht,a,⟨sa,hsa,hca⟩,b,⟨sb,hsb,hcb⟩,l,hl,ys,hys,hs⟩:=hs;have ht:=Fu ht;cases hd:DR a b&&Nat.ble 1 t.size with
      |false=>simp only[hd,cond_false]at hs;cases hs
      |true=>
       simp only[hd,cond_true]at hs;cases hs;simp only[Bool.and_eq_true]at hd;obtain⟨f1,f2⟩:=hφ;obtain⟨i,z,hu,hi,hz,hsz,hzc,hzs,hb,hsl⟩:=Es (B4 hty hti) ht;have ha:=h0.c1 (D5 E) (bind_some.2 ⟨sa,hsa,hca⟩);have hbv:=h0.c1 (D5 E) (bind_some.2 ⟨sb,hsb,hcb⟩);obtain⟨ao,cap,ec,hv,hlcap,hno,hcells,heach⟩:=OX h0 hbv.1 hys;have hel:=G4.length (R:=C6 t w Z) (s:=t.size) (fun _ _ h=>C6.length h) heach;have hok:za.b0=0\/∀j,a= .row j->za.k0<=j:=hok0.imp id fun hh j hj=>hh j (by
        rw[hev]at hsa;exact bind_some.2 ⟨sa,hsa,by rw[hca,hj]⟩)
       have hrow:∃xs,w.ownsRow w0.heap.size ti.elem t.size (Gw.ev E x) l.length xs/\G4 (C6 t w Z) xs l/\(∀q,(Gw.ev E x).ownBlock=some q->¬Z q/\w0.heap.size<=q/\∀j,¬A4 w (B j) ((dropR st1 a).L j) q)/\C0 za w0 (dropR st1 a) E w Z B/\(∀q,(Gw.ev E x).ownBlock=some q->za.b0<=q):=by
        unfold KD at hl;split at hl
        . rename_i j;split at hl
          . rename_i t' e' l' hj;split at hl
            . rename_i heq;subst heq;cases he:Nat.beq e' ti.elem&&Nat.ble st1.nm j with
              |false=>simp only[he,cond_false]at hl;cases hl
              |true=>
               simp only[he,cond_true]at hl;cases hl;simp only[Bool.and_eq_true]at he;have hjn:=Nat.le_of_ble_eq_true he.2;have hee:=Nat.eq_of_beq_eq_true he.1;subst hee;have hL:=h0.locs j;rw[hj]at hL;obtain⟨xs,hown,hea,hnz'⟩:=hL;have hup:∀q,(B j).ownBlock=some q->w0.heap.size<=q:=fun q hq=>by
                rcases(hnz' q hq).1 with g|g
                . exact g.2
                . have:=h0.nms.1;omega
               replace hown:=YP hown hup;have hnz:=fun q hq=>(hnz' q hq).2
               have hxv:Gw.ev E x=B j:=ha.1;have hro:=E5 hown;rw[<-hxv]at hown;refine⟨xs,hown,hea,fun q hq=> ?_,h0.drop j,fun q hq=> ?_⟩
               case refine_2=>
                rw[hxv]at hq;rcases hok with hok|hok
                . rw[hok];exact Nat.zero_le _
                . exact h0.mrk.2 j q (hok j rfl) (by rw[hj];exact hro.trans hq)
               rw[hxv]at hq;refine⟨hnz q hq,(World.ownsRow.lt hown q (by rw[hxv];exact hq)).1,fun j' hj'=> ?_⟩;simp only[dropR,St.L_setL]at hj';by_cases hjj:j'=j
               . rw[if_pos hjj]at hj';exact hj'.elim
               . rw[if_neg hjj]at hj';exact h0.disj j' j q hjj hj' (by rw[hj];exact hro.trans hq)
            . cases hl
          . cases hl
        . rename_i v0;cases hn:Tl v0 with
          |false=>simp[hn]at hl
          |true=>
           simp[hn]at hl;subst hl;have hxv:Gw.ev E x= .slice none 0 0:=by rw[ha.1.1];exact Fl hn
           refine⟨[],by rw[hxv];exact World.ownsRow_nil _ _ _ _,rfl,fun q hq=> ?_,h0,fun q hq=> ?_⟩<;>(rw[hxv]at hq;cases hq)
        . cases hl
       obtain⟨xs,hown,hea,hxz,hrel,hxm⟩:=hrow;obtain⟨v',w1,hrun,hown',hgr,hblk,hdr⟩:=CY (P:=cx.P) (ty:=ty) hu hi hz hsz hzs (Nat.le_of_ble_eq_true hd.2) hown (ao:=ao) (m:=ys.length) (c:=cap) (news:=ec) hel (fun a ha=>hcells a ha) (fun hn=>by have:=hno hn;omega) (G4.oneCell heach) f2 (by rw[hb];exact f1) h0.ext.size;have hsame:∀q,(Z q\/∃j,A4 w (B j) ((dropR st1 a).L j) q)->w1.heap[q]? =w.heap[q]?:=fun q hq=>by
        refine hgr.block q ?_ (fun hh=> ?_)
        . rcases hq with hq| ⟨j,hj⟩
          . exact h0.zlt q hq
          . exact((hrel.locs j).root hj).2.1
        . have:=hxz q hh.symm;rcases hq with hq| ⟨j,hj⟩
          . exact this.1 hq
          . exact this.2.2 j hj
       have h4:=hrel.keep (Z':=Z) (h0.ext.grown hgr hdr (fun q hq=> .inl (hxz q hq).2.1)) hgr.size hsame (fun _=>id) (fun _=> .inl);have hsz':N5 Z w w1:=fun q hq=>hsame q (.inl hq)
       have hftw:∀j q,A4 w1 (B j) ((dropR st1 a).L j) q->A4 w (B j) ((dropR st1 a).L j) q:=fun j q hf=>(A4.iff fun c hc=>hsame c (.inr ⟨j,hc⟩)).1 hf
       obtain⟨B',h5⟩:=h4.newRow d (l:=l++ys) (by rw[List.length_append];exact hown') ((hea.append heach).mono fun _ _=>C6.mono (fun _=>id) hsz') (fun q hq=>by
        rcases hblk with hbk|hbk
        . rw[hbk]at hq;exact⟨(hxz q hq).1,fun j hj=>(hxz q hq).2.2 j (hftw j q hj)⟩
        . rw[hbk]at hq;cases hq;exact⟨fun hz=>absurd (h0.zlt _ hz) (Nat.lt_irrefl _),fun j hj=>absurd ((hrel.locs j).root (hftw j _ hj)).2.1 (Nat.lt_irrefl _)⟩) (fun q hk0 hq=>by
        rcases hblk with hbk|hbk
        . rw[hbk]at hq;exact hxm q hq
        . rw[hbk]at hq;cases hq;exact h0.mrk.1)
       have hargs':args= #[x,y]:=by rw[<-hargs]
       have hts':ts= #[T,T]:=by rw[<-hts]
       subst hargs' hts';refine J9 (v:=v') (w':=w1) (fun _ _ _ _=> ?_) hg ⟨fun hh=>(by cases hh),_,_,_,h5,hk⟩;simp[execOp,resolve,invoke,builtin,hv,hrun]
   . cases hs
 . rename_i T r;simp only[Option.bind_eq_bind,bind_some]at hs;obtain⟨ti,hti,hs⟩:=hs;split at hs
   . rename_i ka kt va vt hT;cases hs;obtain⟨B',h5⟩:=h.newMap d ka kt va vt;exact J9 mH hg ⟨fun _=>R2.alloc w _,_,_,_,h5,hk⟩
   . rename_i ka kt va vt o hT;simp only[Option.map_eq_some_iff]at hs;obtain⟨n,hn,hs⟩:=hs;cases hs;obtain⟨hu,_⟩:=Pk (B4 hty hti) hT;obtain⟨kd,e1,_⟩:=h.int (D5 E) hn;obtain⟨B',h5⟩:=h.newMap d ka kt va vt;refine J9 (v:= .map (some w.heap.size)) (w':=w.alloc (.map #[] 0)) (fun _ _ _ _=> ?_) hg ⟨fun _=>R2.alloc w _,_,_,_,h5,hk⟩;simp[execOp,Instr.makeMap,e1,run_underlying hu,asInt,go_sem]
   . cases hs
 . rename_i args ts;split at hs
   . rename_i x T hargs hts;simp only[Option.bind_eq_bind,bind_some]at hs;obtain⟨ti,hti,hs⟩:=hs;split at hs
     . rename_i ka kt va vt hT;simp only[bind_some]at hs;obtain⟨c,⟨s,hs1,hs2⟩,es,hes,hs⟩:=hs;cases hs;have hlen:(es.length:Int)<=9223372036854775807:=by have:es.length<=9223372036854775807:=hφ;omega
       have hargs':args= #[x]:=by rw[<-hargs]
       have hts':ts= #[T]:=by rw[<-hts]
       subst hargs' hts';obtain⟨hu,_⟩:=Pk (B4 hty hti) hT;have h1:=h.c1 (D5 E) (bind_some.2 ⟨s,hs1,hs2⟩);have hin:FX .i64 (es.length:Int):=by
        unfold FX;have e1:IntKind.i64.min= -9223372036854775808:=by decide
        have e2:IntKind.i64.max=9223372036854775807:=by decide
        omega
       have hyl:Gw.C8 cx.P E ty (.call ⟨.builtin .len, #[x], #[T]⟩) w (.int .i64 (es.length:Int)) w:=by
        intro _ _ _ _;rcases iQ h h1.1 hes with⟨e,hn⟩ | ⟨b,ents,cl,e,hlt,hb,he⟩
        . simp[execOp,resolve,invoke,builtin,Builtin.len_,e,run_underlying hu,goInt,hn]
        . have hgo:(getObj b).run cx.P w= .ok (.map ents cl) w:=by simp[getObj,Sem.run,hb]
          have hl:=O8.len he;simp[execOp,resolve,invoke,builtin,Builtin.len_,e,run_underlying hu,hgo,goInt]at hl⊢;exact congrArg Int.ofNat hl
       exact J9 hyl hg ⟨fun _=>R2.refl w,_,_,_,h.setS d (x:=one1 (.val (.int .i64) (es.length:Int))) ⟨_,[],rfl,⟨rfl,hin⟩,rfl⟩ (fun c hc=>by simp at hc;subst hc;trivial),hk⟩
     . cases hs
   . cases hs
 . rename_i T x;simp only[Option.map_eq_some_iff]at hs;obtain⟨st2,hl,hs⟩:=hs;cases hs;obtain⟨v,B',h1,h2⟩:=bT (ty:=ty) h hty hl;exact J9 (h1 w (R2.refl w)) hg ⟨fun _=>R2.refl w,_,_,_,h2,hk⟩
 . rename_i T x;simp only[Option.bind_eq_bind,bind_some]at hs;obtain⟨ti,hti,hs⟩:=hs;split at hs
   . rename_i ka kt va vt hT;simp only[bind_some]at hs;obtain⟨c,⟨s,hs1,hs2⟩,es,hes,hs⟩:=hs;cases hs;obtain⟨hu,_⟩:=Pk (B4 hty hti) hT;obtain⟨Z1,h1⟩:=h.settleO x;have hc:=(h1.c1 (D5 E) (bind_some.2 ⟨s,hs1,hs2⟩)).1;have key:∀o,(Instr.range T (Gw.ev E x)).run cx.P w= .ok (.pointer (some ⟨w.heap.size,0,none⟩)) (w.alloc o)->ItR (w.alloc o) Z1 ka kt va vt w.heap.size es none->M2 cx.P all ⟨some d, .range T x,ty,pos,aft,g⟩ (SS za w0 w (gR (.range T x)) k) E w:=fun o hrun hit=>by
      have hx:R2 w (w.alloc o):=R2.alloc w _;have h4:=h1.more (Z':=Z1) hx (fun _=>id) (fun _=> .inl);have h2:=h4.new (v:= .pointer (some ⟨w.heap.size,0,none⟩)) (lc:= .iter ka kt va vt es none) ⟨w.heap.size,A9 _ _ _, .inl ⟨h1.nms.2,h.ext.size⟩,fun hz=>absurd (h1.zlt _ hz) (Nat.lt_irrefl _),hit⟩
       (fun k b hb hb'=>by
        simp only[A4,root,Option.some.injEq]at hb;have:=((h1.locs k).root (h1.ft hx hb')).2.1;omega)
       trivial rfl (fun b _ hb=>by simp only[A4,root,Option.some.injEq]at hb;have:=h.mrk.1;omega)
      have h5:=h2.setS d (x:=one1 (.box (settleO st x).nx 0)) (v:= .pointer (some ⟨w.heap.size,0,none⟩)) ⟨_,[],rfl,⟨w.heap.size,A9 _ _ _,rfl⟩,rfl⟩ (fun c hc=>by simp at hc;subst hc;exact Nat.lt_succ_self _);exact J9 (fun _ _ _ _=>by simp[execOp,hrun]) hg ⟨fun _=>hx,_,_,_,h5,hk⟩
     unfold A0i at hes;split at hes
     . split at hes
       . rename_i heq;subst heq;cases hes;rcases hc with⟨e,hn⟩ | ⟨b,ents,cl,e,hb,hh,hm,he⟩
         . simp only[List.cons.injEq,and_true]at e;exact key (.mapIter none 0 #[] 0) (by rw[e];exact run_range_nilMap (P:=cx.P) w T _ _ hu) (.inl ⟨heap_alloc_new w _,hn,rfl⟩)
         . simp only[List.cons.injEq,and_true]at e;have hlt:=h1.zlt b hb;have hgo:(getObj b).run cx.P w= .ok (.map ents cl) w:=by simp[getObj,Sem.run,hh]
           have hsame:N5 Z1 w (w.alloc (.mapIter (some b) cl #[] cl)):=fun q hq=>(R2.alloc w _).block q (h1.zlt q hq)
           refine key (.mapIter (some b) cl #[] cl) (by rw[e];exact run_range_map (P:=cx.P) w T _ _ b ents cl hu hh) (.inr ⟨b, #[],ents,cl,heap_alloc_new w _,hb,(hsame b hb).trans hh,hm, ?_,fun x hx=>by cases hx⟩);have hle:leftOf ents #[]=ents:=by simp[leftOf]
           rw[hle];exact Kj.mono (fun _=>id) hsame he
       . cases hes
     . cases hes;have e:Gw.ev E x= .map none:=hc.1;exact key (.mapIter none 0 #[] 0) (by rw[e];exact run_range_nilMap (P:=cx.P) w T _ _ hu) (.inl ⟨heap_alloc_new w _,rfl,rfl⟩)
     . cases hes
   . cases hs
 . rename_i x;simp only[Option.bind_eq_bind,bind_some]at hs;obtain⟨c,⟨s,hs1,hs2⟩,hs⟩:=hs;split at hs
   . rename_i q off;split at hs
     . rename_i ka kt va vt left y hq;cases hd:Nat.beq off 0 with
       |false=>simp only[hd,cond_false]at hs;cases hs
       |true=>
        simp only[hd,cond_true]at hs;cases hs;have hoff:=Nat.eq_of_beq_eq_true hd;subst hoff;obtain⟨b,hB,hv⟩:=(h.c1 (D5 E) (bind_some.2 ⟨s,hs1,hs2⟩)).1;have hL:=h.locs q;rw[hq]at hL;obtain⟨r,hr,_,_,hit⟩:=hL;rw[hB]at hr;cases hr;rcases hit with⟨_,_,hn⟩ | ⟨m,seen,ents,cl,i1,i2,i3,i4,i5,i6⟩
        . cases hn
        . obtain⟨e,he,⟨seen',hs'⟩,hk1,hk2⟩:=i6 y rfl;subst hs';have hrun:=run_entry_at (P:=cx.P) w b m cl seen' ents cl e i1 i3 he i4.2;refine J9 (v:= .tuple #[e.key,e.val]) (w':=w) (fun _ _ _ _=>by simp[execOp,hv,hrun]) hg ⟨fun _=>R2.refl w,_,_,_,h.setS d (x:= .tup [⟨ka,explode kt y.1⟩,⟨va,explode vt y.2⟩]) ⟨[e.key,e.val],rfl,_,_,rfl,X3.explode hk1,_,_,rfl,X3.explode hk2,rfl⟩ (fun s hs c hc=> ?_),hk⟩;simp only[List.mem_cons,List.not_mem_nil,or_false]at hs;rcases hs with rfl|rfl<;>exact D8 c hc
     . cases hs
   . cases hs
 . rename_i args ts;split at hs
   . rename_i x y T sT hargs hts;obtain⟨st1,hst1,hs⟩:=Option.map_eq_some_iff.1 hs;cases hs;have ea:args= #[x,y]:=Array.toList_inj.1 hargs;have et:ts= #[T,sT]:=Array.toList_inj.1 hts;subst ea et;obtain⟨v,w',B',hy,hr⟩:=nF (ty:=ty) (sT:=sT) h hty hst1;exact J9 hy hg ⟨fun hh=>(by cases hh),_,_,_,hr,hk⟩
   . cases hs
 . cases hs
end
def Xv (off n:Nat) (cs ps:List C):List C:=cs.take off++ps++cs.drop (off+n)
def gZ (st:St) (k r:Nat) (lc:LC):St:=(((st.setL r .none).setL k .none).setL k lc).setL r (.al k)
def hoP (i:Nat):Option Nat->Option Prop
 |none=>none
 |some j=>some (i=j)
def attach (st:St) (k r i:Nat) (t:Ty) (e e':TypeId) (ls:List (List t.den)) (ho:Option Nat):Option (Option Prop×St):=match st.L r with
 | .row t' e2 l=>if h:t'=t then(bif Nat.beq e2 e'&&Nat.ble st.nm r&&Nat.ble st.nm k&&Nat.blt k r then some (hoP i ho,gZ st k r (.rows t e e' (ls.set i (h▸l)) [(i,r)] none))else none)else none
 | _=>none
def V5 (ti:TI) (st1:St) (s:SV) (k sz i off:Nat):Option St:=match st1.L k with
 | .row t e l=>bif s.cs.all Eu&&Nat.beq s.cs.length ti.ty.size&&Nat.beq sz t.size&&Nat.ble (off+ti.ty.size) t.size then
  (match Mj t (Xv off ti.ty.size (explode t (l.getD i t.dflt)) s.cs)with
   |some (x,[])=>some (st1.setL k (.row t e (l.set i x)))
   | _=>none)else none
 | .al j=>match st1.L j with
  | .rows t e e' ls al none=>match CB k al with
   |some i0=>bif s.cs.all Eu&&Nat.beq s.cs.length ti.ty.size&&Nat.beq sz t.size&&Nat.ble (off+ti.ty.size) t.size then
    (match Mj t (Xv off ti.ty.size (explode t ((ls.getD i0 []).getD i t.dflt)) s.cs)with
     |some (x,[])=>some (st1.setL j (.rows t e e' (ls.set i0 ((ls.getD i0 []).set i x)) al none))
     | _=>none)else none
   |none=>none
  | _=>none
 | _=>none
def RH (cx:Cx) (st:St) (T:TypeId) (p v:Operand):Option (Option Prop×St):=do
 let ti<-cx.ti T
 let c<-(st.ev [] p).bind c1
 match c with
 | .box k off=>do
  let s<-st.ev [] v
  match st.L k with
  | .box T' cs=>bif s.cs.all Eu&&Nat.beq s.cs.length ti.ty.size&&Nat.ble (off+ti.ty.size) cs.length then some (none,st.setL k (.box T' (Xv off ti.ty.size cs s.cs)))else none
  | _=>none
 | .elp k sz i off=>match st.L k with
  | .rows t e e' ls _ ho=>match st.ev [] v with
   |some ⟨false,[.row r]⟩=>bif Nat.beq sz 1&&Nat.beq off 0&&Nat.beq ti.ty.size 1 then attach st k r i t e e' ls ho else none
   | _=>none
  | _=>do
   let s<-(settleO st v).ev [] v
   (V5 ti (settleO st v) s k sz i off).map fun st'=>(none,st')
 | _=>none
def mapM (st:St) (ka:Bool) (kt:Ty) (va:Bool) (vt:Ty) (k:Nat):Option (List (kt.den×vt.den)):=match st.L k with
 | .map ka' kt' va' vt' es=>if h:Ty.mp ka' kt' va' vt'=Ty.mp ka kt va vt then some (h▸(show(Ty.mp ka' kt' va' vt').den from es):(Ty.mp ka kt va vt).den)else none
 | _=>none
def PX (cx:Cx) (st:St) (d:Tmp) (T:TypeId) (m x:Operand):Option St:=do
 let ti<-cx.ti T
 let c<-(st.ev [] m).bind c1
 let sk<-st.ev [] x
 match ti.ty,c with
 | .mp ka kt va vt, .mp k=>do
  let es<-mapM st ka kt va vt k
  let key<-Gq ka kt sk
  bif Mb vt then some (((st.newL (.al k)).setL k (.mapE ka kt va vt (Wy kt key ((V9 kt key es).getD vt.dflt) es) ((N2 kt key es 0).getD es.length) st.nx)).setS d (.tup [⟨va,explode vt ((V9 kt key es).getD vt.dflt)⟩,⟨false,[.row st.nx]⟩]))else none
 | _,_=>none
def jJ {α β:Type} (j:Nat) (v:β) (l:List (α×β)):List (α×β):=l.modify j fun x=>(x.1,v)
def OY (st:St) (m s y:Operand):Option St:=do
 let c<-((settleO st y).ev [] m).bind c1
 let cs<-((settleO st y).ev [] s).bind c1
 let sy<-(settleO st y).ev [] y
 match c,cs with
 | .mp k, .row q=>match(settleO st y).L k with
  | .mapE ka kt va vt es j q'=>bif Nat.beq q q' then(Gq va vt sy).map fun v=>(settleO st y).setL k (.map ka kt va vt (jJ j v es))else none
  | _=>none
 | _,_=>none
def JL (cx:Cx) (st:St) (T:TypeId) (m x y:Operand):Option St:=do
 let ti<-cx.ti T
 let c<-((settleO st y).ev [] m).bind c1
 let sk<-(settleO st y).ev [] x
 let sy<-(settleO st y).ev [] y
 match ti.ty,c with
 | .mp ka kt va vt, .mp k=>do
  let es<-mapM (settleO st y) ka kt va vt k
  let key<-Gq ka kt sk
  let v<-Gq va vt sy
  some ((settleO st y).setL k (.map ka kt va vt (Wy kt key v es)))
 | _,_=>none
section
variable {za:Zn} {w0 w w':World} {Z Z':Nat->Prop} {B:Nat->Value} {st st':St} {E:G3} {cx:Cx} {φ:Option Prop} {d:Tmp} {all:List Oper} {ty:TypeId} {pos:String} {aft:Array Edge} {g:Option (Nat×Bool)} {k:St->Prop}
theorem Cf.one (h:C0 za w0 st E w Z B):∀ {cs:List C} {vs:List Value},cs.all Eu=true->Cf w Z B cs vs->∀u∈vs,u.oneCell'=true
 | [],_,_,hr=>by rw[show _= _ from hr];exact Kw
 |c::cs,_,hd,⟨v,vs',e,h1,h2⟩=>by
  simp only[List.all_cons,Bool.and_eq_true]at hd;rw[e];exact Mh (RC.one h hd.1 h1) (Cf.one h hd.2 h2)
theorem VW {off n:Nat} {cs ps:List C} {vs us:List Value} (h:Cf w Z B cs vs) (hp:Cf w Z B ps us) (hn:ps.length=n):Cf w Z B (Xv off n cs ps) (vs.take off++us++vs.drop (off+us.length)):=by
 have:us.length=n:=by rw[<-hn,hp.len]
 rw[this];exact((h.take off).append hp).append (h.drop (off+n))
theorem dE {α:Type} {cur us:List α} {n a sz off m:Nat} (hm:us.length=m) (h1:a+sz<=n) (h2:n<=cur.length) (h3:off+m<=sz):
 (cur.take (a+off)++us++cur.drop (a+off+m)).take n=(cur.take n).take a++((((cur.take n).drop a).take sz).take off++us++(((cur.take n).drop a).take sz).drop (off+m))++(cur.take n).drop (a+sz):=by
 have e1:(cur.take n).take a=cur.take a:=by rw[List.take_take,Nat.min_eq_left (by omega)]
 have e2:((cur.take n).drop a).take sz=(cur.drop a).take sz:=by rw[List.drop_take,List.take_take,Nat.min_eq_left (by omega)]
 have e3:((cur.drop a).take sz).take off=(cur.drop a).take off:=by rw[List.take_take,Nat.min_eq_left (by omega)]
 have e4:((cur.drop a).take sz).drop (off+m)=(cur.drop (a+off+m)).take (sz-(off+m)):=by rw[List.drop_take,List.drop_drop,Nat.add_assoc]
 have e5:(cur.take n).drop (a+sz)=(cur.drop (a+sz)).take (n-(a+sz)):=by rw[List.drop_take]
 have e6:cur.take a++(cur.drop a).take off=cur.take (a+off):=by rw[List.take_add]
 have e7:(cur.drop (a+off+m)).take (sz-(off+m))++(cur.drop (a+sz)).take (n-(a+sz))=(cur.drop (a+off+m)).take (n-(a+off+m)):=by
  have:n-(a+off+m)=(sz-(off+m))+(n-(a+sz)):=by omega
  rw[this,List.take_add,List.drop_drop];congr 3;omega
 rw[e1,e2,e3,e4,e5];have hl:(cur.take (a+off)).length=a+off:=by rw[List.length_take];omega
 rw[List.take_append,List.take_of_length_le (by rw[List.length_append,hl,hm];omega),List.length_append,hl,hm, <-e7, <-e6];simp only[List.append_assoc]
def frE (k0 k:Nat) (a b:LC):Bool:=match a with
 | .rows _ _ _ _ _ _=>Nat.ble k0 k
 | _=>match b with
  | .al j=>Nat.ble k0 j
  | _=>Nat.ble k0 k
def nT (k0:Nat) (st:St):Op->Bool
 | .store _ p v=>match(st.ev [] p).bind c1 with
  |some (.box k _)=>Nat.ble k0 k
  |some (.elp k _ _ _)=>frE k0 k (st.L k) ((settleO st v).L k)
  | _=>false
 | _=>false
theorem Zi {B0 b:Nat} (hc:IH b w w') (hb:B0<=b):Below B0 w w'/\True:=⟨⟨hc.1,hc.2.1,hc.2.2.1.1,by rw[hc.2.2.2.1];exact Nat.le_refl _,fun k hk=>hc.2.2.2.2 k (by omega)⟩,trivial⟩
theorem H9 {α:Type} {c:Bool} {a:Option α} {x:α} (h:(bif c then a else none)=some x):c=true/\a=some x:=by
 cases c with
 |true=>exact⟨rfl,h⟩
 |false=>cases h
theorem A4v {k0 sz i off q:Nat} {T:TypeId} {p v:Operand} (hh:nT k0 st (.store T p v)=true) (hp:(st.ev [] p).bind c1=some (.elp q sz i off)) (hl:(match(settleO st v).L q with| .al _=>false| _=>true)=true):k0<=q:=by
 simp only[nT,hp]at hh;generalize st.L q=a at*;generalize (settleO st v).L q=b at*;unfold frE at hh;cases a<;>cases b<;>simp at hl hh<;>exact hh
theorem A4u {k0 sz i off q j:Nat} {T:TypeId} {p v:Operand} (hh:nT k0 st (.store T p v)=true) (hp:(st.ev [] p).bind c1=some (.elp q sz i off)) (hnr:∀t e e' ls al ho,st.L q= .rows t e e' ls al ho->False) (hl:(settleO st v).L q= .al j):k0<=j:=by
 simp only[nT,hp,hl]at hh;cases ha:st.L q with
 |rows t e e' ls al ho=>exact(hnr _ _ _ _ _ _ ha).elim
 | _=>simp[ha,frE]at hh;exact hh
theorem IZ {v:Value} (h:v.oneCell'=true):v.cells.toList= [v]:=by
 have:v.cells= #[v]:=by cases v<;>simp[Value.cells,Value.oneCell']at h⊢
 rw[this]
theorem VK {P:Program} (h1:C0 za w0 st E w Z B) {T e:TypeId} {p v:Operand} {t:Ty} {l:List t.den} {xs:List Value} {b m cap i off n:Nat} {s:SV} {x:t.den} (hsz:Na P T n=true) (hown:w.ownsRow 0 e t.size (.slice (some ⟨b,0,none⟩) m cap) l.length xs) (heach:G4 (C6 t w Z) xs l) (hnzb:¬Z b) (hi:i<m) (hv:Gw.ev E p= .pointer (some ⟨b,i*t.size+off,none⟩))
 (hcs:Cf w Z B s.cs (Gw.ev E v).cells.toList) (hnd:s.cs.all Eu=true) (hlen:s.cs.length=n) (hfit:off+n<=t.size) (hx:Mj t (Xv off n (explode t (l.getD i t.dflt)) s.cs)=some (x,[])):
 ∃w',Gw.EV P E ty (.store T p v) w w'/\IH b w w'/\∃xs',w'.ownsRow 0 e t.size (.slice (some ⟨b,0,none⟩) m cap) (l.set i x).length xs'/\G4 (C6 t w' Z) xs' (l.set i x):=by
 have hul:(Gw.ev E v).cells.toList.length=n:=by rw[<-hlen,hcs.len]
 rcases hown.2 with⟨hh,_⟩ | ⟨b',cap',cur,hh,hb0,hgb,hnc,hcm,hcsz,htk⟩
 . cases hh
 . cases hh;have hel:=G4.length (R:=C6 t w Z) (s:=t.size) (fun _ _ h=>C6.length h) heach;have hget:=G4.get (R:=C6 t w Z) (s:=t.size) (fun _ _ h=>C6.length h) heach (List.getElem?_eq_getElem hi);have hgd:l.getD i t.dflt=l[i]:=by rw[List.getD_eq_getElem?_getD,List.getElem?_eq_getElem hi];rfl
   rw[hgd]at hx;have hile:i*t.size+t.size<=l.length*t.size:=by rw[<-Nat.succ_mul];exact Nat.mul_le_mul_right _ hi
   have hlc:l.length*t.size<=cap*t.size:=Nat.mul_le_mul_right _ hnc;generalize hU:(Gw.ev E v).cells.toList=us at*;have hst:=NV (P:=P) (ty:=ty) (w:=w) us hv rfl hU hsz hul hgb (by rw[hul,hcsz];omega) (Cf.one h1 hnd hcs);generalize hcur:(cur.toList.take (i*t.size+off)++us++cur.toList.drop (i*t.size+off+us.length)).toArray=cur' at hst;have hchg:IH b w (w.setRow b cur'):=⟨rfl,rfl,⟨rfl,Nat.le_refl _⟩,by simp,fun k hk=>setRow_other w b k _ hk⟩;have hsame:N5 Z w (w.setRow b cur'):=fun z hz=>hchg.2.2.2.2 z (fun hh=>hnzb (hh▸hz))
   have hrep:=Fq (VW (off:=off) (O2 (B:=B) hget) hcs hlen) hx;have hset:=G4.set (R:=C6 t w Z) (s:=t.size) (fun _ _ h=>C6.length h) heach hrep hi;refine⟨_,hst,hchg,_, ?_,hset.mono fun _ _=>C6.mono (fun _=>id) hsame⟩;rw[List.length_set];have hsetl:=G4.length (R:=C6 t w Z) (s:=t.size) (fun _ _ h=>C6.length h) hset;refine⟨by rw[hsetl,List.length_set], .inr ⟨b,cap,cur',rfl,hb0,setRow_heap w b cur _ e _ hgb,hnc,hcm, ?_, ?_⟩⟩
   . rw[<-hcur];simp only[List.size_toArray,List.length_append,List.length_take,List.length_drop,Array.length_toList,hcsz,hul];omega
   . rw[<-hcur];simp only[List.toList_toArray];rw[hul, <-htk];exact dE hul hile (by simpa[hcsz]using hlc) hfit
theorem C0.attach (h:C0 za w0 st E w Z B) {k r i g:Nat} {t:Ty} {e e':TypeId} {ls:List (List t.den)} {al:List (Nat×Nat)} {ho:Option Nat} {l:List t.den} {xs:List Value} (hk:st.L k= .rows t e e' ls al ho) (hr:st.L r= .row t e' l) (hkr:k≠r) (hkn:st.nm<=k) (hrn:st.nm<=r) (hi:i<ls.length) (hho:∀j,ho=some j->i=j)
 (hown:w.ownsRow 0 e 1 (B k) ls.length xs) (hg:root (B k)=some g) (hc:IH g w w') (hown':w'.ownsRow 0 e 1 (B k) ls.length (xs.set i (B r))) (hmr:za.k0<=k->∀b,root (B r)=some b->za.b0<=b):C0 za w0 (gZ st k r (.rows t e e' (ls.set i l) [(i,r)] none)) E w' Z B:=by
 have hL:=h.locs k;have hLr:=h.locs r;rw[hk]at hL;rw[hr]at hLr;obtain⟨xs',h1,⟨g2,g3,g4⟩,h5,h6⟩:=hL;have hxx:=Rs hown h1;subst hxx;obtain⟨ys,r1,r2,r3⟩:=hLr;have hgf:A4 w (B k) (st.L k) g:=by rw[hk];exact .inl hg
 have hgz:¬Z g:=((h.locs k).root hgf).2.2;have hsame:N5 Z w w':=fun c hc'=>hc.2.2.2.2 c (fun e=>hgz (e▸hc'))
 have hrf:∀b,root (B r)=some b->A4 w (B r) (st.L r) b:=fun b hb=>by rw[hr];exact hb
 have hrg:root (B r)≠some g:=fun hb=>h.disj k r g hkr hgf (hrf g hb)
 have hkx:k<st.nx:=Dj h (by rw[hk];trivial);have hrx:r<st.nx:=Dj h (by rw[hr];trivial);have hxl:xs.length=ls.length:=by have:=h1.1;omega
 have hft:∀b,A4 w' (B k) (.rows t e e' (ls.set i l) [(i,r)] none) b->root (B r)=some b\/A4 w (B k) (st.L k) b:=fun b hb=>by
  rcases hb with hb| ⟨g',n',cap',cur',e1,j,x,hv,hg',hj,_,hx,hb⟩
  . exact .inr (by rw[hk];exact .inl hb)
  . have hx':(xs.set i (B r))[j]? =some x:=by
     rcases hown'.2 with⟨hv',_⟩ | ⟨g2',cap2,cur2,hv',_,hg2,hle,_,hsz2,htk⟩
     . rw[hv]at hv';cases hv'
     . rw[hv]at hv';cases hv';rw[hg']at hg2;cases hg2;rw[<-htk,List.getElem?_take_of_lt (by omega)];simpa using hx
    by_cases hij:i=j
    . subst hij;rw[List.getElem?_set_self (by omega)]at hx';cases hx';exact .inl hb
    . rw[List.getElem?_set_ne hij]at hx';refine .inr ?_;rw[hk];have hnh:Dy ho j=false:=by
       cases ho with
       |none=>rfl
       |some q=>have:=hho q rfl;subst this;exact E6 hij
      exact Ri h1 hnh hx' hb
 have d1:=(h.drop r).drop k;have d2:C0 za w0 ((st.setL r .none).setL k .none) E w' Z B:=by
  refine d1.keep (h.ext.chg hc ((h.locs k).root hgf).1.m) (by rw[hc.2.2.2.1];exact Nat.le_refl _) (fun q hq=>hc.2.2.2.2 q ?_) (fun _=>id) (fun _=> .inl);rintro rfl;rcases hq with hq| ⟨j,hq⟩
  . exact hgz hq
  . rw[St.L_setL]at hq;split at hq
    . exact hq.elim
    . rename_i hjk;rw[St.L_setL]at hq;split at hq
      . exact hq.elim
      . exact h.disj j k q hjk hq hgf
 have hU:∀b,(root (B r)=some b\/A4 w (B k) (st.L k) b)->up za w0 k b/\¬Z b/\b<w.heap.size:=fun b hb=>by
  rcases hb with hb|hb
  . obtain⟨a1,a2,a3⟩:=(h.locs r).root (hrf b hb);refine⟨?_,a3,a2⟩;rcases a1 with a1|a1
    . exact .inl ⟨by rw[<-h.nms.1];exact hkn,a1.2⟩
    . have:=h.nms.1;omega
  . obtain⟨a1,a2,a3⟩:=(h.locs k).root hb;exact⟨a1,a3,a2⟩
 have hrest:∀(j:Nat) (l':List t.den) (x:Value),i≠j->ls[j]? =some l'->xs[j]? =some x->Dy ho j=false/\∃zs,w'.ownsRow 0 e' t.size x l'.length zs/\G4 (C6 t w' Z) zs l':=fun j l' x hij hl hx=>by
  have hnh:Dy ho j=false:=by
   cases ho with
   |none=>rfl
   |some q=>have:=hho q rfl;subst this;exact E6 hij
  obtain⟨zs,q1,q2⟩:=g3 j l' x hnh hl hx;refine⟨hnh,zs,Aw q1 (fun c hcb=>hc.2.2.2.2 c ?_),q2.mono fun _ _=>C6.mono (fun _=>id) hsame⟩;rintro rfl;exact h5 j x c hnh hx ((E5 q1).trans hcb) hg
 have hjx:∀(j:Nat) (x:Value),i≠j->(xs.set i (B r))[j]? =some x->xs[j]? =some x/\Dy ho j=false:=fun j x hij hx=>by
  rw[List.getElem?_set_ne hij]at hx;refine⟨hx, ?_⟩;cases ho with
  |none=>rfl
  |some q=>have:=hho q rfl;subst this;exact E6 hij
 have hix:(xs.set i (B r))[i]? =some (B r):=List.getElem?_set_self (by omega);have d3:C0 za w0 (((st.setL r .none).setL k .none).setL k (.rows t e e' (ls.set i l) [(i,r)] none)) E w' Z B:=by
  refine d2.addL hkx ⟨_,by rw[List.length_set];exact hown',⟨fun p hp=> ?_,fun j l' x _ hl hx=> ?_,fun j j' x y b hjj _ _ hx hy hb hb'=> ?_⟩,fun j x b _ hx hb=> ?_,fun b hb=> ?_⟩ (fun j b hjk hb hb'=> ?_) (fun p hp=> ?_) (fun b hk0 hb=> ?_)
  . simp only[List.mem_singleton]at hp;subst hp;exact .inl hix
  . by_cases hij:i=j
    . subst hij;rw[List.getElem?_set_self hi]at hl;rw[hix]at hx;cases hl;cases hx;exact⟨ys,Aw r1 (fun c hcb=>hc.2.2.2.2 c (fun e=>hrg (e▸(E5 r1).trans hcb))),r2.mono fun _ _=>C6.mono (fun _=>id) hsame⟩
    . rw[List.getElem?_set_ne hij]at hl;exact(hrest j l' x hij hl (hjx j x hij hx).1).2
  . by_cases hij:i=j
    . subst hij;rw[hix]at hx;cases hx;have:=hjx j' y hjj hy;exact h.disj k r b hkr (by rw[hk];exact Ri h1 this.2 this.1 hb') (hrf b hb)
    . have h1j:=hjx j x hij hx;by_cases hij':i=j'
      . subst hij';rw[hix]at hy;cases hy;exact h.disj k r b hkr (by rw[hk];exact Ri h1 h1j.2 h1j.1 hb) (hrf b hb')
      . have h2j:=hjx j' y hij' hy;exact g4 j j' x y b hjj h1j.2 h2j.2 h1j.1 h2j.1 hb hb'
  . by_cases hij:i=j
    . subst hij;rw[hix]at hx;cases hx;exact fun hb'=>h.disj k r b hkr (by rw[hk];exact .inl hb') (hrf b hb)
    . have:=hjx j x hij hx;exact h5 j x b this.2 this.1 hb
  . obtain⟨a1,a2,a3⟩:=hU b (hft b hb);exact⟨a1,a2,by rw[hc.2.2.2.1];exact a3⟩
  . rw[St.L_setL,if_neg hjk,St.L_setL]at hb';split at hb'
    . exact hb'.elim
    . rename_i hjr;have hb2:A4 w (B j) (st.L j) b:=(A4.iff fun c hcf=>hc.2.2.2.2 c (fun e=>h.disj j k c hjk hcf (e▸hgf))).1 hb';rcases hft b hb with hb|hb
      . exact h.disj j r b hjr hb2 (hrf b hb)
      . exact h.disj j k b hjk hb2 hb
  . simp only[List.mem_singleton]at hp;subst hp;exact hrx
  . rcases hft b hb with hb|hb
    . exact hmr hk0 b hb
    . exact h.mrk.2 k b hk0 hb
 exact d3.addL hrx trivial (fun _ _ _ hb=>hb.elim) trivial (fun _ _ hb=>hb.elim)
theorem VY (h:C0 za w0 st E w Z B) (hty:G9 cx.P cx.tys=true) {T:TypeId} {p v:Operand} (hs:RH cx st T p v=some (φ,st')) (hφ:CC φ) (hk:k st') (hg:D4 all ⟨none, .store T p v,ty,pos,aft,g⟩ E=true):M2 cx.P all ⟨none, .store T p v,ty,pos,aft,g⟩ (fun E' w'=>(nT za.k0 st (.store T p v)=true->Below za.b0 w w'/\True)/\Nx za w0 k E' w') E w:=by
 simp only[RH,Option.bind_eq_bind,bind_some]at hs;obtain⟨ti,hti,c,⟨sp,hsp,hcp⟩,hs⟩:=hs;have hsz:=(K9 (B4 hty hti)).1;have hc:=h.c1 (D5 E) (bind_some.2 ⟨sp,hsp,hcp⟩);split at hs
 . rename_i q off;simp only[bind_some]at hs;obtain⟨s,hsv,hs⟩:=hs;split at hs
   . rename_i T' cs hq;cases hd:s.cs.all Eu&&Nat.beq s.cs.length ti.ty.size&&Nat.ble (off+ti.ty.size) cs.length with
     |false=>simp only[hd,cond_false]at hs;cases hs
     |true=>
      simp only[hd,cond_true]at hs;cases hs;simp only[Bool.and_eq_true]at hd;have hlen:=Nat.eq_of_beq_eq_true hd.1.2;have hfit:=Nat.le_of_ble_eq_true hd.2;obtain⟨h1,h2⟩:=h.ev (D5 E) hsv;have hcs:=RS.cells h h1 hd.1.1;have hL:=h.locs q;have hR:=h.refl q;rw[hq]at hL hR;obtain⟨b,vs,e,hb0,hnz,hblk,hvs⟩:=hL;obtain⟨b',e',hv⟩:=hc.1;rw[e]at e';cases e';have hul:(Gw.ev E v).cells.toList.length=ti.ty.size:=by rw[<-hlen,hcs.len]
      have hst:=NV (P:=cx.P) (ty:=ty) (w:=w) (Gw.ev E v).cells.toList hv rfl rfl hsz hul hblk (by rw[hul];have:=hvs.len;simp at this;omega) (Cf.one h hd.1.1 hcs);have hchg:IH b w (w.setRow b (vs.toList.take off++(Gw.ev E v).cells.toList++vs.toList.drop (off+(Gw.ev E v).cells.toList.length)).toArray):=⟨rfl,rfl,⟨rfl,Nat.le_refl _⟩,by simp,fun k hk=>setRow_other w b k _ hk⟩;have hroot:root (B q)=some b:=by rw[e];rfl
      have hsame:N5 Z w (w.setRow b (vs.toList.take off++(Gw.ev E v).cells.toList++vs.toList.drop (off+(Gw.ev E v).cells.toList.length)).toArray):=fun z hz=>hchg.2.2.2.2 z (fun hh=>hnz (hh▸hz))
      have hrefs:∀c∈Xv off ti.ty.size cs s.cs,Cd st.nx c:=fun c hc=>by
       simp only[Xv,List.mem_append]at hc;rcases hc with(hc|hc) |hc
       . exact hR c (List.mem_of_mem_take hc)
       . exact h2 c hc
       . exact hR c (List.mem_of_mem_drop hc)
      refine Ue hst hg ⟨fun hh=>Zi hchg (h.mrk.2 q b (by simp only[nT,show(st.ev [] p).bind c1=some _ from bind_some.2 ⟨sp,hsp,hcp⟩]at hh;exact Nat.le_of_ble_eq_true hh) (by rw[hq];exact hroot)),_,_,_,h.chg (by rw[hq];trivial) (by rw[hq];exact hroot) hchg (lc:= .box T' (Xv off ti.ty.size cs s.cs)) ⟨b,_,e,hb0,hnz,setRow_heap w b vs _ T' _ hblk, ?_⟩ hrefs (fun _ hh=> .inl hh),hk⟩;exact Cf.mono (n:=st.nx) (fun _=>id) hsame (fun _ _=>rfl) hrefs (by simpa using VW hvs hcs hlen)
   . cases hs
 . rename_i q sz i off;split at hs
   . rename_i t e e' ls al ho hq;split at hs
     . rename_i r hev;cases hd:Nat.beq sz 1&&Nat.beq off 0&&Nat.beq ti.ty.size 1 with
       |false=>simp only[hd,cond_false]at hs;cases hs
       |true=>
        simp only[hd,cond_true]at hs;simp only[Bool.and_eq_true]at hd;have e1:=Nat.eq_of_beq_eq_true hd.1.1;have e2:=Nat.eq_of_beq_eq_true hd.1.2;have e3:=Nat.eq_of_beq_eq_true hd.2;subst e1 e2;unfold Vc.attach at hs;split at hs
        . rename_i t' e2' l hr;split at hs
          . rename_i heq;subst heq;cases hd2:Nat.beq e2' e'&&Nat.ble st.nm r&&Nat.ble st.nm q&&Nat.blt q r with
            |false=>simp only[hd2,cond_false]at hs;cases hs
            |true=>
             simp only[hd2,cond_true]at hs;cases hs;simp only[Bool.and_eq_true]at hd2;have ee:=Nat.eq_of_beq_eq_true hd2.1.1.1;subst ee;have hqr:q<r:=Nat.le_of_ble_eq_true hd2.2;obtain⟨g1,g2⟩:=h.ev (D5 E) hev;obtain⟨u,us,hu,hur,hus⟩:=g1;cases hu;have hvr:Gw.ev E v=B r:=hur;have hL:=h.locs q;rw[hq]at hL;obtain⟨xs,h1,_⟩:=hL;obtain⟨b,m,cap,hB,hi,hv⟩:=hc.1;have hm:m=ls.length:=by
              rw[hB]at h1;rcases h1.2 with⟨hh,_⟩ | ⟨_,_,_,hh,_⟩<;>cases hh
              rfl
             subst hm;have hone:(B r).oneCell'=true:=h.bone r;have hcell:(Gw.ev E v).cells.toList= [B r]:=by rw[hvr];exact IZ hone
             have h1':=h1;rw[hB]at h1';rcases h1'.2 with⟨hh,_⟩ | ⟨b',cap',cur,hh,hb0,hgb,hnc,hcm,hcsz,htk⟩
             . cases hh
             . cases hh;have hst:=NV (P:=cx.P) (ty:=ty) (w:=w) [B r] hv rfl hcell hsz (by rw[e3];rfl) hgb (by rw[hcsz];simp;omega) (fun u hu=>by simp at hu;subst hu;exact hone);generalize hcur:(cur.toList.take (i*1+0)++ [B r]++cur.toList.drop (i*1+0+ [B r].length)).toArray=cur' at hst;have hchg:IH b w (w.setRow b cur'):=⟨rfl,rfl,⟨rfl,Nat.le_refl _⟩,by simp,fun k hk=>setRow_other w b k _ hk⟩;have hroot:root (B q)=some b:=by rw[hB];rfl
               have hfoot:A4 w (B q) (st.L q) b:=by rw[hq];exact .inl hroot
               refine Ue hst hg ⟨fun hh=>Zi hchg (h.mrk.2 q b (by simp only[nT,show(st.ev [] p).bind c1=some _ from bind_some.2 ⟨sp,hsp,hcp⟩,hq,frE]at hh;exact Nat.le_of_ble_eq_true hh) hfoot),_,_,_,h.attach hq hr (Nat.ne_of_lt hqr) (Nat.le_of_ble_eq_true hd2.1.2) (Nat.le_of_ble_eq_true hd2.1.1.2) hi (fun j hj=> ?_) h1 hroot hchg ?_ ?_,hk⟩
               . subst hj;exact hφ
               . rw[hB];refine⟨by rw[List.length_set];exact h1.1, .inr ⟨b,cap,cur',rfl,hb0,setRow_heap w b cur _ e _ hgb,hnc,hcm, ?_, ?_⟩⟩
                 . rw[<-hcur];simp only[List.size_toArray,List.length_append,List.length_take,List.length_drop,Array.length_toList,hcsz,List.length_cons,List.length_nil];omega
                 . rw[<-hcur, <-htk];simp only[List.toList_toArray];apply List.ext_getElem?;intro j;have hcl:cur.toList.length=cap*1:=by rw[Array.length_toList,hcsz]
                   simp only[Nat.mul_one,Nat.add_zero,List.length_cons,List.length_nil,Nat.zero_add];by_cases hj:j<ls.length
                   . rw[List.getElem?_take_of_lt hj];by_cases hij:i=j
                     . subst hij;rw[List.getElem?_set_self (by rw[List.length_take];omega),List.append_assoc,List.getElem?_append_right (by rw[List.length_take];omega),List.length_take];rw[show i-min i cur.toList.length=0 from by omega];rfl
                     . rw[List.getElem?_set_ne hij,List.getElem?_take_of_lt hj,List.append_assoc];by_cases hlt:j<i
                       . rw[List.getElem?_append_left (by rw[List.length_take];omega),List.getElem?_take_of_lt hlt]
                       . rw[List.getElem?_append_right (by rw[List.length_take];omega),List.length_take,show min i cur.toList.length=i from by omega];obtain⟨d,hd⟩:∃d,j-i=d+1:=⟨j-i-1,by omega⟩;rw[hd];simp only[List.cons_append,List.nil_append,List.getElem?_cons_succ,List.getElem?_drop];rw[show i+1+d=j from by omega]
                   . rw[List.getElem?_eq_none (by rw[List.length_take];omega),List.getElem?_eq_none (by rw[List.length_set,List.length_take];omega)]
               . exact fun hk0 bb hbb=>h.mrk.2 r bb (by omega) (by rw[hr];exact hbb)
          . cases hs
        . cases hs
     . cases hs
   . rename_i hnr;simp only[bind_some,Option.map_eq_some_iff]at hs;obtain⟨s,hsv,stx,hse,hs⟩:=hs;cases hs;obtain⟨Z1,h1⟩:=h.settleO v;have hLr:=fun t e e' ls al ho=>hnr t e e' ls al ho
     obtain⟨g1,g2⟩:=h1.ev (D5 E) hsv;obtain⟨b,m,cap,hB,hi,hv⟩:=hc.1;have hroot:root (B q)=some b:=by rw[hB];rfl
     unfold V5 at hse;split at hse
     . rename_i t e l hq;obtain⟨hd,hse⟩:=H9 hse;simp only[Bool.and_eq_true]at hd;split at hse
       . rename_i x hx;cases hse;have hlen:=Nat.eq_of_beq_eq_true hd.1.1.2;have hszz:=Nat.eq_of_beq_eq_true hd.1.2;have hfit:=Nat.le_of_ble_eq_true hd.2;subst hszz;have hcs:=RS.cells h1 g1 hd.1.1.1;have hL:=h1.locs q;rw[hq]at hL;obtain⟨xs,hown,heach,hnz'⟩:=hL;rw[hB]at hown hnz';obtain⟨w',hst,hchg,xs',hown',heach'⟩:=VK (P:=cx.P) (ty:=ty) h1 hsz hown heach (hnz' b rfl).2 hi hv hcs hd.1.1.1 hlen hfit hx;refine Ue hst hg ⟨fun hh=>Zi hchg ?_,_,_,_,h1.chg (by rw[hq];trivial) (by rw[hq];exact hroot) hchg (lc:= .row t e (l.set i x)) ⟨_,by rw[hB];exact hown',heach',fun z hz=>by rw[hB]at hz;exact hnz' z hz⟩ trivial (fun _ hh=> .inl hh),hk⟩;exact h1.mrk.2 q b (A4v hh (bind_some.2 ⟨sp,hsp,hcp⟩) (by rw[hq])) (by rw[hq];exact hroot)
       . cases hse
     . rename_i j hq;split at hse
       . rename_i t e e' ls al hj;split at hse
         . rename_i i0 hi0;obtain⟨hd,hse⟩:=H9 hse;simp only[Bool.and_eq_true]at hd;split at hse
           . rename_i x hx;cases hse;have hlen:=Nat.eq_of_beq_eq_true hd.1.1.2;have hszz:=Nat.eq_of_beq_eq_true hd.1.2;have hfit:=Nat.le_of_ble_eq_true hd.2;subst hszz;have hcs:=RS.cells h1 g1 hd.1.1.1;have hL:=h1.locs j;rw[hj]at hL;obtain⟨xs,ys,o1,o2,o4,o5⟩:=YY hL hi0;have hnzb:¬Z1 b:=by
              obtain⟨xs2,h2,⟨c2,c3,c4⟩,c5,c6⟩:=hL;exact(c6 b (Ri h2 rfl ((c2 _ (Lh hi0)).resolve_right fun hh=>by rw[hh.2]at hroot;simp[root]at hroot) hroot)).2.1
             rw[hB]at o4;obtain⟨w',hst,hchg,xs',hown',heach'⟩:=VK (P:=cx.P) (ty:=ty) h1 hsz o4 o5 hnzb hi hv hcs hd.1.1.1 hlen hfit hx;have hrs:=A0b hL (Lh hi0) hroot hchg hnzb (by rw[hB];exact hown') heach';refine Ue hst hg ⟨fun hh=>Zi hchg ?_,_,_,_,h1.chg (k:=j) (by rw[hj];trivial) (by rw[hj];exact hrs.2.1) hchg hrs.1 (by have:=h1.refl j;rw[hj]at this;exact this) (fun c hcf=> .inr (by rw[hj];exact(V6 fun g hg=>hchg.2.2.2.2 g (fun e=>hrs.2.2 (e▸hg))).1 hcf)),hk⟩;exact h1.mrk.2 j b (A4u hh (bind_some.2 ⟨sp,hsp,hcp⟩) hnr hq) (by rw[hj];exact hrs.2.1)
           . cases hse
         . cases hse
       . cases hse
     . cases hse
 . cases hs
theorem cX:∀(v:Value) (n:Nat),(∃k a,v= .int k a)\/(∃b,v= .bool b)->Instr.sameBits n v v=true:=by
 rintro v n (⟨k,a,rfl⟩ | ⟨b,rfl⟩)
 . cases n<;>simp[Instr.sameBits]
 . cases n<;>simp[Instr.sameBits]
theorem Tw:∀ {t:Ty} {cs:List Value} {x:t.den},Fs t=true->C6 t w Z cs x->∀v∈cs,(∃k a,v= .int k a)\/(∃b,v= .bool b)
 | .int k,_,x,_,h=>by rw[h.1];intro v hv;simp at hv;exact .inl ⟨_,_,hv⟩
 | .bool,_,x,_,h=>by rw[show _= _ from h];intro v hv;simp at hv;exact .inr ⟨_,hv⟩
 | .unit,_,_,_,h=>by rw[show _= _ from h];intro v hv;cases hv
 | .pair a b,_,_,hp,⟨c1,c2,e,h1,h2⟩=>by
  simp only[Fs,Bool.and_eq_true]at hp;rw[e];intro v hv;rcases List.mem_append.1 hv with hv|hv
  . exact Tw hp.1 h1 v hv
  . exact Tw hp.2 h2 v hv
 | .str,_,_,h,_=>by cases h
 | .sl _,_,_,h,_=>by cases h
 | .ptr _,_,_,h,_=>by cases h
 | .mp _ _ _ _,_,_,h,_=>by cases h
theorem cY:∀(cs:List Value) (n:Nat),(∀v∈cs,(∃k a,v= .int k a)\/(∃b,v= .bool b))->(cs.zip cs).all (fun x=>Instr.sameBits n x.1 x.2)=true
 | [],_,_=>rfl
 |c::cs,n,h=>by
  simp only[List.zip_cons_cons,List.all_cons,Bool.and_eq_true];exact⟨cX c n (h c (by simp)),cY cs n (fun v hv=>h v (by simp[hv]))⟩
theorem bO {a:Bool} {t:Ty} {v:Value} {x:t.den} (hp:Fs t=true) (h:S4 (C6 t w Z) a v x):Instr.sameBits 10000 v v=true:=by
 cases a with
 |true=>
  obtain⟨cs,e,h⟩:=h;subst e;have:=cY cs 9999 (Tw hp h);simp only[Instr.sameBits,beq_self_eq_true,Bool.true_and];exact this
 |false=>exact cX v 10000 (Tw (cs:= [v]) hp h v (by simp))
theorem bP {a:Bool} {t:Ty} {v v':Value} {x:t.den} (hp:Fs t=true) (h:S4 (C6 t w Z) a v x) (h':S4 (C6 t w Z) a v' x):v=v':=by
 cases a with
 |true=>
  obtain⟨cs,e,h⟩:=h;obtain⟨cs',e',h'⟩:=h';rw[e,e',Pf hp h h']
 |false=>
  have:=Pf (cs:= [v]) (cs':= [v']) hp h h';simpa using this
theorem OZ {κ:Ty} {ν:Type} {Rk:Value->κ.den->Prop} {Rv:Value->ν->Prop} {k:κ.den} {v:ν} {kv vv:Value} {cl:Nat} (hk:Rk kv k) (hv:Rv vv v):∀ {l:List (κ.den×ν)} {es:List MapEntry} {i:Nat},O8 Rk Rv es l->
 (N2 κ k l i=none->O8 Rk Rv (es++ [{key:=kv,val:=vv,born:=cl}]) (Wy κ k v l))/\(∀j,N2 κ k l i=some (i+j)->O8 Rk Rv (es.modify j fun e=> {e with key:=kv,val:=vv}) (Wy κ k v l))
 | [],es,i,h=>by
  rw[show es= []from h];exact⟨fun _=>⟨_,[],rfl,hk,hv,rfl⟩,fun j hj=>by cases hj⟩
 |x::l,_,i,⟨e,es',he,h1,h2,h3⟩=>by
  subst he;simp only[N2,Wy];cases hb:Wa κ k x.1 with
  |true=>
   refine⟨fun hh=>by simp at hh,fun j hj=> ?_⟩;simp only[cond_true,Option.some.injEq]at hj;have:j=0:=by omega
   subst this;exact⟨_,_,rfl,hk,hv,h3⟩
  |false=>
   simp only[cond_false];have ih:=OZ (cl:=cl) hk hv (i:=i+1) h3;refine⟨fun hh=>⟨e,_,rfl,h1,h2,ih.1 hh⟩,fun j hj=> ?_⟩;cases j with
   |zero=>
    exfalso;have:∀(l:List (κ.den×ν)) (i j:Nat),N2 κ k l i=some j->i<=j:=by
     intro l
     induction l with
     |nil=>intro i j hh;cases hh
     |cons y l ih=>
      intro i j hh;unfold N2 at hh;cases hb:Wa κ k y.1 with
      |true=>simp[hb]at hh;omega
      |false=>simp[hb]at hh;have:=ih _ _ hh;omega
    have:=this _ _ _ hj;omega
   |succ j=>exact⟨e,_,rfl,h1,h2,ih.2 j (by rw[hj];congr 1;omega)⟩
theorem Et (f:MapEntry->MapEntry) (hf:∀e,(f e).born=e.born):∀(l:List MapEntry) (j:Nat),(l.modify j f).map (·.born)=l.map (·.born)
 | [],j=>by cases j<;>rfl
 |x::l,0=>by simp[hf]
 |x::l,j+1=>by simp[Et f hf l j]
theorem UT (h:C0 za w0 st E w Z B) (hty:G9 cx.P cx.tys=true) {T:TypeId} {m x y:Operand} (hs:JL cx st T m x y=some st'):
 ∃w',Gw.EV cx.P E ty (.mapUpdate T m x y) w w'/\Gw.EV cx.P E ty (.insert T m x y) w w'/\∃Z' B',C0 za w0 st' E w' Z' B':=by
 simp only[JL,Option.bind_eq_bind,bind_some]at hs;obtain⟨ti,hti,c,⟨sm,hsm,hcm⟩,sk,hsk,sy,hsy,hs⟩:=hs;obtain⟨Z1,h1⟩:=h.settleO y;split at hs
 . rename_i ka kt va vt k hT;simp only[bind_some]at hs;obtain⟨es,hes,key,hkey,v,hv,hs⟩:=hs;cases hs;obtain⟨hu,hkt,_,_⟩:=Pk (B4 hty hti) hT;have hc:=h1.c1 (D5 E) (bind_some.2 ⟨sm,hsm,hcm⟩);have hk:=Ax (h1.ev (D5 E) hsk).1 hkey;have hvv:=Ax (h1.ev (D5 E) hsy).1 hv;have hp:=Tn hkt;have hlive:live ((settleO st y).L k):=by
    simp only[mapM]at hes;cases hq:(settleO st y).L k<;>rw[hq]at hes<;>simp at hes<;>trivial
   have hL:∃b ents cl,B k= .map (some b)/\up za w0 k b/\¬Z1 b/\w.heap[b]? =some (.map ents cl)/\mJ ents cl/\Kj w Z1 ka kt va vt ents.toList es:=by
    simp only[mapM]at hes;have:=h1.locs k;cases hq:(settleO st y).L k with
    |map ka' kt' va' vt' es'=>
     rw[hq]at hes this;simp only at hes;split at hes
     . rename_i hh;cases hh;cases hes;exact this
     . cases hes
    | _=>rw[hq]at hes;simp at hes
   obtain⟨b,ents,cl,hB,hub,hnz,hb,hmo,he⟩:=hL;have hmv:Gw.ev E m= .map (some b):=(show Gw.ev E m=B k from hc.1).trans hB;have hlt:b<w.heap.size:=(Array.getElem?_eq_some_iff.1 hb).1;have hck:=fun em=>Le hkt hk w em
   have hfk:=Rj hkt hk w he;have hgo:(getObj b).run cx.P w= .ok (.map ents cl) w:=by simp[getObj,Sem.run,hb]
   have hset:∀o,(setObj b o).run cx.P w= .ok () {w with heap:=w.heap.setIfInBounds b o} :=fun o=>by simp[setObj,Sem.run,hb]
   have hchg:∀o,IH b w {w with heap:=w.heap.setIfInBounds b o} :=fun o=>⟨rfl,rfl,⟨rfl,Nat.le_refl _⟩,by simp,fun q hq=>by simp[Array.getElem?_setIfInBounds,Ne.symm hq]⟩
   have hnew:∀o,({w with heap:=w.heap.setIfInBounds b o} :World).heap[b]? =some o:=fun o=>by simp[Array.getElem?_setIfInBounds,hlt]
   have fin:∀ents' cl',mJ ents' cl'->Kj w Z1 ka kt va vt ents'.toList (Wy kt key v es)->∃Z' B',C0 za w0 ((settleO st y).setL k (.map ka kt va vt (Wy kt key v es))) E {w with heap:=w.heap.setIfInBounds b (.map ents' cl')} Z' B':=fun ents' cl' hmo' he'=>by
    have hsame:N5 Z1 w {w with heap:=w.heap.setIfInBounds b (.map ents' cl')} :=fun z hz=>(hchg _).2.2.2.2 z (fun hh=>hnz (hh▸hz))
    exact⟨Z1,B,h1.chg hlive (A4.of hlive (by rw[hB];rfl)) (hchg _) (lc:= .map ka kt va vt (Wy kt key v es)) ⟨b,ents',cl',hB,hub,hnz,hnew _,hmo',he'.mono (fun _=>id) hsame⟩ trivial (fun _ hh=> .inl hh)⟩
   have hput:=OZ (cl:=cl) (kv:=Gw.ev E x) (vv:=Gw.ev E y) hk hvv (i:=0) he;rcases Re (k:=key) (i:=0) he with⟨g1,_⟩ | ⟨j,en,yv,g1,g2,g3,g4,g5,g6⟩
   . have hrun:(Instr.mapUpdate T (Gw.ev E m) (Gw.ev E x) (Gw.ev E y)).run cx.P w= .ok () {w with heap:=w.heap.setIfInBounds b (.map (ents.push {key:=Gw.ev E x,val:=Gw.ev E y,born:=cl}) (cl+1))} :=by
      unfold Instr.mapUpdate;simp only[Sem.run_bind,run_underlying hu,Result.andThen_ok,hmv,hgo,hck,hfk,g1,Option.bind_none,hset]
     refine⟨_,fun _ _ _ _=> ?_,fun _ _ _ _=> ?_,fin _ (cl+1) ⟨fun x hx=> ?_, ?_⟩ (by rw[Array.toList_push];exact hput.1 g1)⟩
     . simp[execOp,hrun]
     . simp[execOp,hrun]
     . rw[Array.toList_push,List.mem_append]at hx;rcases hx with hx|hx
       . have:=hmo.1 x hx;omega
       . simp at hx;subst hx;exact Nat.lt_succ_self _
     . rw[Array.toList_push,List.map_append,List.nodup_append];refine⟨hmo.2,by simp,fun a ha b hb'=> ?_⟩;simp at hb';obtain⟨x,hx,rfl⟩:=List.mem_map.1 ha;have:=hmo.1 x hx;omega
   . have hkk:=(Tf hp).1 g6;rw[<-hkk]at g5;have hsk:=bP hp g5 hk;have hg:ents[j]? =some en:=by simpa using g2
     have hsb:=bO hp hk;have hrun:(Instr.mapUpdate T (Gw.ev E m) (Gw.ev E x) (Gw.ev E y)).run cx.P w= .ok () {w with heap:=w.heap.setIfInBounds b (.map (ents.modify j fun e=> {e with key:=Gw.ev E x,val:=Gw.ev E y}) cl)} :=by
      have g1':N2 kt key es 0=some j:=by rw[g1,Nat.zero_add]
      unfold Instr.mapUpdate;simp only[Sem.run_bind,run_underlying hu,Result.andThen_ok,hmv,hgo,hck,hfk,g1',Option.bind_some,g2,Option.map_some,hg,Option.getD_some,hsk];simp[Instr.keyThatStays,hsb,hset]
     refine⟨_,fun _ _ _ _=> ?_,fun _ _ _ _=> ?_,fin _ cl ⟨fun z hx=> ?_, ?_⟩ (by rw[Array.toList_modify];exact hput.2 j g1)⟩
     . simp[execOp,hrun]
     . simp[execOp,hrun]
     . rw[Array.toList_modify]at hx;have:z.born∈(ents.toList.modify j fun e=> {e with key:=Gw.ev E x,val:=Gw.ev E y}).map (·.born):=List.mem_map_of_mem hx;rw[Et (fun e:MapEntry=> {e with key:=Gw.ev E x,val:=Gw.ev E y}) (fun _=>rfl)]at this;obtain⟨z',hz,hzb⟩:=List.mem_map.1 this;have:=hmo.1 z' hz;omega
     . rw[Array.toList_modify,Et (fun e:MapEntry=> {e with key:=Gw.ev E x,val:=Gw.ev E y}) (fun _=>rfl)];exact hmo.2
 . cases hs
theorem GB {ka va:Bool} {kt vt:Ty} {q:Nat} {es:List (kt.den×vt.den)} (h:mapM st ka kt va vt q=some es):st.L q= .map ka kt va vt es:=by
 unfold mapM at h;split at h
 . rename_i hk;split at h
   . rename_i hh;cases hh;cases h;exact hk
   . cases h
 . cases h
theorem G4.setEnt {κ ν:Type} {Rk:Value->κ->Prop} {Rv:Value->ν->Prop} {v:ν} {vv:Value} (hv:Rv vv v):∀ {l:List (κ×ν)} {es:List MapEntry} (j:Nat),O8 Rk Rv es l->O8 Rk Rv (es.modify j fun e=> {e with val:=vv}) (jJ j v l)
 | [],_,j,h=>by rw[show _= _ from h];cases j<;>rfl
 |x::l,_,0,⟨e,es',he,h1,h2,h3⟩=>by subst he;exact⟨_,_,rfl,h1,hv,h3⟩
 |x::l,_,j+1,⟨e,es',he,h1,h2,h3⟩=>by subst he;exact⟨e,_,rfl,h1,h2,G4.setEnt hv j h3⟩
theorem FR {n:Nat} :∀ {l:List MapEntry} {j:Nat} {e:MapEntry},(l.map (·.born)).Nodup->l[j]? =some e->e.born=n->l.findIdx? (fun x=>(x.born:Int)==(n:Int))=some j
 | [],_,_,_,h,_=>by simp at h
 |x::l,0,e,hn,h,hb=>by simp at h;subst h;simp[List.findIdx?_cons,hb]
 |x::l,j+1,e,hn,h,hb=>by
  simp only[List.map_cons,List.nodup_cons]at hn;simp only[List.getElem?_cons_succ]at h;have hne:x.born≠n:=fun hh=>hn.1 (hh▸hb▸List.mem_map_of_mem (List.mem_of_getElem? h))
  have h0:((x.born:Int)==(n:Int))=false:=by simp;omega
  rw[List.findIdx?_cons,h0,FR hn.2 h hb];simp
theorem kK (h:C0 za w0 st E w Z B) {T:TypeId} {m s y:Operand} (hs:OY st m s y=some st'):∃w',Gw.EV cx.P E ty (.entryStore T m s y) w w'/\∃Z' B',C0 za w0 st' E w' Z' B':=by
 simp only[OY,Option.bind_eq_bind,bind_some]at hs;obtain⟨c,⟨sm,hsm,hcm⟩,cs,⟨ss,hss,hcs⟩,sy,hsy,hs⟩:=hs;obtain⟨Z1,h1⟩:=h.settleO y;have hc:=h1.c1 (D5 E) (bind_some.2 ⟨sm,hsm,hcm⟩);have hst:=h1.c1 (D5 E) (bind_some.2 ⟨ss,hss,hcs⟩);split at hs
 . rename_i k q;split at hs
   . rename_i ka kt va vt es j q' hk;obtain⟨hqq,v,hv,hs2⟩:Nat.beq q q'=true/\∃v,Gq va vt sy=some v/\(settleO st y).setL k (.map ka kt va vt (jJ j v es))=st':=by
      cases hqq:Nat.beq q q' with
      |false=>simp[hqq]at hs
      |true=>
       refine⟨rfl, ?_⟩;cases hv:Gq va vt sy with
       |none=>simp[hqq,hv]at hs
       |some v=>simp[hqq,hv]at hs;exact⟨v,rfl,hs⟩
     clear hs;have hqq:=Nat.eq_of_beq_eq_true hqq;subst hqq;subst hs2;have hvv:=Ax (h1.ev (D5 E) hsy).1 hv;have hL:=h1.locs k;rw[hk]at hL;obtain⟨b,ents,cl,hB,hub,hnz,hb,⟨hmo,he⟩,en,hen,hBq⟩:=hL;have hmv:Gw.ev E m= .map (some b):=(show Gw.ev E m=B k from hc.1).trans hB;have hsv:Gw.ev E s= .int .i64 en.born:=(show Gw.ev E s=B q from hst.1).trans hBq;have hlt:b<w.heap.size:=(Array.getElem?_eq_some_iff.1 hb).1;have hgo:(getObj b).run cx.P w= .ok (.map ents cl) w:=by simp[getObj,Sem.run,hb]
     have hset:∀o,(setObj b o).run cx.P w= .ok () {w with heap:=w.heap.setIfInBounds b o} :=fun o=>by simp[setObj,Sem.run,hb]
     have hfi:ents.findIdx? (fun x=>(x.born:Int)==(en.born:Int))=some j:=by
      have:=FR hmo.2 hen rfl;rw[<-List.findIdx?_toArray]at this;simpa using this
     have hrun:(Instr.entryStore T (Gw.ev E m) (Gw.ev E s) (Gw.ev E y)).run cx.P w= .ok () {w with heap:=w.heap.setIfInBounds b (.map (ents.modify j fun e=> {e with val:=Gw.ev E y}) cl)} :=by
      unfold Instr.entryStore;rw[hmv,hsv];simp only[Sem.run_bind,hgo,Result.andThen_ok,asInt,asIntOf,Sem.run_pure,hfi,hset]
     have hchg:IH b w {w with heap:=w.heap.setIfInBounds b (.map (ents.modify j fun e=> {e with val:=Gw.ev E y}) cl)} :=⟨rfl,rfl,⟨rfl,Nat.le_refl _⟩,by simp,fun q hq=>by simp[Array.getElem?_setIfInBounds,Ne.symm hq]⟩;have hsame:N5 Z1 w {w with heap:=w.heap.setIfInBounds b (.map (ents.modify j fun e=> {e with val:=Gw.ev E y}) cl)} :=fun z hz=>hchg.2.2.2.2 z (fun hh=>hnz (hh▸hz))
     have hborn:=Et (fun e:MapEntry=> {e with val:=Gw.ev E y}) (fun _=>rfl) ents.toList j;refine⟨_,fun _ _ _ _=>by simp[execOp,hrun],Z1,B,h1.chg (k:=k) (lc:= .map ka kt va vt (jJ j v es)) (by rw[hk];trivial) (by rw[hk,hB];rfl) hchg ⟨b,_,cl,hB,hub,hnz,by simp[Array.getElem?_setIfInBounds,hlt];rfl,⟨fun z hz=> ?_, ?_⟩, ?_⟩ trivial (fun _ hh=> .inl hh)⟩
     . rw[Array.toList_modify]at hz;have:z.born∈(ents.toList.modify j fun e=> {e with val:=Gw.ev E y}).map (·.born):=List.mem_map_of_mem hz;rw[hborn]at this;obtain⟨z',hz',hzb⟩:=List.mem_map.1 this;have:=hmo.1 z' hz';omega
     . rw[Array.toList_modify,hborn];exact hmo.2
     . rw[Array.toList_modify];exact Kj.mono (fun _=>id) hsame (G4.setEnt hvv j he)
   . cases hs
 . cases hs
theorem lB (h:C0 za w0 st E w Z B) (hty:G9 cx.P cx.tys=true) {T:TypeId} {m x:Operand} (hs:PX cx st d T m x=some st') (hk:k st') (hg:D4 all ⟨some d, .mapEntry T m x,ty,pos,aft,g⟩ E=true):M2 cx.P all ⟨some d, .mapEntry T m x,ty,pos,aft,g⟩ (SS za w0 w true k) E w:=by
 simp only[PX,Option.bind_eq_bind,bind_some]at hs;obtain⟨ti,hti,c,⟨sm,hsm,hcm⟩,sk,hsk,hs⟩:=hs;split at hs
 . rename_i ka kt va vt q hT;simp only[bind_some]at hs;obtain⟨es,hes,key,hkey,hs⟩:=hs;obtain⟨hnp,hs⟩:=H9 hs;cases hs;obtain⟨hu,hkt,hz,hva⟩:=Pk (B4 hty hti) hT;have hc:=h.c1 (D5 E) (bind_some.2 ⟨sm,hsm,hcm⟩);have hkv:=Ax (h.ev (D5 E) hsk).1 hkey;have hp:=Tn hkt;obtain⟨z,hz1,hz2⟩:=Db hz;have hzr:X3 va vt w Z z vt.dflt:=by
    have hzz:=Zg (w:=w) (Z:=Z) hnp;rw[<-hz2]at hzz;unfold Zf at hva;rw[hz1]at hva;cases z with
    |agg cs=>cases va<;>simp at hva;exact⟨cs.toList,by simp,hzz⟩
    |tuple _=>simp at hva
    | _=>cases va<;>simp at hva<;>exact hzz
   have hq:=GB hes;have hL:=h.locs q;rw[hq]at hL;obtain⟨b,ents,cl,hB,hub,hnz,hb,hmo,he⟩:=hL;have hmv:Gw.ev E m= .map (some b):=(show Gw.ev E m=B q from hc.1).trans hB;have hlt:b<w.heap.size:=(Array.getElem?_eq_some_iff.1 hb).1;have hck:=fun em=>Le hkt hkv w em
   have hfk:=Rj hkt hkv w he;have hgo:(getObj b).run cx.P w= .ok (.map ents cl) w:=by simp[getObj,Sem.run,hb]
   have hset:∀o,(setObj b o).run cx.P w= .ok () {w with heap:=w.heap.setIfInBounds b o} :=fun o=>by simp[setObj,Sem.run,hb]
   have hqn:q<st.nx:=Dj h (by rw[hq];trivial);have hqeq:Wa kt key key=true:=(Tf hp).2 rfl;have fin:∀(ents':Array MapEntry) (cl':Nat) (u:Value) (en:MapEntry),(Instr.mapEntry T (Gw.ev E m) (Gw.ev E x)).run cx.P w= .ok (.tuple #[u,goInt en.born]) {w with heap:=w.heap.setIfInBounds b (.map ents' cl')} ->mJ ents' cl'->Kj w Z ka kt va vt ents'.toList (Wy kt key ((V9 kt key es).getD vt.dflt) es)->X3 va vt w Z u ((V9 kt key es).getD vt.dflt)->ents'.toList[(N2 kt key es 0).getD es.length]? =some en->M2 cx.P all ⟨some d, .mapEntry T m x,ty,pos,aft,g⟩ (SS za w0 w true k) E w:=fun ents' cl' u en hrun hmo' he' hu' hen=>by
    have hchg:IH b w {w with heap:=w.heap.setIfInBounds b (.map ents' cl')} :=⟨rfl,rfl,⟨rfl,Nat.le_refl _⟩,by simp,fun q hq=>by simp[Array.getElem?_setIfInBounds,Ne.symm hq]⟩;have hsame:N5 Z w {w with heap:=w.heap.setIfInBounds b (.map ents' cl')} :=fun z hz=>hchg.2.2.2.2 z (fun hh=>hnz (hh▸hz))
    have h2:=h.new (v:= .int .i64 en.born) (lc:= .al q) trivial (fun _ _ hb=>hb.elim) trivial rfl (fun _ _ hb=>hb.elim);have hq2:(st.newL (.al q)).L q= .map ka kt va vt es:=by rw[St.L_newL,if_neg (Nat.ne_of_lt hqn),hq]
    have hBq:(upd B st.nx (.int .i64 en.born)) q= .map (some b):=by rw[C1 _ _ _ _ (Nat.ne_of_lt hqn)];exact hB
    have h3:=h2.chg (k:=q) (lc:= .mapE ka kt va vt (Wy kt key ((V9 kt key es).getD vt.dflt) es) ((N2 kt key es 0).getD es.length) st.nx) (by rw[hq2];trivial) (by rw[hq2,hBq];rfl) hchg
     ⟨b,ents',cl',hBq,hub,hnz,by simp[Array.getElem?_setIfInBounds,hlt],⟨hmo',Kj.mono (fun _=>id) hsame he'⟩,en,hen,A9 _ _ _⟩ (Nat.lt_succ_self _) (fun _ hh=> .inl hh)
    refine J9 (v:= .tuple #[u,goInt en.born]) (fun _ _ _ _=>by simp[execOp,hrun]) hg ⟨fun hh=>(by cases hh),_,_,_,h3.setS d (x:= .tup [⟨va,explode vt ((V9 kt key es).getD vt.dflt)⟩,⟨false,[.row st.nx]⟩]) ⟨[u,goInt en.born],rfl,_,_,rfl,X3.explode (hu'.mono (fun _=>id) hsame),_,_,rfl,⟨_,[],rfl,(A9 _ _ _).symm,rfl⟩,rfl⟩ (fun s hs c hc=> ?_),hk⟩;simp only[List.mem_cons,List.not_mem_nil,or_false]at hs;rcases hs with rfl|rfl
    . exact D8 c hc
    . simp at hc;subst hc;exact Nat.lt_succ_self _
   have hput:=fun vv (hv:X3 va vt w Z vv ((V9 kt key es).getD vt.dflt))=>OZ (cl:=cl) (kv:=Gw.ev E x) (vv:=vv) hkv hv (i:=0) he
   have hlen:=O8.len he;rcases Re (k:=key) (i:=0) he with⟨g1,g2⟩ | ⟨j,en,yv,g1,g2,g3,g4,g5,g6⟩
   . refine fin (ents.push {key:=Gw.ev E x,val:=z,born:=cl}) (cl+1) z {key:=Gw.ev E x,val:=z,born:=cl} ?_ ⟨fun y hy=> ?_, ?_⟩ ?_ (by rw[g2];exact hzr) ?_
     . unfold Instr.mapEntry;simp only[Sem.run_bind,run_underlying hu,Result.andThen_ok,hmv,hgo,hck,hfk,g1,Option.bind_none,SR hz1,hset,Sem.run_pure]
     . rw[Array.toList_push,List.mem_append]at hy;rcases hy with hy|hy
       . have:=hmo.1 y hy;omega
       . simp at hy;subst hy;exact Nat.lt_succ_self _
     . rw[Array.toList_push,List.map_append,List.nodup_append];refine⟨hmo.2,by simp,fun a ha b hb'=> ?_⟩;simp at hb';obtain⟨y,hy,rfl⟩:=List.mem_map.1 ha;have:=hmo.1 y hy;omega
     . rw[Array.toList_push];exact(hput z (by rw[g2];exact hzr)).1 g1
     . rw[g1,Array.toList_push,Option.getD_none, <-hlen];simp
   . have hkk:=(Tf hp).1 g6;rw[<-hkk]at g5;have hsk:=bP hp g5 hkv;have hgj:ents[j]? =some en:=by simpa using g2
     have hsb:=bO hp hkv;have g1':N2 kt key es 0=some j:=by rw[g1,Nat.zero_add]
     have hmod:(ents.modify j fun e=> {e with key:=Gw.ev E x})=ents:=by
      apply Array.ext_getElem?;intro i;rw[Array.getElem?_modify];split
      . rename_i hij;subst hij;rw[hgj];simp[<-hsk]
      . rfl
     refine fin ents cl en.val en ?_ hmo ?_ (by rw[g3];exact g4) (by rw[g1'];exact g2)
     . unfold Instr.mapEntry;simp only[Sem.run_bind,run_underlying hu,Result.andThen_ok,hmv,hgo,hck,hfk,g1',Option.bind_some,g2,Option.map_some,hgj,Option.getD_some,hsk];simp[Instr.keyThatStays,hsb,hset,hmod]
     . have h5:=(hput en.val (by rw[g3];exact g4)).2 j g1;have hm2:(ents.toList.modify j fun e=> {e with key:=Gw.ev E x,val:=en.val})=ents.toList:=by
        apply List.ext_getElem?;intro i;rw[List.getElem?_modify];split
        . rename_i hij;subst hij;rw[g2];simp[<-hsk]
        . cases ents.toList[i]? <;>rfl
       rw[hm2]at h5;exact h5
 . cases hs
def Hc {α:Type} (d:α) (lo hi:Nat) (l:List α):List α:=l.take lo++(List.replicate (hi-lo) d++l.drop hi)
theorem OL {α:Type} {d:α} {lo hi:Nat} {l:List α} (h1:lo<=hi) (h2:hi<=l.length):(Hc d lo hi l).length=l.length:=by
 unfold Hc;simp only[List.length_append,List.length_take,List.length_replicate,List.length_drop];omega
def OM (cx:Cx) (st:St) (T:TypeId) (x:Operand):Option St:=do
 let ti<-cx.ti T
 let t<-slT ti.ty
 let c<-(st.ev [] x).bind c1
 match c with
 | .win k sz lo hi=>match st.L k with
  | .row t' e l=>if t'=t then(bif Nat.beq sz t'.size&&Mb t' then some (st.setL k (.row t' e (Hc t'.dflt lo.toNat hi.toNat l)))else none)else none
  | _=>none
 | _=>none
theorem kG {ty:TypeId} {st':St} (h:C0 za w0 st E w Z B) (hty:G9 cx.P cx.tys=true) {T:TypeId} {x:Operand} (hs:OM cx st T x=some st'):∃v w',Gw.C8 cx.P E ty (.call ⟨.builtin .clear, #[x], #[T]⟩) w v w'/\C0 za w0 st' E w' Z B:=by
 simp only[OM,Option.bind_eq_bind,bind_some]at hs;obtain⟨ti,hti,t,ht,c,⟨s,hs1,hs2⟩,hs⟩:=hs;have ht:=Fu ht;obtain⟨i,z,hu,hi0,hz,hsz,hzc,hzs,hbt,hsl⟩:=Es (B4 hty hti) ht;obtain⟨hx,hrf⟩:=h.c1 (D5 E) (bind_some.2 ⟨s,hs1,hs2⟩);split at hs
 . rename_i k sz lo hi;split at hs
   . rename_i t' e l hk;split at hs
     . rename_i heq;subst heq;obtain⟨hd,hs⟩:=H9 hs;cases hs;simp only[Bool.and_eq_true]at hd;have hsz1:=Nat.eq_of_beq_eq_true hd.1;subst hsz1;obtain⟨a,n,cap,hB,ga,gn,g0,g1,g2,g3,g4,hv⟩:=hx;have hL:=h.locs k;rw[hk]at hL;obtain⟨xs,hown,hex,hUZ⟩:=hL;have hnl:n=l.length:=by
        rcases hown.2 with⟨hBk,h0⟩ | ⟨g,cap',cur,hBk,_⟩
        . rw[hB]at hBk;cases hBk;exact h0.symm
        . rw[hB]at hBk;cases hBk;rfl
       have hlo:lo.toNat<=hi.toNat:=by omega
       have hhi:hi.toNat<=l.length:=by omega
       by_cases hzz:hi.toNat-lo.toNat=0
       . refine⟨.tuple #[],w,fun _ _ _ _=> ?_, ?_⟩
         . rw[hzz]at hv;simp only[execOp,resolve,invoke,builtin,hv,List.map_toArray,List.map_cons,List.map_nil];cases(if cap=lo.toNat then a else a.map (·.add (lo.toNat*t'.size)))<;>simp[Builtin.clear_,run_underlying hu]
         . have e1:Hc t'.dflt lo.toNat hi.toNat l=l:=by
            unfold Hc;rw[hzz,show hi.toNat=lo.toNat from by omega];simp
           rw[e1];exact h.relc (by rw[hk];trivial) ⟨xs,hown,hex,hUZ⟩ trivial (fun b hb=> .inl hb)
       . rcases hown.2 with⟨hBk,h0⟩ | ⟨g,cap',cur,hBk,hg0,hgh,hnc,hcm,hcs,htk⟩
         . omega
         . rw[hB]at hBk;cases hBk;have hne:cap≠lo.toNat:=by omega
           rw[if_neg hne,Option.map_some,L4,Nat.zero_add]at hv;have hxl:=hex.length (fun c x=>C6.length);have hm1:(hi.toNat-lo.toNat)*t'.size+lo.toNat*t'.size=hi.toNat*t'.size:=by rw[<-Nat.add_mul];congr 1;omega
           have hm2:hi.toNat*t'.size<=l.length*t'.size:=Nat.mul_le_mul_right _ hhi;have hm3:l.length*t'.size<=cap*t'.size:=Nat.mul_le_mul_right _ hnc;have hzl:(Builtin.zeroCells z.cells (hi.toNat-lo.toNat)).toList.length=(hi.toNat-lo.toNat)*t'.size:=by rw[Array.length_toList,size_zeroCells,hzs]
           have hze:G4 (C6 t' w Z) (Builtin.zeroCells z.cells (hi.toNat-lo.toNat)).toList (List.replicate (hi.toNat-lo.toNat) t'.dflt):=by
            have:=Zr (w:=w) (Z:=Z) hzc hd.2 hzs (hi.toNat-lo.toNat) (hi.toNat-lo.toNat) (Nat.le_refl _);rw[List.take_of_length_le (by rw[Array.length_toList,size_madeCells];exact Nat.le_refl _)]at this;have e2:Builtin.zeroCells z.cells (hi.toNat-lo.toNat)=madeCells z.cells ((hi.toNat-lo.toNat)*t'.size):=by unfold Builtin.zeroCells madeCells;rw[hzs]
            rw[e2];exact this
           have hst:=run_storeCells_at cx.P g (lo.toNat*t'.size) e (Builtin.zeroCells z.cells (hi.toNat-lo.toNat)).toList 0 cur w hgh (by rw[hzl,hcs];omega) hze.oneCell;rw[hzl,Nat.add_zero]at hst;generalize hcur':(cur.toList.take (lo.toNat*t'.size)++(Builtin.zeroCells z.cells (hi.toNat-lo.toNat)).toList++cur.toList.drop (lo.toNat*t'.size+(hi.toNat-lo.toNat)*t'.size)).toArray=cur' at hst;have hchg:IH g w (w.setRow g cur'):=⟨rfl,rfl,⟨rfl,Nat.le_refl _⟩,by simp,fun k hk=>setRow_other w g k _ hk⟩;have hroot:root (B k)=some g:=by rw[hB];rfl
           obtain⟨hU,hnz⟩:=hUZ g (by rw[hB];rfl);have hsame:N5 Z w (w.setRow g cur'):=fun z hz=>hchg.2.2.2.2 z (fun hh=>hnz (hh▸hz))
           have hnew:G4 (C6 t' (w.setRow g cur') Z) (xs.take (lo.toNat*t'.size)++((Builtin.zeroCells z.cells (hi.toNat-lo.toNat)).toList++xs.drop (hi.toNat*t'.size))) (Hc t'.dflt lo.toNat hi.toNat l):=
            (((hex.take (fun c x=>C6.length) _).append (hze.append (hex.drop (fun c x=>C6.length) _)))).mono fun c x=>C6.mono (fun _=>id) hsame
           have hcl:=OL (d:=t'.dflt) hlo hhi;obtain⟨m,hm⟩:∃m,hi.toNat-lo.toNat=m+1:=⟨hi.toNat-lo.toNat-1,by omega⟩;refine⟨.tuple #[],w.setRow g cur',fun _ _ _ _=> ?_, ?_⟩
           . have hzv:(zeroValue ti.elem).run cx.P w= .ok z w:=by simp[zeroValue,typeInfo,hi0,hz]
             rw[hm]at hv hst;simp[execOp,resolve,invoke,builtin,hv,Builtin.clear_,run_underlying hu,hzv,hst]
           . refine h.chg (by rw[hk];trivial) (by rw[hk];exact hroot) hchg ⟨_,⟨?_, .inr ⟨g,cap,cur', ?_,hg0,setRow_heap w g cur _ e _ hgh, ?_,hcm, ?_, ?_⟩⟩,hnew,fun b hb=>hUZ b hb⟩ trivial (fun b hb=> .inl hb)
             . rw[hnew.length (fun c x=>C6.length)]
             . rw[hcl];exact hB
             . rw[hcl];exact hnc
             . rw[<-hcur'];simp only[List.size_toArray,List.length_append,List.length_take,List.length_drop,Array.length_toList,hcs];rw[<-Array.length_toList,hzl];omega
             . have hla:(cur.toList.take (lo.toNat*t'.size)).length=lo.toNat*t'.size:=by rw[List.length_take,Array.length_toList,hcs];omega
               rw[hcl, <-hcur', <-htk,List.toList_toArray,show lo.toNat*t'.size+(hi.toNat-lo.toNat)*t'.size=hi.toNat*t'.size from by omega,List.take_take,Nat.min_eq_left (show lo.toNat*t'.size<=l.length*t'.size from by omega),List.drop_take,List.append_assoc,List.take_append,hla,List.take_append,hzl,List.take_of_length_le (show(cur.toList.take (lo.toNat*t'.size)).length<=l.length*t'.size from by rw[hla];omega),List.take_of_length_le (show(Builtin.zeroCells z.cells (hi.toNat-lo.toNat)).toList.length<=l.length*t'.size-lo.toNat*t'.size from by rw[hzl];omega)];congr 3;omega
     . cases hs
   . cases hs
 . cases hs
end
end Go.Vc
