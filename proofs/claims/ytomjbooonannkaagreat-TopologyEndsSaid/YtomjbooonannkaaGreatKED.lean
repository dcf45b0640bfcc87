/- Part. -/
import Derived.Test.YtomjbooonannkaaGreatKEC
set_option linter.all false
namespace Go.Vc
open Go Go.RowKit Go.Gw
theorem D7 {α:Type} {c:Bool} {a:Option α} {x:α} (h:(bif c then a else none)=some x):c=true/\a=some x:=by
 cases c
 . cases h
 . exact⟨rfl,h⟩
theorem B9 {c:Bool} {p:Prop} (h:bif c then p else False):c=true/\p:=by
 cases c
 . exact h.elim
 . exact⟨rfl,h⟩
def Oq (st:St):Nat->Tmp->Bool
 |0,_=>false
 |n+1,t=>match st.S t with
  | .one v=>(FN v).isSome
  | .cnd t' _ v=>(FN v).isSome&&Oq st n t'
  | _=>false
def Gm:List RT->Bool
 | []=>true
 |r::rs=> !(Av r)&&Gm rs
def Lr (st:St) (ctx:Hq) (f:Operand) (args:List Operand):Option (FuncId×List SV):=do
 let c<-(st.ev ctx f).bind c1
 let ss<-evL st ctx args
 match c with
 | .fn g ks=>bif ks.all (fun k=>Qh (st.L k))then some (g,ss++ks.map fun k=>⟨false,[.box k 0]⟩)else none
 | _=>none
def thaw (st:St) (k:Nat):St:=match st.L k with
 | .rows t e _ ls _ none=>bif Nat.ble st.nm k then(st.setL k .none).setL k (.row (.sl t) e ls)else st
 | _=>st
def thawS (st:St):SV->St
 | ⟨false,[.row k]⟩=>thaw st k
 | _=>st
def settleA:St->List AM->List SV->St
 |st, .val _ _::r,s::ss=>settleA (settle st s.cs) r ss
 |st, .row _ _::r,s::ss=>settleA (thawS st s) r ss
 |st, .box _ _::r,_::ss=>settleA st r ss
 |st, .fn _ _ _::r,_::ss=>settleA st r ss
 |st, .rows _ _ _::r,_::ss=>settleA st r ss
 |st,_,_=>st
def dropM:St->List Nat->St
 |st,[]=>st
 |st,k::ks=>dropM (st.setL k .none) ks
def addM:(as:List AM)->Rr as->List Nat->St->St
 | .row t e::r,o,k::ks,st=>addM r o.2 ks (st.setL k (.row t e o.1))
 | .box T t::r,o,k::ks,st=>addM r o.2 ks (st.setL k (.box T (explode t o.1)))
 | .val _ _::r,o,ks,st=>addM r o ks st
 | .fn _ _ _::r,o,ks,st=>addM r o ks st
 | .rows t e e'::r,o,k::ks,st=>addM r o.2 ks (st.setL k (.rows t e e' o.1 [] none))
 | _,_,_,st=>st
def Ta (cx:Cx) (sp:F3) (st:St) (d:Tmp) (s:A8) (ss:List SV) (k:St->Prop):Prop:=
 match X5 s.args ss with
 |some mu=>bif Xe mu then
  (bif O7 s.args then N7 cx sp st mu s.shared s.args ss fun x=>s.pre x/\∀r o,rwf s.res r->owf s.args o->s.post x r->s.mpost x r o->k ((addM s.args o mu (G1 s.res r (dropM st mu)).2).setS d (nK (G1 s.res r (dropM st mu)).1))
   else N7 cx sp st mu s.shared s.args ss fun x=>s.pre x/\∀r,rwf s.res r->s.post x r->k ((G1 s.res r st).2.setS d (nK (G1 s.res r st).1)))
  else False
 |none=>False
def stillF (cx:Cx):St->List AM->List SV->St
 |st,a::r,s::ss=>stillF cx (match a,c1 s with
  | .fn _ _ _,some (.fn _ ks)=>ks.foldl (stillB cx) st
  | _,_=>st) r ss
 |st,_,_=>st
def cL (st:St) (sh:Bool):(as:List (Bool×Ty))->List SV->Option (Dp as)
 | [],[]=>some ()
 | (a,t)::r,s::ss=>(VE st [] sh a t s).bind fun x=>(cL st sh r ss).map fun y=>(x,y)
 | _,_=>none
def Tb (cx:Cx) (sp:F3) (st:St) (d:Tmp) (f:Operand) (args:List Operand) (k:St->Prop):Prop:=
 match(st.ev [] f).bind c1 with
 |some (.fv P as ra r ok φ)=>(match evL st [] args with
  |some ss=>(match cL st (!(Lt r)) as ss with
   |some y=>P=cx.P/\ok y/\(r.wf (φ y)->k (st.setS d (.one ⟨ra,explode r (φ y)⟩)))
   |none=>False)
  |none=>False)
 | _=>match Lr st [] f args with
  |some (g,ss)=>match Ah g sp with
   |some s=>bif Fi cx.P g then
    (match s.inl with
    |some run=>run.run d st ss fun st' ss'=>k (st'.setS d (nK ss'))
    |none=>bif s.shared then
     (match Lr (settleA (stillF cx st s.args ss) s.args ss) [] f args with
      |some (g',ss')=>bif Nat.beq g' g then Ta cx sp (settleA (stillF cx st s.args ss) s.args ss) d s ss' k else False
      |none=>False)
    else Ta cx sp st d s ss k)
    else False
   |none=>False
  |none=>False
def NQ (sp:F3) (st:St) (o:Oper):Bool:=match o.op with
 | .call ⟨.value f,_,_⟩=>match(st.ev [] f).bind c1 with
  |some (.fn g _)=>(match Ah g sp with
   |some s=>s.inl.isSome||O7 s.args
   |none=>true)
  |some (.fv _ _ _ _ _ _)=>false
  | _=>o.guard.isNone
 | _=>false
def oJ (q:Nat):DV->Bool
 | .one ⟨false,[.box k 0]⟩=>Nat.beq k q
 | _=>false
def A3q (st:St) (ts:List Nat) (q:Nat):Bool:=ts.any fun s=>oJ q (st.S s)
def A4h:AM->Bool
 | .row _ _=>false
 | .rows _ _ _=>false
 | _=>true
def kMu (st:St) (ts:List Nat) (as:List AM) (ss:List SV):Bool:=as.all A4h&&(match X5 as ss with
 |some mu=>mu.all (A3q st ts)
 |none=>false)
def bL (cx:Cx) (sp:F3) (st:St) (ts:List Nat) (o:Oper):Bool:=match o.op with
 | .call ⟨.value f,args,_⟩=>o.guard.isNone&&(match Lr st [] f args.toList with
  |some (g,ss)=>(match Ah g sp with
   |some s=> !s.inl.isSome&&(bif s.shared then(match Lr (settleA (stillF cx st s.args ss) s.args ss) [] f args.toList with
    |some (_,ss')=>kMu (settleA (stillF cx st s.args ss) s.args ss) ts s.args ss'
    |none=>false)else kMu st ts s.args ss)
   |none=>false)
  |none=>false)
 | _=>false
def A4z (sp:F3) (st:St):Op->Bool
 | .call ⟨.value f,_,_⟩=>match(st.ev [] f).bind c1 with
  |some (.fn g _)=>(match Ah g sp with
   |some s=>s.inl.isSome
   |none=>false)
  | _=>false
 | _=>false
def YK (sp:F3) (n0:Nat) (st:St) (op:Op):Bool:=YJ n0 st op&& !(A4z sp st op)&& !(DJ st op)
def SU (sp:F3) (st:St) (o:Oper):Bool:=gR o.op||NQ sp st o
def A6y (st:St) (f:Operand) (g:Nat):Bool:=match(st.ev [] f).bind c1 with
 |some (.fn g' _)=>Nat.beq g' g
 | _=>false
def XA (cx:Cx) (sp:F3) (st:St) (ctx:Hq) (t:Tmp) (b:Bool) (d:Tmp) (s:A8) (ss:List SV) (k:St->Prop):Prop:=
 match X5 s.args ss with
 |some mu=>bif Xe mu then
  N7 cx sp st mu s.shared s.args ss fun x=>(ctxP st ctx->s.pre x/\∀r o,rwf s.res r->owf s.args o->s.post x r->s.mpost x r o->(match(G1 s.res r (dropM st mu)).1 with
   | [sv]=>k ((addM s.args o mu (G1 s.res r (dropM st mu)).2).setS d (.cnd t b sv))
   | _=>False))/\((ctxP st ctx->False)->(match(G1 s.res (QT s.res) st).1 with
   | [sv]=>k (st.setS d (.cnd t b sv))
   | _=>False))
  else False
 |none=>False
def A0a (n:Nat):C->Bool
 | .row k=>Nat.blt k n
 | .box k _=>Nat.blt k n
 | .elp k _ _ _=>Nat.blt k n
 | .win k _ _ _=>Nat.blt k n
 | .mp k=>Nat.blt k n
 | .fn _ caps=>caps.all fun k=>Nat.blt k n
 | _=>true
theorem Wk {a b:Nat} (h:Nat.blt a b=true):a<b:=Nat.le_of_ble_eq_true h
theorem YT {n:Nat} {c:C} (h:A0a n c=true):Cd n c:=by
 cases c with
 |row k=>exact Wk h
 |box k _=>exact Wk h
 |elp k _ _ _=>exact Wk h
 |win k _ _ _=>exact Wk h
 |mp k=>exact Wk h
 |fn _ caps=>exact fun k hk=>Wk (List.all_eq_true.1 h k hk)
 | _=>trivial
def Rc (cx:Cx) (sp:F3) (st:St) (ctx:Hq) (t:Tmp) (b:Bool) (d:Tmp) (f:Operand) (args:List Operand) (k:St->Prop):Prop:=
 match(st.ev ctx f).bind c1 with
 |some (.fv P as ra r ok φ)=>(match evL st ctx args with
  |some ss=>(match cL st (!(Lt r)) as ss with
   |some y=>P=cx.P/\(ctxP st ctx->ok y)/\((ctxP st ctx->r.wf (φ y))->k (st.setS d (.cnd t b ⟨ra,explode r (φ y)⟩)))
   |none=>False)
  |none=>False)
 | _=>match Lr st ctx f args with
 |some (g,ss)=>match Ah g sp with
  |some s=>match s.inl with
   |some run=>(match run.res ss with
    |some sv=>bif Fi cx.P g&&sv.cs.all (A0a st.nx)then k (st.setS d (.cnd t b sv))else False
    |none=>False)
   |none=>bif Fi cx.P g&&Gm s.res then
    (bif O7 s.args then(bif A6y st f g then XA cx sp st ctx t b d s ss k else False)
     else N7 cx sp st [] s.shared s.args ss fun x=>(ctxP st ctx->s.pre x)/\∀r,(ctxP st ctx->rwf s.res r/\s.post x r)->(match(G1 s.res r st).1 with
      | [sv]=>k (st.setS d (.cnd t b sv))
      | _=>False))
    else False
  |none=>False
 |none=>False
def WV (cx:Cx) (st:St) (ctx:Hq) (t:Tmp) (b:Bool) (d:Tmp) (T:TypeId) (len:Nat) (parts:List (Nat×Operand)):Option St:=do
 let ti<-cx.ti T
 let ty<-slT ti.ty
 let ps<-Kp st ctx parts
 let xs<-Rt ty 0 ps
 bif Nat.beq xs.length len&&Nat.ble (len*ty.size) 16777216&&Nat.ble 1 ty.size then some (st.setS d (.cnd t b ⟨false,[.val (.sl ty) xs]⟩))else none
def Zt (st:St) (d:Tmp) (x:Operand) (k:St->Prop):Prop:=match(st.ev [] x).bind c1 with
 |some (.box q 0)=>match st.L q with
  | .itM _ _ _ _ _ _ _ _=>UW st d q k
  | .iter ka kt va vt left _=>(left= []->k (st.setS d (.tup [⟨false,[.val .bool false]⟩])))/\
   ∀(l1:List (kt.den×vt.den)) (y:kt.den×vt.den) (l2:List (kt.den×vt.den)),left=l1++y::l2->k ((st.setL q (.iter ka kt va vt (l1++l2) (some y))).setS d (.tup [⟨false,[.val .bool true]⟩,⟨ka,explode kt y.1⟩,⟨va,explode vt y.2⟩]))
  | _=>False
 | _=>False
def A4f (all:List Oper) (d:Option Tmp):Bool:=all.any fun p=>match p.op with
 | .call ⟨.builtin .append,args,_⟩=>(match args.toList,d with
  | .tmp t:: _,some d=>Nat.beq t d
  | _,_=>false)
 | _=>false
def A4j (T:TypeId) (l:List (Nat×TI)):List (Nat×TI):=match Ah T l with
 |some ti=>(T,{ti with rows:=false})::l
 |none=>l
def fE (cx:Cx) (all:List Oper) (o:Oper):Cx:=match o.op with
 | .lookup T _ _ _=>bif A4f all o.dst then cx else⟨cx.P,A4j T cx.tys⟩
 | _=>cx
def Uz (cx:Cx) (sp:F3) (all:List Oper) (o:Oper) (k:St->Prop) (st:St):Prop:=
 match o.guard with
 |none=>match Tx (fE cx all o) st [] o.op with
  |some (φ,v)=>match o.dst with
   |some d=>TB φ (k (st.setS d v))
   |none=>False
  |none=>match Xb cx st o.dst o.op with
   |some (φ,st')=>TB φ (k st')
   |none=>match o.op with
    | .store T p v=>match o.dst with
     |none=>match RH cx st T p v with
      |some (φ,st')=>TB φ (k st')
      |none=>False
     |some _=>False
    | .mapUpdate T m x y=>match o.dst with
     |none=>match JL cx st T m x y with
      |some st'=>k st'
      |none=>False
     |some _=>False
    | .insert T m x y=>match o.dst with
     |none=>match JL cx st T m x y with
      |some st'=>k st'
      |none=>False
     |some _=>False
    | .call ⟨.value f,args,_⟩=>match o.dst with
     |some d=>Tb cx sp st d f args.toList k
     |none=>False
    | .next x str=>match o.dst with
     |some d=>bif str then False else Zt st d x k
     |none=>False
    | .mapEntry T m x=>match o.dst with
     |some d=>match PX cx st d T m x with
      |some st'=>k st'
      |none=>False
     |none=>False
    | .entryStore _ m s y=>match o.dst with
     |none=>match OY st m s y with
      |some st'=>k st'
      |none=>False
     |some _=>False
    | .call ⟨.builtin .clear,args,ts⟩=>match o.dst,args.toList,ts.toList with
     |none,[x],[T]=>(match OM cx st T x with
      |some st'=>k st'
      |none=>False)
     | _,_,_=>False
    |op=>match o.dst with
     |some d=>match nL cx st d op with
      |some (φ,st')=>TB φ (k st')
      |none=>False
     |none=>False
 |some (j,b)=>match(all[j]?).bind (·.dst)with
  |some t=>bif Oq st 20 t then(match o.dst with
   |some d=>bif !(Nat.beq t d)then(match Tx cx st (gctx st 20 t b) o.op with
    |some (φ, .one s)=>bif s.cs.all (A0a st.nx)then TB (A1w (ctxP st (gctx st 20 t b)) φ) (k (st.setS d (.cnd t b s)))else False
    |some _=>False
    |none=>match o.op with
     | .call ⟨.value f,args,_⟩=>Rc cx sp st (gctx st 20 t b) t b d f args.toList k
     | .buildSlice T len parts=>(match WV cx st (gctx st 20 t b) t b d T len parts.toList with
      |some st'=>k st'
      |none=>False)
     | .load T x=>(match UP cx st (gctx st 20 t b) t b d T x with
      |some st'=>k st'
      |none=>False)
     | _=>False)else False
   |none=>False)else False
  |none=>False
def QZ (cx:Cx) (sp:F3) (all:List Oper):List Oper->(St->Prop)->St->Prop
 | [],k=>k
 |o::r,k=>Uz cx sp all o (QZ cx sp all r k)
section
variable {za:Zn} {w0 w w':World} {Z:Nat->Prop} {B:Nat->Value} {st:St} {E:G3} {cx:Cx} {sp:F3} {all:List Oper} {k:St->Prop}
theorem NK (h:C0 za w0 st E w Z B):∀ {n:Nat} {t:Tmp} {b:Bool},Oq st n t=true->E t≠ .bool b->¬ctxP st (gctx st n t b)
 |0,_,_,hf,_=>by cases hf
 |n+1,t,b,hf,he=>by
  have hs:=h.slots t;unfold Oq at hf;unfold gctx;cases hd:st.S t with
  |one v=>
   rw[hd]at hs hf;simp only at hf;obtain⟨e,he'⟩:=Option.isSome_iff_exists.1 hf;have hv:=Lq hs he';have hg:gval st t=some e:=by unfold gval;rw[hd];exact he'
   intro hh;obtain⟨rfl,_⟩:=(JA hg).1 hh;exact he hv
  |cnd t' b' v=>
   rw[hd]at hs hf;simp only[Bool.and_eq_true]at hf;obtain⟨e,he'⟩:=Option.isSome_iff_exists.1 hf.1;have hg:gval st t=some e:=by unfold gval;rw[hd];exact he'
   intro hh;obtain⟨rfl,hr⟩:=(JA hg).1 hh;rcases hs with⟨_,hs⟩ | ⟨hs,_⟩
   . exact he (Lq hs he')
   . exact NK h hf.2 hs hr
  |tup _=>rw[hd]at hf;cases hf
  |dead=>rw[hd]at hf;cases hf
theorem Ey (h:C0 za w0 st E w Z B) {ctx:Hq} (hc:P6 E ctx) {f:Operand} {args:List Operand} {g:FuncId} {ss:List SV} (hs:Lr st ctx f args=some (g,ss)):
 ∃cap:List Value,Gw.ev E f= .func (.func g) #[] cap.toArray/\Oj w Z B ss (args.map (Gw.ev E)++cap)/\∀s∈ss,Mm st.nx s:=by
 simp only[Lr,Option.bind_eq_bind,bind_some]at hs;obtain⟨c,⟨sf,hsf,hcf⟩,ss',hss,hs⟩:=hs;have h1:=h.c1 hc (bind_some.2 ⟨sf,hsf,hcf⟩);obtain⟨h2,h3⟩:=PC h hc hss;split at hs
 . rename_i g' ks;cases hall:ks.all (fun k=>Qh (st.L k))with
   |false=>simp[hall]at hs
   |true=>
    simp only[hall,cond_true]at hs;cases hs;refine⟨ks.map B,h1.1,h2.append (XC h hall),fun s hs=> ?_⟩
    . rcases List.mem_append.1 hs with hs|hs
      . exact h3 s hs
      . obtain⟨k,hk,rfl⟩:=List.mem_map.1 hs;intro c hc;simp at hc;subst hc;exact h1.2 k hk
 . cases hs
theorem C0.thaw (h:C0 za w0 st E w Z B) (k:Nat):∃Z',C0 za w0 (thaw st k) E w Z' B:=by
 unfold Vc.thaw;split
 . rename_i t e e' ls al hk;cases hn:Nat.ble st.nm k with
   |false=>exact⟨Z,h⟩
   |true=>
    simp only[cond_true];have hn:=Nat.le_of_ble_eq_true hn;have hL:=h.locs k;rw[hk]at hL;have hR:=hL.rowsR;obtain⟨xs,h1,h3,h4,h5⟩:=hR;have hf:∀ {i:Nat} {x:Value} {b:Nat},xs[i]? =some x->root x=some b->A4 w (B k) (st.L k) b:=fun hx hb=>by rw[hk];exact Ua h1 hx hb
    have d1:C0 za w0 (st.setL k .none) E w (fun b=>Z b\/∃(i:Nat) (x:Value),xs[i]? =some x/\root x=some b) B:=by
     refine(h.drop k).keep h.ext (Nat.le_refl _) (fun _ _=>rfl) (fun _=> .inl) (fun b hb=> ?_);rcases hb with hb| ⟨i,x,hx,hb⟩
     . exact .inl hb
     . obtain⟨g1,g2,_⟩:=(h.locs k).root (hf hx hb);refine .inr ⟨g2, ?_,fun q hq=> ?_⟩
       . rcases g1 with g1|g1
         . exact g1.2
         . have:=h.nms.1;omega
       . rw[St.L_setL]at hq;by_cases hqk:q=k
         . rw[if_pos hqk]at hq;exact hq.elim
         . rw[if_neg hqk]at hq;exact h.disj q k b hqk hq (hf hx hb)
    have hroot:=E5 h1;have d2:=d1.addL (k:=k) (lc:= .row (.sl t) e ls) (Dj h (by rw[hk];trivial)) ⟨xs,h1,OU (by have:=h1.1;omega) fun i l x hl hx=> ?_,fun b hb=> ?_⟩ (fun j b hjk hb hj=> ?_) trivial (fun b hk0 hb=>h.mrk.2 k b hk0 (by rw[hk];exact .inl hb))
    . exact⟨_,d2⟩
    . obtain⟨ys,g1,g2⟩:=h3 i l x hl hx;exact Bz g1 (g2.mono fun _ _=>C6.mono (fun _=> .inl) (fun _ _=>rfl)) (fun b hb=> .inr ⟨i,x,hx,(E5 g1).trans hb⟩)
    . have hb':A4 w (B k) (st.L k) b:=by rw[hk];exact .inl (hroot.trans hb)
      obtain⟨g1,_,g3⟩:=(h.locs k).root hb';exact⟨g1,fun hz=>hz.elim g3 fun⟨i,x,hx,hxb⟩=>h5 i x b hx hxb (hroot.trans hb)⟩
    . rw[St.L_setL,if_neg hjk]at hj;exact h.disj j k b hjk hj (by rw[hk];exact .inl hb)
 . exact⟨Z,h⟩
theorem C0.thawS (h:C0 za w0 st E w Z B) (s:SV):∃Z',C0 za w0 (thawS st s) E w Z' B:=by
 unfold Vc.thawS;split
 . exact h.thaw _
 . exact⟨Z,h⟩
theorem C0.stillL (h:C0 za w0 st E w Z B) (cx:Cx):∀ks:List Nat,∃Z',C0 za w0 (ks.foldl (Vc.stillB cx) st) E w Z' B:=by
 intro ks
 induction ks generalizing st Z with
 |nil=>exact⟨Z,h⟩
 |cons k ks ih=>
  obtain⟨Z1,h1⟩:=h.stillB cx k;exact ih h1
theorem C0.stillF (h:C0 za w0 st E w Z B) (cx:Cx):∀(as:List AM) (ss:List SV),∃Z',C0 za w0 (stillF cx st as ss) E w Z' B:=by
 intro as
 induction as generalizing st Z with
 |nil=>intro ss;exact⟨Z,h⟩
 |cons a as ih=>
  intro ss;cases ss with
  |nil=>exact⟨Z,h⟩
  |cons s ss=>
   simp only[Vc.stillF];split
   . rename_i ks _;obtain⟨Z1,h1⟩:=h.stillL cx ks;exact ih h1 ss
   . exact ih h ss
theorem C0.settleA (h:C0 za w0 st E w Z B):∀ {as:List AM} {ss:List SV},∃Z',C0 za w0 (settleA st as ss) E w Z' B:=by
 intro as
 induction as generalizing st Z with
 |nil=>intro ss;exact⟨Z,h⟩
 |cons a as ih=>
  intro ss;cases ss with
  |nil=>cases a<;>exact⟨Z,h⟩
  |cons s ss=>
   cases a with
   |val _ _=>obtain⟨Z1,h1⟩:=h.settle s.cs;exact ih h1
   |row _ _=>obtain⟨Z1,h1⟩:=h.thawS s;exact ih h1
   | _=>exact ih h
theorem Te (st:St):∀(ks:List Nat) (q:Nat),(dropM st ks).L q=if q∈ks then .none else st.L q:=by
 intro ks
 induction ks generalizing st with
 |nil=>intro q;simp[dropM]
 |cons k ks ih=>
  intro q;simp only[dropM,ih,St.L_setL];by_cases h1:q∈ks
  . simp[h1]
  . by_cases h2:q=k
    . simp[h2]
    . simp[h1,h2]
theorem OR (st:St):∀(ks:List Nat),(dropM st ks).nx=st.nx:=by
 intro ks
 induction ks generalizing st with
 |nil=>rfl
 |cons k ks ih=>simp only[dropM,ih];rfl
theorem C0.dropM (h:C0 za w0 st E w Z B):∀ks:List Nat,C0 za w0 (dropM st ks) E w Z B:=by
 intro ks
 induction ks generalizing st with
 |nil=>exact h
 |cons k ks ih=>exact ih (h.drop k)
theorem Wz {as:List AM} :∀ {ss:List SV} {vs:List Value} {mu:List Nat},Oj w Z B ss vs->X5 as ss=some mu->(∀k∈mu,Qh (st.L k)=true->∃b,B k= .pointer (some ⟨b,0,none⟩))->D2 as vs=mu.map B:=by
 induction as with
 |nil=>
  intro ss vs mu hs hm _;cases ss with
  |nil=>cases hm;rw[show vs= []from hs];rfl
  |cons _ _=>cases hm
 |cons a as ih=>
  intro ss vs mu hs hm hb;cases ss with
  |nil=>cases a<;>cases hm
  |cons s ss=>
   obtain⟨v,vs',e,h1,h2⟩:=hs;subst e;cases a with
   |val _ _=>exact ih h2 hm hb
   |fn _ _ _=>exact ih h2 hm hb
   |row _ _=>
    simp only[X5,bind_some,Option.map_eq_some_iff]at hm;obtain⟨q,hq,mu',hm',rfl⟩:=hm;rw[Ry hq]at h1;obtain⟨_,_,e1,e2,_⟩:=h1;cases e1;simp only[D2,N0,cond_true,List.map_cons,ih h2 hm' (fun k hk=>hb k (by simp[hk]))];rw[show v=B q from e2]
   |rows _ _ _=>
    simp only[X5,bind_some,Option.map_eq_some_iff]at hm;obtain⟨q,hq,mu',hm',rfl⟩:=hm;rw[Ry hq]at h1;obtain⟨_,_,e1,e2,_⟩:=h1;cases e1;simp only[D2,N0,cond_true,List.map_cons,ih h2 hm' (fun k hk=>hb k (by simp[hk]))];rw[show v=B q from e2]
   |box _ _=>
    simp only[X5,bind_some,Option.map_eq_some_iff]at hm;obtain⟨q,hq,mu',hm',rfl⟩:=hm;rw[OJ hq]at h1;obtain⟨_,_,e1,⟨b,e2,e3⟩,_⟩:=h1;cases e1;simp only[D2,N0,cond_true,List.map_cons,ih h2 hm' (fun k hk=>hb k (by simp[hk]))];rw[e3,e2]
theorem Cl:∀ {l:List Nat},Xe l=true->l.Nodup
 | [],_=>List.nodup_nil
 |k::l,h=>by
  simp only[Xe,Bool.and_eq_true,Bool.not_eq_true']at h;refine List.nodup_cons.2 ⟨fun hk=> ?_,Cl h.2⟩;have:=List.any_eq_false.1 h.1 k hk;simp at this
theorem Ao {sh:Bool} {mu0:List Nat} :∀ {as:List AM} {ss:List SV} {k:A2 as->Prop} {mu:List Nat},N7 cx sp st mu0 sh as ss k->X5 as ss=some mu->∀q∈mu,live (st.L q)
 | [],[],_,mu,_,hm=>by cases hm;simp
 | [],_:: _,_,_,hk,_=>hk.elim
 |a::r,[],_,_,hk,_=>by cases a<;>exact hk.elim
 | .val a t::r,s::ss,k,mu,hk,hm=>by
  simp only[N7]at hk;split at hk
  . exact Ao hk hm
  . exact hk.elim
 | .row t e0::r,s::ss,k,mu,hk,hm=>by
  simp only[N7]at hk;simp only[X5,bind_some,Option.map_eq_some_iff]at hm;obtain⟨q,hq,mu',hm',rfl⟩:=hm;rw[hq]at hk;simp only at hk;split at hk
  . rename_i l hl;obtain⟨_,hk⟩:=B9 hk;intro j hj;rcases List.mem_cons.1 hj with rfl|hj
    . rw[Ih hl];trivial
    . exact Ao hk hm' j hj
  . exact hk.elim
 | .box T t::r,s::ss,k,mu,hk,hm=>by
  simp only[N7]at hk;simp only[X5,bind_some,Option.map_eq_some_iff]at hm;obtain⟨q,hq,mu',hm',rfl⟩:=hm;rw[hq]at hk;simp only at hk;split at hk
  . rename_i l hl;obtain⟨_,hk⟩:=B9 hk;intro j hj;rcases List.mem_cons.1 hj with rfl|hj
    . obtain⟨cs,hc,_⟩:=Wl hl;rw[hc];trivial
    . exact Ao hk hm' j hj
  . exact hk.elim
 | .fn as' ra' r'::r,s::ss,k,mu,hk,hm=>by
  simp only[N7]at hk;split at hk
  . split at hk
    . obtain⟨_,hk⟩:=B9 hk;obtain⟨_,_,_,hk⟩:=hk;exact Ao hk hm
    . exact hk.elim
  . split at hk
    . exact Ao hk.2.2 hm
    . exact hk.elim
  . exact hk.elim
 | .rows t e0 e1::r,s::ss,k,mu,hk,hm=>by
  simp only[N7]at hk;simp only[X5,bind_some,Option.map_eq_some_iff]at hm;obtain⟨q,hq,mu',hm',rfl⟩:=hm;rw[hq]at hk;simp only at hk;split at hk
  . rename_i l hl;obtain⟨_,hk⟩:=B9 hk;intro j hj;rcases List.mem_cons.1 hj with rfl|hj
    . obtain⟨al,ha⟩:=Y3 hl;rw[ha];trivial
    . exact Ao hk hm' j hj
  . exact hk.elim
def Mts (w:World) (B:Nat->Value) (st:St):List (AM×Value)->List Nat->Prop
 | [],[]=>True
 |p::ps,q::qs=>(p.2=B q/\∀b,A4 w p.2 (mL p.1) b->A4 w (B q) (st.L q) b)/\Mts w B st ps qs
 | _,_=>False
theorem Dl {sh:Bool} {mu0:List Nat} (h:C0 za w0 st E w Z B):∀ {as:List AM} {ss:List SV} {vs:List Value} {k:A2 as->Prop} {mu:List Nat},Oj w Z B ss vs->N7 cx sp st mu0 sh as ss k->X5 as ss=some mu->Mts w B st (P8 as vs) mu
 | [],[],_,_,mu,hs,_,hm=>by cases hm;rw[show _= _ from hs];trivial
 | [],_:: _,_,_,_,_,hk,_=>hk.elim
 |a::r,[],_,_,_,_,hk,_=>by cases a<;>exact hk.elim
 | .val a t::r,s::ss,_,k,mu,⟨v,vs',e,h1,h2⟩,hk,hm=>by
  subst e;simp only[N7]at hk;split at hk
  . exact Dl h (as:=r) h2 hk hm
  . exact hk.elim
 | .row t e0::r,s::ss,_,k,mu,⟨v,vs',e,h1,h2⟩,hk,hm=>by
  subst e;simp only[N7]at hk;simp only[X5,bind_some,Option.map_eq_some_iff]at hm;obtain⟨q,hq,mu',hm',rfl⟩:=hm;rw[hq]at hk;simp only at hk;split at hk
  . rename_i l hl;obtain⟨_,hk⟩:=B9 hk;rw[Ry hq]at h1;obtain⟨_,_,e1,e2,_⟩:=h1;cases e1;have e2:v=B q:=e2;exact⟨⟨e2,fun b hb=>by rw[Ih hl];rw[<-e2];exact hb⟩,Dl h h2 hk hm'⟩
  . exact hk.elim
 | .box T t::r,s::ss,_,k,mu,⟨v,vs',e,h1,h2⟩,hk,hm=>by
  subst e;simp only[N7]at hk;simp only[X5,bind_some,Option.map_eq_some_iff]at hm;obtain⟨q,hq,mu',hm',rfl⟩:=hm;rw[hq]at hk;simp only at hk;split at hk
  . rename_i l hl;obtain⟨_,hk⟩:=B9 hk;rw[OJ hq]at h1;obtain⟨_,_,e1,⟨b,e2,e3⟩,_⟩:=h1;cases e1;obtain⟨cs,hc,_⟩:=Wl hl;exact⟨⟨e3.trans e2.symm,fun b hb=>by rw[hc];rw[e2, <-e3];exact hb⟩,Dl h h2 hk hm'⟩
  . exact hk.elim
 | .rows t e0 e1::r,s::ss,_,k,mu,⟨v,vs',e,h1,h2⟩,hk,hm=>by
  subst e;simp only[N7]at hk;simp only[X5,bind_some,Option.map_eq_some_iff]at hm;obtain⟨q,hq,mu',hm',rfl⟩:=hm;rw[hq]at hk;simp only at hk;split at hk
  . rename_i l hl;obtain⟨_,hk⟩:=B9 hk;rw[Ry hq]at h1;obtain⟨_,_,e1,e2,_⟩:=h1;cases e1;have e2:v=B q:=e2;obtain⟨al,ha⟩:=Y3 hl;exact⟨⟨e2,fun b hb=>by rw[ha, <-e2];exact(V6 fun _ _=>rfl).1 hb⟩,Dl h h2 hk hm'⟩
  . exact hk.elim
 | .fn as' ra' r'::r,s::ss,_,k,mu,⟨v,vs',e,h1,h2⟩,hk,hm=>by
  subst e;simp only[N7]at hk;split at hk
  . split at hk
    . obtain⟨_,hk⟩:=B9 hk;obtain⟨_,_,_,hk⟩:=hk;exact Dl h (as:=r) h2 hk hm
    . exact hk.elim
  . split at hk
    . exact Dl h (as:=r) h2 hk.2.2 hm
    . exact hk.elim
  . exact hk.elim
theorem Mts.mem:∀ {ps:List (AM×Value)} {mu:List Nat} {p:AM×Value},Mts w B st ps mu->p∈ps->∃q∈mu,∀b,A4 w p.2 (mL p.1) b->A4 w (B q) (st.L q) b
 | _:: _,_:: _,_,⟨h1,h2⟩,hp=>by
  rcases List.mem_cons.1 hp with rfl|hp
  . exact⟨_,by simp,h1.2⟩
  . obtain⟨q,hq,h⟩:=Mts.mem h2 hp;exact⟨q,by simp[hq],h⟩
theorem nI (h:C0 za w0 st E w Z B):∀ {ps:List (AM×Value)} {mu:List Nat},mu.Nodup->Mts w B st ps mu->Dis w ps
 | [],_,_,_=>trivial
 | _:: _,q::mu,hn,⟨h1,h2⟩=>by
  rw[List.nodup_cons]at hn;refine⟨fun b hb p' hp' hb'=> ?_,nI h hn.2 h2⟩;obtain⟨q',hq',hh⟩:=h2.mem hp';exact h.disj q q' b (fun e=>hn.1 (e▸hq')) (h1.2 b hb) (hh b hb')
theorem Ae.transM {m m':Nat->Prop} {a b c:World} (h:Ae m a b) (k:Ae m' b c) (hm:∀q,m' q->a.heap.size<=q\/m q):Ae m a c:=
 ⟨k.os.trans h.os,k.tape.trans h.tape,k.output.trans h.output,Nat.le_trans h.size k.size,fun i hi hn=>(k.block i (Nat.lt_of_lt_of_le hi h.size) (fun hh=>by rcases hm i hh with g|g;exact absurd hi (by omega);exact hn g)).trans (h.block i hi hn),trivial⟩
theorem A1f {st0:St} {Zn Z':Nat->Prop} {B':Nat->Value} (h0:C0 za w0 st0 E w Z B) (hB:∀k,k<st0.nx->B' k=B k) (hzn:∀b,Zn b->Z' b) (hnz:∀k b,A4 w (B k) (st0.L k) b->¬Z' b) (hsz:w.heap.size<=w'.heap.size):
 ∀ {as:List AM} {vs:List Value} {o:Rr as} {mu:List Nat} {stx:St},C0 za w0 stx E w' Z' B'->st0.nx<=stx.nx->mu.Nodup->(∀q∈mu,live (st0.L q))->D2 as vs=mu.map B->Mts w B st0 (P8 as vs) mu->Wb w w' Zn as vs o->(∀j b,A4 w' (B' j) (stx.L j) b->w.heap.size<=b\/(j<st0.nx/\A4 w (B j) (st0.L j) b/\j∉mu))->
  C0 za w0 (addM as o mu stx) E w' Z' B'/\(addM as o mu stx).nx=stx.nx:=by
 intro as
 induction as with
 |nil=>intro vs o mu stx h1 hnx hn hl hv hmt ho hq;cases mu<;>exact⟨h1,rfl⟩
 |cons a as ih=>
  intro vs o mu stx h1 hnx hn hl hv hmt ho hq;cases vs with
  |nil=>cases a<;>exact ho.elim
  |cons v vs=>
   have step:∀(k:Nat) (mu':List Nat) (lc:LC) (o':Rr as),(k::mu').Nodup->(∀q∈k::mu',live (st0.L q))->D2 as vs=mu'.map B->Mts w B st0 (P8 as vs) mu'->Wb w w' Zn as vs o'->(∀b,A4 w' (B' k) lc b->A4 w (B k) (st0.L k) b)->RL (up za w0 k) w' Z' B' k lc->Xn stx.nx lc->(∀j b,A4 w' (B' j) (stx.L j) b->w.heap.size<=b\/(j<st0.nx/\A4 w (B j) (st0.L j) b/\j∉k::mu'))->
    C0 za w0 (addM as o' mu' (stx.setL k lc)) E w' Z' B'/\(addM as o' mu' (stx.setL k lc)).nx=stx.nx:=fun k mu' lc o' hn hl hv hmt ho hll hrl hrf hq=>by
    have hk0:=hl k (by simp);have hkn:k<st0.nx:=Dj h0 hk0;rw[List.nodup_cons]at hn;have h2:=h1.addL (k:=k) (lc:=lc) (Nat.lt_of_lt_of_le hkn hnx) hrl (fun j b hjk hb hj=>by
     have hb:=hll b hb;rcases hq j b hj with g| ⟨g1,g2,g3⟩
     . have:=((h0.locs k).root hb).2.1;omega
     . exact h0.disj j k b hjk g2 hb) hrf (fun b hkk hb=>h0.mrk.2 k b hkk (hll b hb))
    refine ih h2 hnx hn.2 (fun q hq=>hl q (by simp[hq])) hv hmt ho (fun j b hj=> ?_);rw[St.L_setL]at hj;by_cases hjk:j=k
    . subst hjk;rw[if_pos rfl]at hj;exact .inr ⟨hkn,hll b hj,hn.1⟩
    . rw[if_neg hjk]at hj;exact(hq j b hj).imp id fun⟨g1,g2,g3⟩=>⟨g1,g2,fun hh=>g3 (by simp[hh])⟩
   cases a with
   |val _ _=>exact ih h1 hnx hn hl hv hmt ho hq
   |fn _ _ _=>exact ih h1 hnx hn hl hv hmt ho hq
   |row t e=>
    cases mu with
    |nil=>simp[D2,N0]at hv
    |cons k mu'=>
     simp only[D2,N0,cond_true,List.map_cons,List.cons.injEq]at hv;obtain⟨⟨xs,g1,g2⟩,ho⟩:=ho;have hk0:=hl k (by simp);have hkn:k<st0.nx:=Dj h0 hk0;have hbk:B' k=v:=by rw[hB k hkn,hv.1]
     refine step k mu' (.row t e o.1) o.2 hn hl hv.2 hmt.2 ho (fun b hh=>A4.of hk0 (by rw[<-hB k hkn];exact hh)) ⟨xs,by rw[hbk];exact g1,g2.mono fun _ _=>C6.mono hzn (fun _ _=>rfl),fun b hb=> ?_⟩ trivial hq;rw[hbk]at hb;have hr:root (B k)=some b:=by rw[<-hv.1,E5 g1];exact hb
     exact⟨((h0.locs k).root (A4.of hk0 hr)).1,hnz k b (A4.of hk0 hr)⟩
   |box T t=>
    cases mu with
    |nil=>simp[D2,N0]at hv
    |cons k mu'=>
     simp only[D2,N0,cond_true,List.map_cons,List.cons.injEq]at hv;obtain⟨⟨b,us,g1,g2,g3⟩,ho⟩:=ho;have hk0:=hl k (by simp);have hkn:k<st0.nx:=Dj h0 hk0;have hbk:B' k= .pointer (some ⟨b,0,none⟩):=by rw[hB k hkn, <-hv.1,g1]
     have hr:root (B k)=some b:=by rw[<-hv.1,g1];rfl
     exact step k mu' (.box T (explode t o.1)) o.2 hn hl hv.2 hmt.2 ho (fun b hh=>A4.of hk0 (by rw[<-hB k hkn];exact hh)) ⟨b,us,hbk,((h0.locs k).root (A4.of hk0 hr)).1,hnz k b (A4.of hk0 hr),g2,O2 (g3.mono hzn (fun _ _=>rfl))⟩ D8 hq
   |rows t e e'=>
    cases mu with
    |nil=>simp[D2,N0]at hv
    |cons k mu'=>
     simp only[D2,N0,cond_true,List.map_cons,List.cons.injEq]at hv;obtain⟨⟨g1,g2⟩,ho⟩:=ho;have hk0:=hl k (by simp);have hkn:k<st0.nx:=Dj h0 hk0;have hbk:B' k=v:=by rw[hB k hkn,hv.1]
     have hff:∀b,A4 w' (B' k) (.rows t e e' o.1 [] none) b->A4 w (B k) (st0.L k) b:=fun b hb=>by
      rw[hbk]at hb;exact hmt.1.2 b (g2 b ((V6 fun _ _=>rfl).1 hb))
     refine step k mu' (.rows t e e' o.1 [] none) o.2 hn hl hv.2 hmt.2 ho hff (Bt.rl (by rw[hbk];exact g1.mono hzn) fun b hb=> ?_) (fun p hp=>by cases hp) hq;have hb':=hff b hb;exact⟨((h0.locs k).root hb').1,hnz k b hb',Nat.lt_of_lt_of_le ((h0.locs k).root hb').2.1 hsz⟩
def A6r (P:Program) (g:FuncId) (s:A8) (vs:List Value) (w:World) (Z:Nat->Prop) (x:A2 s.args):Prop:=
 Gw.jW P g vs w fun v w'=>Ae (TH w s.args vs) w w'/\∃(r:Ef s.res) (o:Rr s.args) (us:List Value) (Zn:Nat->Prop),s.post x r/\(O7 s.args=true->s.mpost x r o)/\v=Yb us/\(∀b,Zn b->(w.heap.size<=b/\b<w'.heap.size)\/(s.shared=true/\Z b))/\Qw w.heap.size w' Zn s.res us r/\Wb w w' Zn s.args vs o
theorem kE (h:C0 za w0 st E w Z B) {s:A8} {x:A2 s.args} {vs:List Value} {g:FuncId} {mu:List Nat} (hret:A6r cx.P g s vs w (lz w st mu B Z s.shared) x) (hmv:D2 s.args vs=mu.map B) (hmt:Mts w B st (P8 s.args vs) mu) (hnd:mu.Nodup) (hlv:∀q∈mu,live (st.L q)):
 Gw.jW cx.P g vs w fun v w'=>Ae (TH w s.args vs) w w'/\∃r o us,rwf s.res r/\owf s.args o/\s.post x r/\(O7 s.args=true->s.mpost x r o)/\v=Yb us/\∃Z' B',C0 za w0 (addM s.args o mu (G1 s.res r (dropM st mu)).2) E w' Z' B'/\Oj w' Z' B' (G1 s.res r (dropM st mu)).1 us/\(∀q∈(G1 s.res r (dropM st mu)).1,Mm (addM s.args o mu (G1 s.res r (dropM st mu)).2).nx q):=by
 refine Gw.jW.mono hret fun v w' ⟨hx,r,o,us,Zn,hpost,hmpost,hv,hzn,hrep,hro⟩=> ?_
 have hms:∀b,TH w s.args vs b->∃q∈mu,A4 w (B q) (st.L q) b:=fun b ⟨u,hu,hb⟩=>by
  obtain⟨q,hq,hh⟩:=hmt.mem hu;exact⟨q,hq,hh b hb⟩
 have hzn':∀b,Zn b->Z b\/(w.heap.size<=b/\b<w'.heap.size):=fun b hb=>by
  rcases hzn b hb with hb| ⟨hs,hb⟩
  . exact .inr hb
  . rcases hb with hb| ⟨hf,_⟩
    . exact .inl hb
    . rw[hs]at hf;cases hf
 have h1:C0 za w0 (dropM st mu) E w' (fun b=>Z b\/Zn b) B:=by
  refine(h.dropM mu).keep (h.ext.transM hx fun b hb=> ?_) hx.size (fun b hb=>hx.block b ?_ ?_) (fun _=> .inl) (fun b hb=> ?_)
  . obtain⟨q,hq,hqb⟩:=hms b hb;exact((h.locs q).root hqb).1.m
  . rcases hb with hb| ⟨k,hl⟩
    . exact h.zlt b hb
    . rw[Te]at hl;split at hl
      . exact hl.elim
      . exact((h.locs k).root hl).2.1
  . intro hmb;obtain⟨q,hq,hqb⟩:=hms b hmb;rcases hb with hb| ⟨k,hl⟩
    . exact((h.locs q).root hqb).2.2 hb
    . rw[Te]at hl;split at hl
      . exact hl.elim
      . rename_i hkm;exact h.disj k q b (fun e=>hkm (e▸hq)) hl hqb
  . rcases hb with hb|hb
    . exact .inl hb
    . rcases hzn' b hb with hb|hb
      . exact .inl hb
      . refine .inr ⟨hb.2,Nat.le_trans h.ext.size hb.1,fun k hl=> ?_⟩;rw[Te]at hl;split at hl
        . exact hl.elim
        . have:=((h.locs k).root hl).2.1;omega
 have hftw:∀j b,A4 w' (B j) ((Vc.dropM st mu).L j) b->A4 w (B j) ((Vc.dropM st mu).L j) b:=fun j b hf=>(A4.iff fun c hc=>hx.block c ((((h.dropM mu).locs j).root hc).2.1) fun hmb=>by
  obtain⟨q,hq,hqb⟩:=hms c hmb;rw[Te]at hc;split at hc
  . exact hc.elim
  . rename_i hkm;exact h.disj j q c (fun e=>hkm (e▸hq)) hc hqb).1 hf
 obtain⟨B',g1,g2,g3,g4,g5,g6,g7⟩:=C0.place h1 h.ext.size h.mrk.1 (fun _=> .inr) (fun b hb hz=>by
  rcases hz with hz|hz
  . have:=h.zlt b hz;omega
  . exact hz) (fun b hb q hq=>by
    have hq:=hftw q b hq;rw[Te]at hq;split at hq
    . exact hq.elim
    . have:=((h.locs q).root hq).2.1;omega) (fun _ b hb q hq=>by
    have hq:=hftw q b hq;rw[Te]at hq;split at hq
    . exact hq.elim
    . have:=((h.locs q).root hq).2.1;omega) hrep
 rw[OR]at g4 g5;have hold:∀j b,A4 w' (B' j) ((G1 s.res r (dropM st mu)).2.L j) b->w.heap.size<=b\/(j<st.nx/\A4 w (B j) (st.L j) b/\j∉mu):=fun j b hj=>by
  by_cases hlt:j<st.nx
  . have:=g6 j (by rw[OR];exact hlt);rw[this,g4 j hlt]at hj;have hj:=hftw j b hj;rw[Te]at hj;split at hj
    . exact hj.elim
    . rename_i hjm;exact .inr ⟨hlt,hj,hjm⟩
  . exact .inl (g7 j b (by rw[OR];omega) hj)
 obtain⟨q1,q2⟩:=A1f (Z':=fun b=>Z b\/Zn b) h g4 (fun _=> .inr) (fun k b hb hz=>by
  rcases hz with hz|hz
  . exact((h.locs k).root hb).2.2 hz
  . have hk:=(h.locs k).root hb;rcases hzn' b hz with hz|hz
    . exact hk.2.2 hz
    . omega) hx.size g1 g5 hnd hlv hmv hmt hro hold
 exact⟨hx,r,o,us,hrep.rwf,hro.owf,hpost,hmpost,hv,_,B',q1,g2,fun q hq=>by rw[q2];exact g3 q hq⟩
theorem Zj (h:C0 za w0 st E w Z B) {s:A8} {x:A2 s.args} {vs:List Value} {g:FuncId} {mu:List Nat} (hm:B6 cx.P g s) (hre:Ag cx.P w (lz w st mu B Z s.shared) s.args vs x) (hmv:D2 s.args vs=mu.map B) (hmt:Mts w B st (P8 s.args vs) mu) (hnd:mu.Nodup) (hlv:∀q∈mu,live (st.L q)) (hpre:s.pre x):
 Gw.jW cx.P g vs w fun v w'=>Ae (TH w s.args vs) w w'/\∃r o us,rwf s.res r/\owf s.args o/\s.post x r/\(O7 s.args=true->s.mpost x r o)/\v=Yb us/\∃Z' B',C0 za w0 (addM s.args o mu (G1 s.res r (dropM st mu)).2) E w' Z' B'/\Oj w' Z' B' (G1 s.res r (dropM st mu)).1 us/\(∀q∈(G1 s.res r (dropM st mu)).1,Mm (addM s.args o mu (G1 s.res r (dropM st mu)).2).nx q):=
 kE h (hm w _ vs x (oT h) hre (nI h hnd hmt) hpre) hmv hmt hnd hlv
variable {d:Tmp} {ty:TypeId} {pos:String} {aft:Array Edge} {gd:Option (Nat×Bool)}
theorem QM (h:C0 za w0 st E w Z B) {sh:Bool} :∀ {as:List (Bool×Ty)} {ss:List SV} {vs:List Value} {y:Dp as},Oj w Z B ss vs->cL st sh as ss=some y->NZ w (lz w st [] B Z sh) as vs y
 | [],[],vs,_,hs,_=>hs
 | [],_:: _,_,_,_,hp=>by cases hp
 | (a,t)::r,[],_,_,_,hp=>by cases hp
 | (a,t)::r,s::ss,_,x,⟨v,vs',e,h1,h2⟩,hp=>by
  simp only[cL,bind_some,Option.map_eq_some_iff]at hp;obtain⟨y,hy,z,hz,rfl⟩:=hp;exact⟨v,vs',e,QN h h1 hy,QM h h2 hz⟩
theorem FO (h:C0 za w0 st E w Z B) (hsp:Ll cx.P sp) {g:FuncId} {s:A8} {ss:List SV} {f:Operand} {args:List Operand} {ts:Array TypeId} {vs:List Value} (he:Gw.WH cx.P E ty (.call ⟨.value f,args.toArray,ts⟩) w g vs) (hrs:Oj w Z B ss vs) (hfs:Ah g sp=some s) (hs:Ta cx sp st d s ss k) (hg:D4 all ⟨some d, .call ⟨.value f,args.toArray,ts⟩,ty,pos,aft,gd⟩ E=true):
 M2 cx.P all ⟨some d, .call ⟨.value f,args.toArray,ts⟩,ty,pos,aft,gd⟩ (fun E' w'=>Ae (TH w s.args vs) w w'/\SS za w0 w (O7 s.args) k E' w') E w:=by
 unfold Ta at hs;split at hs
 . rename_i mu hmu;obtain⟨hnd,hs⟩:=B9 hs;have hnd:=Cl hnd;have hboxes:∀k∈mu,Qh (st.L k)=true->∃b,B k= .pointer (some ⟨b,0,none⟩):=fun k _ hk=>by
    have hL:=h.locs k;cases hl:st.L k<;>rw[hl]at hk hL<;>try (cases hk)
    . obtain⟨b,_,e,_⟩:=hL;exact⟨b,e⟩
    . obtain⟨rfl,_,b,e⟩:=hL;exact⟨b,e⟩
   have hmv:=Wz hrs hmu hboxes;cases hmt:O7 s.args with
   |true=>
    simp only[hmt,cond_true]at hs;have hlv:=Ao hs hmu;have hmts:=Dl h hrs hs hmu;obtain⟨x,hre,hpre,hs⟩:=Ee h hsp hrs hs;refine Xw he (Zj h (hsp g s hfs).1 hre hmv hmts hnd hlv hpre) hg ?_;rintro v w' ⟨hx,r,o,us,hwf,how,hpost,hmp,rfl,Z',B',g1,g2,g3⟩;exact⟨hx,fun hh=>(by cases hh),_,_,_,g1.setS d (RX g2 _) (OT g3),hs r o hwf how hpost (hmp hmt)⟩
   |false=>
    simp only[hmt,cond_false]at hs;have hlv:=Ao hs hmu;have hmts:=Dl h hrs hs hmu;obtain⟨x,hre,hpre,hs'⟩:=Ee h hsp hrs hs;have hmn:mu= []:=by
     have:=UX hmt vs;rw[hmv]at this;simpa using this
    subst hmn;refine Xw he (Zj h (hsp g s hfs).1 hre hmv hmts hnd hlv hpre) hg ?_;rintro v w' ⟨hx,r,o,us,hwf,how,hpost,hmp,rfl,Z',B',g1,g2,g3⟩;have had:∀(as:List AM) (o:Rr as) (st':St),O7 as=false->addM as o [] st'=st':=by
     intro as
     induction as with
     |nil=>intros;rfl
     |cons a as ih=>
      intro o st' ha;simp only[O7,List.any_cons,Bool.or_eq_false_iff]at ha;cases a with
      |val _ _=>exact ih o st' ha.2
      |fn _ _ _=>exact ih o st' ha.2
      |row _ _=>cases ha.1
      |box _ _=>cases ha.1
      |rows _ _ _=>cases ha.1
    rw[had _ _ _ hmt]at g1 g3;refine⟨hx,fun _=>hx.ext (fun b ⟨u,hu,_⟩=>by rw[QF hmt]at hu;cases hu),_,_,_,g1.setS d (RX g2 _) (OT g3),hs' r hwf hpost⟩
 . exact hs.elim
theorem TS (h:C0 za w0 st E w Z B) (hsp:Ll cx.P sp) {g:FuncId} {s:A8} {ss:List SV} {f:Operand} {args:List Operand} {ts:Array TypeId} {cap:List Value} (hf:Gw.ev E f= .func (.func g) #[] cap.toArray) (hrs:Oj w Z B ss (args.map (Gw.ev E)++cap)) (hfs:Ah g sp=some s) (hen:Fi cx.P g=true) (hs:Ta cx sp st d s ss k) (hg:D4 all ⟨some d, .call ⟨.value f,args.toArray,ts⟩,ty,pos,aft,gd⟩ E=true):
 M2 cx.P all ⟨some d, .call ⟨.value f,args.toArray,ts⟩,ty,pos,aft,gd⟩ (SS za w0 w (O7 s.args) k) E w:=by
 exact I7 (fun _ _ hh=>hh.2) (FO h hsp (Dg hf hen rfl) hrs hfs hs hg)
theorem eH (h:C0 za w0 st E w Z B) (hsp:Ll cx.P sp) {f:Operand} {args:List Operand} {ts:Array TypeId} (hmk:za.b0=0\/A4z sp st (.call ⟨.value f,args.toArray,ts⟩)=false) (hs:Tb cx sp st d f args k) (hg:D4 all ⟨some d, .call ⟨.value f,args.toArray,ts⟩,ty,pos,aft,none⟩ E=true):
 M2 cx.P all ⟨some d, .call ⟨.value f,args.toArray,ts⟩,ty,pos,aft,none⟩ (SS za w0 w (SU sp st ⟨some d, .call ⟨.value f,args.toArray,ts⟩,ty,pos,aft,none⟩) k) E w:=by
 unfold Tb at hs;split at hs
 . rename_i P' as ra r ok φ hfc;split at hs
   . rename_i ss hss;split at hs
     . rename_i y hy;obtain⟨rfl,hok,hs⟩:=hs;obtain⟨g,caps,hf,hen,hcall⟩:=(h.c1 (D5 E) hfc).1;have hrs:=(PC h (D5 E) hss).1;have hre:=QM h hrs hy;refine Xw (Dg hf hen rfl) (hcall w _ _ y (fun _ _=>rfl) h.zlt (oT h) hre hok) hg ?_;rintro v w' ⟨hx,Zn,hZn,hrep⟩;cases hfl:Lt r with
       |true=>
        have h1:=h.more (Z':=Z) hx (fun _=>id) (fun _=> .inl);exact⟨fun _=>hx,_,_,_,h1.setS d (x:= .one ⟨ra,explode r (φ y)⟩) (X3.explode (a:=ra) (S4.mono (fun _ _=>C6.flat hfl) hrep)) D8,hs (S4.wf' (fun _ _=>C6.wf) hrep)⟩
       |false=>
        have hZn':∀b,Zn b->(w.heap.size<=b/\b<w'.heap.size)\/Z b:=fun b hb=>by
         rcases hZn b hb with h1|h1|h1
         . exact .inl h1
         . exact .inr h1
         . rcases h1 with h1| ⟨h1,_⟩
           . exact .inr h1
           . rw[hfl]at h1;cases h1
        have h1:=h.more (Z':=fun b=>Z b\/Zn b) hx (fun _=> .inl) (fun b hb=>hb.elim .inl (fun hb=>(hZn' b hb).symm));exact⟨fun _=>hx,_,_,_,h1.setS d (x:= .one ⟨ra,explode r (φ y)⟩) (X3.explode (a:=ra) (S4.mono (fun _ _=>C6.mono (fun _=> .inr) (fun _ _=>rfl)) hrep)) D8,hs (S4.wf' (fun _ _=>C6.wf) hrep)⟩
     . exact hs.elim
   . exact hs.elim
 . rename_i hnf;split at hs
   . rename_i g ss hcal;split at hs
     . rename_i s hfs;obtain⟨hen,hs⟩:=B9 hs;have hwr:SU sp st ⟨some d, .call ⟨.value f,args.toArray,ts⟩,ty,pos,aft,none⟩=false->O7 s.args=false:=fun hh=>by
        simp only[SU,Bool.or_eq_false_iff]at hh;have h2:=hh.2;simp only[NQ]at h2;simp only[Lr,Option.bind_eq_bind,bind_some]at hcal;obtain⟨c,hc,ss',hss',hcal⟩:=hcal;rw[show(st.ev [] f).bind c1=some c from bind_some.2 hc]at h2;split at hcal
        . rename_i g' ks;obtain⟨_,hcal⟩:=D7 hcal;cases hcal;simp only[hfs,Bool.or_eq_false_iff]at h2;exact h2.2
        . cases hcal
       have hno:∀run,s.inl=some run->za.b0=0:=fun run hrun=>by
        rcases hmk with hmk|hmk
        . exact hmk
        . simp only[Lr,Option.bind_eq_bind,bind_some]at hcal;obtain⟨c,hc,ss',hss',hcal⟩:=hcal;simp only[A4z]at hmk;rw[show(st.ev [] f).bind c1=some c from bind_some.2 hc]at hmk;split at hcal
          . rename_i g' ks;obtain⟨_,hcal⟩:=D7 hcal;cases hcal;simp only[hfs,hrun]at hmk;cases hmk
          . cases hcal
       have hwi:∀run,s.inl=some run->SU sp st ⟨some d, .call ⟨.value f,args.toArray,ts⟩,ty,pos,aft,none⟩=true:=fun run hrun=>by
        simp only[SU,NQ];simp only[Lr,Option.bind_eq_bind,bind_some]at hcal;obtain⟨c,hc,ss',hss',hcal⟩:=hcal;rw[show(st.ev [] f).bind c1=some c from bind_some.2 hc];split at hcal
        . rename_i g' ks;obtain⟨_,hcal⟩:=D7 hcal;cases hcal;simp only[hfs,hrun,Option.isSome_some,Bool.true_or,Bool.or_true]
        . cases hcal
       split at hs
       . rename_i run hrun;obtain⟨cap,hf,hrs,href⟩:=Ey h (D5 E) hcal;refine Xw (Dg hf hen rfl) (((hsp g s hfs).2 run hrun).go (hno run hrun) h hrs href hs) hg ?_;rintro v w' ⟨st',Z',B',ss',us,g1,g2,g3,g4,g5⟩;subst g2;exact⟨fun hh=>(by rw[hwi run hrun]at hh;cases hh),_,_,_,g1.setS d (RX g3 _) (OT g4),g5⟩
       have conv:∀ {E':G3} {w':World},SS za w0 w (O7 s.args) k E' w'->SS za w0 w (SU sp st ⟨some d, .call ⟨.value f,args.toArray,ts⟩,ty,pos,aft,none⟩) k E' w':=fun⟨a,b⟩=>⟨fun hh=>a (hwr hh),b⟩
       cases hsh:s.shared with
       |true=>
        simp only[hsh,cond_true]at hs;obtain⟨Z0,h0⟩:=h.stillF cx s.args ss;obtain⟨Z1,h1⟩:=h0.settleA (as:=s.args) (ss:=ss);split at hs
        . rename_i g' ss' hcal';obtain⟨hgg,hs'⟩:=B9 hs;have:=Nat.eq_of_beq_eq_true hgg;subst this;obtain⟨cap,hf,hrs,_⟩:=Ey h1 (D5 E) hcal';exact I7 (fun _ _=>conv) (TS h1 hsp hf hrs hfs hen hs' hg)
        . exact hs.elim
       |false=>
        simp only[hsh,cond_false]at hs;obtain⟨cap,hf,hrs,_⟩:=Ey h (D5 E) hcal;exact I7 (fun _ _=>conv) (TS h hsp hf hrs hfs hen hs hg)
     . exact hs.elim
   . exact hs.elim
theorem Cm {sh:Bool} {mu:List Nat} :∀ {as:List AM} {ss:List SV} {k:A2 as->Prop},N7 cx sp st mu sh as ss k->∃x,k x
 | [],[],_,h=>⟨_,h⟩
 | [],_:: _,_,h=>h.elim
 |a::r,[],_,h=>by cases a<;>exact h.elim
 | .val a t::r,s::ss,_,h=>by
  simp only[N7]at h;split at h
  . obtain⟨y,hy⟩:=Cm h;exact⟨_,hy⟩
  . exact h.elim
 | .row t e0::r,s::ss,_,h=>by
  simp only[N7]at h;split at h
  . split at h
    . obtain⟨_,h⟩:=B9 h;obtain⟨y,hy⟩:=Cm h;exact⟨_,hy⟩
    . exact h.elim
  . exact h.elim
 | .box t e0::r,s::ss,_,h=>by
  simp only[N7]at h;split at h
  . split at h
    . obtain⟨_,h⟩:=B9 h;obtain⟨y,hy⟩:=Cm h;exact⟨_,hy⟩
    . exact h.elim
  . exact h.elim
 | .rows t e0 e1::r,s::ss,_,h=>by
  simp only[N7]at h;split at h
  . split at h
    . obtain⟨_,h⟩:=B9 h;obtain⟨y,hy⟩:=Cm h;exact⟨_,hy⟩
    . exact h.elim
  . exact h.elim
 | .fn as' ra' r'::r,s::ss,_,h=>by
  simp only[N7]at h;split at h
  . split at h
    . obtain⟨_,h⟩:=B9 h;obtain⟨ok,φ,hp,h⟩:=h;obtain⟨y,hy⟩:=Cm h;exact⟨_,hy⟩
    . exact h.elim
  . split at h
    . obtain⟨y,hy⟩:=Cm h.2.2;exact⟨_,hy⟩
    . exact h.elim
  . exact h.elim
theorem Xd:∀ {rs:List RT} {r:Ef rs} {st:St},Gm rs=true->(G1 rs r st).2=st
 | [],_,_,_=>rfl
 | .val a t::rs,r,st,h=>by
  simp only[Gm,Av,Bool.and_eq_true]at h;exact Xd (rs:=rs) h.2
 | .own _ _:: _,_,_,h=>by simp[Gm,Av]at h
 | .obox _ _:: _,_,_,h=>by simp[Gm,Av]at h
 | .rows _ _ _:: _,_,_,h=>by simp[Gm,Av]at h
theorem kD (h:C0 za w0 st E w Z B) (hty:G9 cx.P cx.tys=true) {t:Tmp} {b:Bool} {j:Nat} {T:TypeId} {len:Nat} {parts:List (Nat×Operand)} {st':St} (hj:(all[j]?).bind (·.dst)=some t) (hfull:Oq st 20 t=true) (htd:t≠d) (hs:WV cx st (gctx st 20 t b) t b d T len parts=some st') (hk:k st'):
 M2 cx.P all ⟨some d, .buildSlice T len parts.toArray,ty,pos,aft,some (j,b)⟩ (SS za w0 w false k) E w:=by
 simp only[WV,Option.bind_eq_bind,bind_some]at hs;obtain⟨ti,hti,t',ht,ps,hps,xs,hxs,hs⟩:=hs;have ht:=Fu ht;obtain⟨hd,hs⟩:=D7 hs;cases hs;simp only[Bool.and_eq_true]at hd;by_cases hw:E t= .bool b
 . have hctx:=h.gctx (n:=20) hw;obtain⟨i,z,hu,hi,hz,hsz,hzc,hzs,hb,hsl⟩:=Es (B4 hty hti) ht;obtain⟨h2,h3⟩:=Ls h hctx hps;obtain⟨g1,g2,g3,g4⟩:=Tv h2 hxs;have hlen:=Nat.eq_of_beq_eq_true hd.1.1;have hzT:Dc cx.P ti.elem=some z:=by simp[Dc,hi,hz]
   obtain⟨cs,hcs,hy⟩:=Hu (w:=w) (ty:=ty) (len:=len) _ hsl hzT (Nat.le_of_ble_eq_true hd.1.2) (Nat.le_of_ble_eq_true hd.2) hzs g1 g2 (by rw[List.length_map, <-g3,hlen]);have hx:R2 w (w.alloc (.cells cs ti.elem)):=R2.alloc w _;have h4:=h.more (Z':=fun c=>Z c\/c=w.heap.size) hx (fun _=> .inl) (fun c hc=>hc.imp id (fun hc=>by subst hc;exact⟨Nat.le_refl _,by simp⟩));have hsame:N5 Z w (w.alloc (.cells cs ti.elem)):=fun b hb=>hx.block b (h.zlt b hb)
   have hll:cs.toList.length=len*t'.size:=by rw[hcs,G4.length (fun _ _ h=>C6.length h) g4,hlen]
   have hown:(w.alloc (.cells cs ti.elem)).ownsRow w0.heap.size ti.elem t'.size (.slice (some ⟨w.heap.size,0,none⟩) len len) xs.length cs.toList:=by
    rw[hlen];refine⟨hll, .inr ⟨w.heap.size,len,cs,rfl,h.ext.size,Df w _ _,Nat.le_refl _, ?_,by simpa using hll,by rw[<-hll,List.take_length]⟩⟩;have h5:=Nat.le_of_ble_eq_true hd.1.2;have h6:=Nat.le_of_ble_eq_true hd.2;have:len*1<=len*t'.size:=Nat.mul_le_mul_left _ h6;simp only[maxLen];omega
   have hrep:C6 (.sl t') (w.alloc (.cells cs ti.elem)) (fun c=>Z c\/c=w.heap.size) [.slice (some ⟨w.heap.size,0,none⟩) len len] xs:=
    Bz hown (by rw[hcs];exact g4.mono fun _ _=>C6.mono (fun _=> .inl) hsame) (fun c hc=>by simp only[Value.ownBlock,Option.some.injEq]at hc;exact .inr hc.symm)
   refine J9 hy (GR hj hw) ⟨fun _=>hx,_,_,_,h4.setS d (x:= .cnd t b ⟨false,[.val (.sl t') xs]⟩) (.inl ⟨?_,⟨_,[],rfl,hrep,rfl⟩⟩) (fun c hc=>by simp at hc;subst hc;trivial),hk⟩;rw[C1 _ _ _ _ htd];exact hw
 . have hoff:D4 all ⟨some d, .buildSlice T len parts.toArray,ty,pos,aft,some (j,b)⟩ E=false:=by
    unfold D4 Ac;simp only[hj];cases hEt:E t with
    |bool b'=>simp only[beq_eq_false_iff_ne,ne_eq,Option.some.injEq];intro hh;exact hw (by rw[hEt,hh])
    | _=>rfl
   refine Nc hoff ⟨fun _=>R2.refl w,_,_,_,h.setS d (x:= .cnd t b ⟨false,[.val (.sl t') xs]⟩) (.inr ⟨?_,rfl⟩) (fun c hc=>by simp at hc;subst hc;trivial),hk⟩;rw[C1 _ _ _ _ htd];exact hw
theorem aG (h:C0 za w0 st E w Z B) (hsp:Ll cx.P sp) {t:Tmp} {b:Bool} {j:Nat} {f:Operand} {args:List Operand} {ts:Array TypeId} (hj:(all[j]?).bind (·.dst)=some t) (hfull:Oq st 20 t=true) (htd:t≠d) (hs:Rc cx sp st (gctx st 20 t b) t b d f args k):
 M2 cx.P all ⟨some d, .call ⟨.value f,args.toArray,ts⟩,ty,pos,aft,some (j,b)⟩ (SS za w0 w (SU sp st ⟨some d, .call ⟨.value f,args.toArray,ts⟩,ty,pos,aft,some (j,b)⟩) k) E w:=by
 unfold Rc at hs;split at hs
 . rename_i P' as ra r ok φ hfc;split at hs
   . rename_i ss hss;split at hs
     . rename_i y hy;obtain⟨rfl,hok,hs⟩:=hs;by_cases hw:E t= .bool b
       . have hctx:=h.gctx (n:=20) hw;have hcp:=h.ctxP hctx;obtain⟨g,caps,hf,hen,hcall⟩:=(h.c1 hctx hfc).1;have hrs:=(PC h hctx hss).1;have hre:=QM h hrs hy;refine Xw (Dg hf hen rfl) (hcall w _ _ y (fun _ _=>rfl) h.zlt (oT h) hre (hok hcp)) (GR hj hw) ?_;rintro v w' ⟨hx,Zn,hZn,hrep⟩;have hwf:=hs (fun _=>S4.wf' (fun _ _=>C6.wf) hrep);cases hfl:Lt r with
         |true=>
          have h1:=h.more (Z':=Z) hx (fun _=>id) (fun _=> .inl);refine⟨fun _=>hx,_,_,_,h1.setS d (x:= .cnd t b ⟨ra,explode r (φ y)⟩) (.inl ⟨?_,X3.explode (a:=ra) (S4.mono (fun _ _=>C6.flat hfl) hrep)⟩) D8,hwf⟩;rw[C1 _ _ _ _ htd];exact hw
         |false=>
          have hZn':∀b,Zn b->(w.heap.size<=b/\b<w'.heap.size)\/Z b:=fun b hb=>by
           rcases hZn b hb with h1|h1|h1
           . exact .inl h1
           . exact .inr h1
           . rcases h1 with h1| ⟨h1,_⟩
             . exact .inr h1
             . rw[hfl]at h1;cases h1
          have h1:=h.more (Z':=fun b=>Z b\/Zn b) hx (fun _=> .inl) (fun b hb=>hb.elim .inl (fun hb=>(hZn' b hb).symm));refine⟨fun _=>hx,_,_,_,h1.setS d (x:= .cnd t b ⟨ra,explode r (φ y)⟩) (.inl ⟨?_,X3.explode (a:=ra) (S4.mono (fun _ _=>C6.mono (fun _=> .inr) (fun _ _=>rfl)) hrep)⟩) D8,hwf⟩;rw[C1 _ _ _ _ htd];exact hw
       . have hcn:=NK h hfull hw;have hk:=hs (fun hh=>absurd hh hcn);have hoff:D4 all ⟨some d, .call ⟨.value f,args.toArray,ts⟩,ty,pos,aft,some (j,b)⟩ E=false:=by
          unfold D4 Ac;simp only[hj];cases hEt:E t with
          |bool b'=>simp only[beq_eq_false_iff_ne,ne_eq,Option.some.injEq];intro hh;exact hw (by rw[hEt,hh])
          | _=>rfl
         refine Nc hoff ⟨fun _=>R2.refl w,_,_,_,h.setS d (x:= .cnd t b ⟨ra,explode r (φ y)⟩) (.inr ⟨?_,rfl⟩) D8,hk⟩;rw[C1 _ _ _ _ htd];exact hw
     . exact hs.elim
   . exact hs.elim
 split at hs
 . rename_i g ss hcal;split at hs
   . rename_i s hfs;split at hs
     . rename_i run hrun;split at hs
       . rename_i sv hsv;obtain⟨hen,hs⟩:=B9 hs;simp only[Bool.and_eq_true]at hen;have hrf:Mm st.nx sv:=fun c hc=>YT (List.all_eq_true.1 hen.2 c hc)
         by_cases hw:E t= .bool b
         . have hctx:=h.gctx (n:=20) hw;obtain⟨cap,hf,hrs,href⟩:=Ey h hctx hcal;refine Xw (Dg hf hen.1 rfl) (((hsp g s hfs).2 run hrun).res h hrs hsv) (GR hj hw) ?_;rintro v w' ⟨hx,Z',hz,hz',hrep⟩;have h1:=h.more hx hz hz';refine⟨fun _=>hx,_,_,_,h1.setS d (x:= .cnd t b sv) (.inl ⟨?_,hrep⟩) hrf,hs⟩;rw[C1 _ _ _ _ htd];exact hw
         . have hoff:D4 all ⟨some d, .call ⟨.value f,args.toArray,ts⟩,ty,pos,aft,some (j,b)⟩ E=false:=by
            unfold D4 Ac;simp only[hj];cases hEt:E t with
            |bool b'=>simp only[beq_eq_false_iff_ne,ne_eq,Option.some.injEq];intro hh;exact hw (by rw[hEt,hh])
            | _=>rfl
           refine Nc hoff ⟨fun _=>R2.refl w,_,_,_,h.setS d (x:= .cnd t b sv) (.inr ⟨?_,rfl⟩) hrf,hs⟩;rw[C1 _ _ _ _ htd];exact hw
       . exact hs.elim
     rename_i hnone;cases hen:Fi cx.P g&&Gm s.res with
     |false=>simp[hen]at hs
     |true=>
      simp only[hen,cond_true]at hs;simp only[Bool.and_eq_true]at hen;obtain⟨hen,hno⟩:=hen;have hrefs:∀ {rs:List RT} {r:Ef rs},Gm rs=true->∀q∈(G1 rs r st).1,Mm st.nx q:=by
       intro rs
       induction rs with
       |nil=>intro r _ q hq;simp[G1]at hq
       |cons r0 rs ih=>
        intro r hn q hq;cases r0 with
        |own _ _=>simp[Gm,Av]at hn
        |obox _ _=>simp[Gm,Av]at hn
        |rows _ _ _=>simp[Gm,Av]at hn
        |val a t=>
         simp only[Gm,Av,Bool.and_eq_true]at hn;simp only[G1,List.mem_cons]at hq;rcases hq with rfl|hq
         . exact D8
         . exact ih hn.2 q hq
      have hoff:E t≠ .bool b->D4 all ⟨some d, .call ⟨.value f,args.toArray,ts⟩,ty,pos,aft,some (j,b)⟩ E=false:=fun hw=>by
       unfold D4 Ac;simp only[hj];cases hEt:E t with
       |bool b'=>simp only[beq_eq_false_iff_ne,ne_eq,Option.some.injEq];intro hh;exact hw (by rw[hEt,hh])
       | _=>rfl
      cases hav:O7 s.args with
      |true=>
       simp only[hav,cond_true]at hs;obtain⟨hfi,hs⟩:=B9 hs;have hwr:SU sp st ⟨some d, .call ⟨.value f,args.toArray,ts⟩,ty,pos,aft,some (j,b)⟩=true:=by
        simp only[SU,NQ];unfold A6y at hfi;split at hfi
        . rename_i g' ks hg';have:=Nat.eq_of_beq_eq_true hfi;subst this;rw[hg'];simp only[hfs,hav,Bool.or_true]
        . cases hfi
       rw[hwr];unfold XA at hs;split at hs
       . rename_i mu hmu;obtain⟨hnd,hs⟩:=B9 hs;have hnd:=Cl hnd;by_cases hw:E t= .bool b
         . have hctx:=h.gctx (n:=20) hw;have hcp:=h.ctxP hctx;obtain⟨cap,hf,hrs,_⟩:=Ey h hctx hcal;have hboxes:∀k∈mu,Qh (st.L k)=true->∃b,B k= .pointer (some ⟨b,0,none⟩):=fun k _ hk=>by
            have hL:=h.locs k;cases hl:st.L k<;>rw[hl]at hk hL<;>try (cases hk)
            . obtain⟨b,_,e,_⟩:=hL;exact⟨b,e⟩
            . obtain⟨rfl,_,b,e⟩:=hL;exact⟨b,e⟩
           have hmv:=Wz hrs hmu hboxes;have hlv:=Ao hs hmu;have hmts:=Dl h hrs hs hmu;obtain⟨x,hre,hs1,_⟩:=Ee h hsp hrs hs;obtain⟨hpre,hs1⟩:=hs1 hcp;refine Xw (Dg hf hen rfl) (Zj h (hsp g s hfs).1 hre hmv hmts hnd hlv hpre) (GR hj hw) ?_;rintro v w' ⟨hx,r,o,us,hwf,how,hpost,hmp,rfl,Z',B',g1,g2,g3⟩;have hk:=hs1 r o hwf how hpost (hmp hav);split at hk
           . rename_i sv hsv;rw[hsv]at g2 g3;obtain⟨u,us',e,q1,q2⟩:=g2;rw[show us'= []from q2]at e;subst e;refine⟨fun hh=>(by cases hh),_,_,_,g1.setS d (x:= .cnd t b sv) (.inl ⟨?_,q1⟩) (g3 sv (by simp)),hk⟩;rw[C1 _ _ _ _ htd];exact hw
           . exact hk.elim
         . have hcn:=NK h hfull hw;obtain⟨x,_,hs2⟩:=Cm hs;have hk:=hs2 hcn;split at hk
           . rename_i sv hsv;refine Nc (hoff hw) ⟨fun hh=>(by cases hh),_,_,_,h.setS d (x:= .cnd t b sv) (.inr ⟨?_,rfl⟩) (hrefs (r:=QT s.res) hno sv (by rw[hsv];simp)),hk⟩;rw[C1 _ _ _ _ htd];exact hw
           . exact hk.elim
       . exact hs.elim
      |false=>
      simp only[hav,cond_false]at hs;have hs0:=hs
      . by_cases hw:E t= .bool b
        . have hctx:=h.gctx (n:=20) hw;have hcp:=h.ctxP hctx;obtain⟨cap,hf,hrs,_⟩:=Ey h hctx hcal;obtain⟨x,hre,hs⟩:=Ee h hsp hrs hs0;refine Xw (Dg hf hen rfl) (Zj (mu:= []) h (hsp g s hfs).1 hre (UX hav _) (by rw[QF hav];trivial) List.nodup_nil (fun _ hh=>by cases hh) (hs.1 hcp)) (GR hj hw) ?_;rintro v w' ⟨hx,r,o,us,hwf,_,hpost,_,rfl,Z',B',g1,g2,g3⟩;replace hx:R2 w w':=hx.ext (fun b ⟨u,hu,_⟩=>by rw[QF hav]at hu;cases hu);have hk:=hs.2 r (fun _=>⟨hwf,hpost⟩);have had:∀(as:List AM) (o:Rr as) (st':St),O7 as=false->addM as o [] st'=st':=by
           intro as
           induction as with
           |nil=>intros;rfl
           |cons a as ih=>
            intro o st' ha;simp only[O7,List.any_cons,Bool.or_eq_false_iff]at ha;cases a with
            |val _ _=>exact ih o st' ha.2
            |fn _ _ _=>exact ih o st' ha.2
            |row _ _=>cases ha.1
            |box _ _=>cases ha.1
            |rows _ _ _=>cases ha.1
          rw[had _ _ _ hav]at g1 g3;simp only[dropM]at g1 g2 g3;rw[Xd hno]at g1;have hnx:(G1 s.res r st).2.nx=st.nx:=by rw[Xd hno]
          split at hk
          . rename_i sv hsv;rw[hsv]at g2 g3;obtain⟨u,us',e,q1,q2⟩:=g2;rw[show us'= []from q2]at e;subst e;refine⟨fun _=>hx,_,_,_,g1.setS d (x:= .cnd t b sv) (.inl ⟨?_,q1⟩) (by have:=g3 sv (by simp);rwa[hnx]at this),hk⟩;rw[C1 _ _ _ _ htd];exact hw
          . exact hk.elim
        . have hcn:=NK h hfull hw;obtain⟨x,hs⟩:=Cm hs0;have hk:=hs.2 (QT s.res) (fun hh=>absurd hh hcn);split at hk
          . rename_i sv hsv;have hoff:D4 all ⟨some d, .call ⟨.value f,args.toArray,ts⟩,ty,pos,aft,some (j,b)⟩ E=false:=by
             unfold D4 Ac;simp only[hj];cases hEt:E t with
             |bool b'=>simp only[beq_eq_false_iff_ne,ne_eq,Option.some.injEq];intro hh;exact hw (by rw[hEt,hh])
             | _=>rfl
            refine Nc hoff ⟨fun _=>R2.refl w,_,_,_,h.setS d (x:= .cnd t b sv) (.inr ⟨?_,rfl⟩) ?_,hk⟩
            . rw[C1 _ _ _ _ htd];exact hw
            . have:∀ {rs:List RT} {r:Ef rs},Gm rs=true->∀q∈(G1 rs r st).1,Mm st.nx q:=by
               intro rs
               induction rs with
               |nil=>intro r _ q hq;simp[G1]at hq
               |cons r0 rs ih=>
                intro r hn q hq;cases r0 with
                |own _ _=>simp[Gm,Av]at hn
                |obox _ _=>simp[Gm,Av]at hn
                |rows _ _ _=>simp[Gm,Av]at hn
                |val a t=>
                 simp only[Gm,Av,Bool.and_eq_true]at hn;simp only[G1,List.mem_cons]at hq;rcases hq with rfl|hq
                 . exact D8
                 . exact ih hn.2 q hq
              exact this hno sv (by rw[hsv];simp)
          . exact hk.elim
   . exact hs.elim
 . exact hs.elim
theorem fP (h:C0 za w0 st E w Z B) {x:Operand} (hs:Zt st d x k) (hg:D4 all ⟨some d, .next x false,ty,pos,aft,gd⟩ E=true):M2 cx.P all ⟨some d, .next x false,ty,pos,aft,gd⟩ (SS za w0 w true k) E w:=by
 unfold Zt at hs;split at hs
 . rename_i q hx;split at hs
   . exact pE h hx hs hg
   . rename_i ka kt va vt left cur hq;obtain⟨b,hB,hv⟩:=(h.c1 (D5 E) hx).1;have hL:=h.locs q;rw[hq]at hL;obtain⟨r,hr,hU,hnz,hit⟩:=hL;rw[hB]at hr;cases hr;have hroot:root (B q)=some b:=by rw[hB];rfl
     have hft:A4 w (B q) (st.L q) b:=by rw[hq];exact hroot
     have hover:left= []->(Instr.next (.pointer (some ⟨b,0,none⟩)) false ty).run cx.P w= .ok (.tuple #[.bool false]) w->M2 cx.P all ⟨some d, .next x false,ty,pos,aft,gd⟩ (SS za w0 w true k) E w:=fun hl hrun=>
      J9 (v:= .tuple #[.bool false]) (w':=w) (fun _ _ _ _=>by simp[execOp,hv,hrun]) hg ⟨fun hh=>(by cases hh),_,_,_,h.setS d (x:= .tup [⟨false,[.val .bool false]⟩]) ⟨[.bool false],rfl,_,_,rfl,⟨_,[],rfl,rfl,rfl⟩,rfl⟩ (fun s hs c hc=>by simp at hs;subst hs;simp at hc;subst hc;trivial),hs.1 hl⟩
     rcases hit with⟨hi,hl,_⟩ | ⟨m,seen,ents,cl,i1,i2,i3,i4,i5,i6⟩
     . exact hover hl (by simp[Instr.next,getObj,Sem.run,hi,Sem.run_bind,Result.andThen])
     . rcases run_next_at (P:=cx.P) w ty b m cl cl seen ents cl i1 i3 i4.1 (Nat.le_refl _)with⟨h0,hrun⟩ | ⟨e,he,w1,hw1,hrun⟩
       . refine hover ?_ hrun;have:=O8.len i5;rw[Array.length_toList,h0]at this;exact List.eq_nil_of_length_eq_zero this.symm
       . obtain⟨a,c,g1,g2⟩:=UO i4.2 he;rw[g1]at i5;obtain⟨l1,y,l2,hl,g3,g4,g5⟩:=O8.split i5;have hblt:b<w.heap.size:=(Array.getElem?_eq_some_iff.1 i1).1;generalize hw':ChangeMaps.setBlock w1 b (.mapIter (some m) cl (seen.push e.born) cl)=w' at hrun;have hchg:IH b w w':=by
          subst hw';rcases hw1 with rfl|rfl
          . exact⟨rfl,rfl,⟨rfl,Nat.le_refl _⟩,by simp[ChangeMaps.setBlock],fun z hz=>by simp[ChangeMaps.setBlock,Array.getElem?_setIfInBounds,Ne.symm hz]⟩
          . exact⟨rfl,rfl,⟨rfl,Nat.le_succ _⟩,by simp[ChangeMaps.setBlock],fun z hz=>by simp[ChangeMaps.setBlock,Array.getElem?_setIfInBounds,Ne.symm hz];rfl⟩
         have hnew:w'.heap[b]? =some (.mapIter (some m) cl (seen.push e.born) cl):=by
          subst hw';rcases hw1 with rfl|rfl<;>simp[ChangeMaps.setBlock,Array.getElem?_setIfInBounds,hblt]
         have hsame:N5 Z w w':=fun z hz=>hchg.2.2.2.2 z (fun hh=>hnz (hh▸hz))
         have hem:e∈ents.toList:=by
          have:e∈(leftOf ents seen).toList:=he;simp only[leftOf,Array.toList_filter,List.mem_filter]at this;exact this.1
         have k1:S4 (C6 kt w' Z) ka e.key y.1:=g4.mono fun _ _=>C6.mono (fun _=>id) hsame
         have k2:S4 (C6 vt w' Z) va e.val y.2:=g5.mono fun _ _=>C6.mono (fun _=>id) hsame
         have h2:=h.chg (k:=q) (lc:= .iter ka kt va vt (l1++l2) (some y)) (by rw[hq];trivial) hft hchg ⟨b,hB,hU,hnz, .inr ⟨m,seen.push e.born,ents,cl,hnew,i2,(hsame m i2).trans i3,i4,by rw[g2];exact Kj.mono (fun _=>id) hsame g3,fun x hx=>by cases hx;exact⟨e,hem,⟨seen,rfl⟩,k1,k2⟩⟩⟩ trivial (fun _ hh=> .inl hh);refine J9 (v:= .tuple #[.bool true,e.key,e.val]) (w':=w') (fun _ _ _ _=>by simp[execOp,hv,hrun]) hg ⟨fun hh=>(by cases hh),_,_,_,h2.setS d (x:= .tup [⟨false,[.val .bool true]⟩,⟨ka,explode kt y.1⟩,⟨va,explode vt y.2⟩]) ⟨[.bool true,e.key,e.val],rfl,_,_,rfl,⟨_,[],rfl,rfl,rfl⟩,_,_,rfl,X3.explode k1,_,_,rfl,X3.explode k2,rfl⟩ (fun s hs c hc=> ?_),hs.2 l1 y l2 hl⟩;simp only[List.mem_cons,List.not_mem_nil,or_false]at hs;rcases hs with rfl|rfl|rfl
         . simp at hc;subst hc;trivial
         . exact D8 c hc
         . exact D8 c hc
   . exact hs.elim
 . exact hs.elim
theorem mD {P:Program} {T:TypeId} {l:List (Nat×TI)} (h:G9 P l=true):G9 P (A4j T l)=true:=by
 unfold A4j;split
 . rename_i ti hti;have h1:=B4 h hti;simp only[G9,Bool.and_eq_true];exact⟨h1,h⟩
 . exact h
theorem A5g (cx:Cx) (all:List Oper) (o:Oper):(fE cx all o).P=cx.P:=by
 unfold fE;split
 . cases A4f all o.dst<;>rfl
 . rfl
theorem A2b {cx:Cx} (all:List Oper) (o:Oper) (h:G9 cx.P cx.tys=true):G9 (fE cx all o).P (fE cx all o).tys=true:=by
 unfold fE;split
 . cases A4f all o.dst with
   |true=>exact h
   |false=>exact mD h
 . exact h
theorem QY {o:Oper} (h:C0 za w0 st E w Z B) (hmkd:za.b0=0\/YK sp za.k0 st o.op=true) (hty:G9 cx.P cx.tys=true) (hsp:Ll cx.P sp) (hs:Uz cx sp all o k st):M2 cx.P all o (SS za w0 w (SU sp st o) k) E w:=by
 obtain⟨dst,op,ty,pos,aft,gd⟩:=o;unfold Uz at hs;simp only at hs;split at hs
 . have hwant:∀dst,D4 all ⟨dst,op,ty,pos,aft,none⟩ E=true:=fun _=>rfl
   have nxw:∀ {E':G3} {w':World},SS za w0 w (gR op) k E' w'->SS za w0 w (SU sp st ⟨dst,op,ty,pos,aft,none⟩) k E' w':=fun⟨a,b⟩=>⟨fun hh=>a (by simp only[SU,Bool.or_eq_false_iff]at hh;exact hh.1),b⟩
   split at hs
   . rename_i φ v hp;split at hs
     . rename_i d;replace hs:=F4.1 hs;obtain⟨u,h1,h2,h3⟩:=Zw (ty:=ty) h (A2b all _ hty) (D5 E) hp hs.1;rw[A5g]at h1;exact J9 (h1 w (fun _=>R2.refl w)) (hwant _) ⟨fun _=>R2.refl w,_,_,_,h.setS d (h2 _) h3,hs.2⟩
     . exact hs.elim
   split at hs
   . rename_i φ st' hst;replace hs:=F4.1 hs;exact I7 (fun _ _=>nxw) (lJ h (hmkd.imp id fun hh=>by simp only[YK,Bool.and_eq_true,Bool.not_eq_true']at hh;exact hh.2) hty hst hs.1 hs.2 (hwant _))
   . rename_i hnn;clear hnn;split at hs
     . split at hs
       . split at hs
         . rename_i φ st' hst;replace hs:=F4.1 hs;refine I7 ?_ (VY h hty hst hs.1 hs.2 (hwant _));rintro E' w' ⟨_,n⟩;exact⟨fun hh=>(by simp[SU,gR]at hh),n⟩
         . exact hs.elim
       . exact hs.elim
     . split at hs
       . split at hs
         . rename_i st' hst;obtain⟨w',g1,_,Z',B',g2⟩:=UT (ty:=ty) h hty hst;exact Ue g1 (hwant _) ⟨fun hh=>(by simp[SU,gR]at hh),_,_,_,g2,hs⟩
         . exact hs.elim
       . exact hs.elim
     . split at hs
       . split at hs
         . rename_i st' hst;obtain⟨w',_,g1,Z',B',g2⟩:=UT (ty:=ty) h hty hst;exact Ue g1 (hwant _) ⟨fun hh=>(by simp[SU,gR]at hh),_,_,_,g2,hs⟩
         . exact hs.elim
       . exact hs.elim
     . split at hs
       . rename_i f args ts heq xx d;have:=eH (ty:=ty) (pos:=pos) (aft:=aft) (all:=all) (ts:=ts) h hsp (hmkd.imp id fun hh=>by simp only[YK,Bool.and_eq_true,Bool.not_eq_true']at hh;simpa using hh.1.2) hs (by rfl);simpa using this
       . exact hs.elim
     . split at hs
       . rename_i x str heq yy d;cases str with
         |true=>exact hs.elim
         |false=>exact I7 (fun _ _ ⟨a,b⟩=>⟨fun hh=>(by simp[SU,gR]at hh),b⟩) (fP h hs (hwant _))
       . exact hs.elim
     . split at hs
       . split at hs
         . rename_i st' hst;exact I7 (fun _ _ ⟨a,b⟩=>⟨fun hh=>(by simp[SU,gR]at hh),b⟩) (lB h hty hst hs (hwant _))
         . exact hs.elim
       . exact hs.elim
     . split at hs
       . split at hs
         . rename_i st' hst;obtain⟨w',g1,Z',B',g2⟩:=kK (cx:=cx) (ty:=ty) h hst;exact Ue g1 (hwant _) ⟨fun hh=>(by simp[SU,gR]at hh),_,_,_,g2,hs⟩
         . exact hs.elim
       . exact hs.elim
     . rename_i args ts _;split at hs
       . rename_i x T hargs hts _;split at hs
         . rename_i st' hst;obtain⟨v,w',g1,g2⟩:=kG (cx:=cx) (ty:=ty) h hty hst;have ha:args= #[x]:=by rw[<-Array.toArray_toList (xs:=args),hargs]
           have ht:ts= #[T]:=by rw[<-Array.toArray_toList (xs:=ts),hts]
           subst ha ht;exact jL g1 (hwant _) ⟨fun hh=>(by simp[SU,gR]at hh),_,_,_,g2,hs⟩
         . exact hs.elim
       . exact hs.elim
     . split at hs
       . split at hs
         . rename_i heff;replace hs:=F4.1 hs;exact I7 (fun _ _=>nxw) (A1o h (hmkd.imp id fun hh op e=>by subst e;simp only[YK,Bool.and_eq_true]at hh;exact hh.1.1) hty heff hs.1 hs.2 (hwant _))
         . exact hs.elim
       . exact hs.elim
 . rename_i j b;split at hs
   . rename_i t hj;cases hfull:Oq st 20 t with
     |false=>simp[hfull]at hs
     |true=>
      simp only[hfull,cond_true]at hs;split at hs
      . rename_i d;obtain⟨htd',hs⟩:=B9 hs
        . have htd:t≠d:=Nat.ne_of_beq_eq_false (by simpa using htd');split at hs
          . rename_i φ s hp;cases hrb:s.cs.all (A0a st.nx)with
            |false=>simp[hrb]at hs
            |true=>
            simp only[hrb,cond_true]at hs;replace hs:=F4.1 hs;rw[bD]at hs;by_cases hw:E t= .bool b
            . have hctx:=h.gctx (n:=20) hw;obtain⟨u,h1,h2,h3⟩:=Zw (ty:=ty) h hty hctx hp (hs.1 (h.ctxP hctx));refine J9 (h1 w (fun _=>R2.refl w)) (GR hj hw) ⟨fun _=>R2.refl w,_,_,_,h.setS d (x:= .cnd t b s) (.inl ⟨?_,h2 E⟩) h3,hs.2⟩;rw[C1 _ _ _ _ htd];exact hw
            . have hoff:D4 all ⟨some d,op,ty,pos,aft,some (j,b)⟩ E=false:=by
               unfold D4 Ac;simp only[hj];cases hEt:E t with
               |bool b'=>simp only[beq_eq_false_iff_ne,ne_eq,Option.some.injEq];intro hh;exact hw (by rw[hEt,hh])
               | _=>rfl
              refine Nc hoff ⟨fun _=>R2.refl w,_,_,_,h.setS d (x:= .cnd t b s) (.inr ⟨?_,rfl⟩) ?_,hs.2⟩
              . rw[C1 _ _ _ _ htd];exact hw
              . exact fun c hc=>YT (List.all_eq_true.1 hrb c hc)
          . exact hs.elim
          . split at hs
            . rename_i f args ts _ heq;have:=aG (ty:=ty) (pos:=pos) (aft:=aft) (d:=d) (all:=all) (ts:=ts) h hsp hj hfull htd hs;simpa using this
            . rename_i T len parts _;split at hs
              . rename_i st1 hb1;have:=kD (ty:=ty) (pos:=pos) (aft:=aft) (d:=d) (all:=all) h hty hj hfull htd hb1 hs;refine I7 (next:=SS za w0 w false k) ?_ (by simpa using this);rintro _ _ ⟨a,b⟩;exact⟨fun _=>a rfl,b⟩
              . exact hs.elim
            . rename_i T x _ _;split at hs
              . rename_i st1 hb1;obtain⟨l1,l2⟩:=bS (ty:=ty) h hty htd hb1;by_cases hw:E t= .bool b
                . obtain⟨v,B',g1,g2⟩:=l1 hw (h.gctx (n:=20) hw);exact J9 (g1 w (R2.refl w)) (GR hj hw) ⟨fun _=>R2.refl w,_,_,_,g2,hs⟩
                . have hoff:D4 all ⟨some d, .load T x,ty,pos,aft,some (j,b)⟩ E=false:=by
                   unfold D4 Ac;simp only[hj];cases hEt:E t with
                   |bool b'=>simp only[beq_eq_false_iff_ne,ne_eq,Option.some.injEq];intro hh;exact hw (by rw[hEt,hh])
                   | _=>rfl
                  obtain⟨B',g2⟩:=l2 hw;exact Nc hoff ⟨fun _=>R2.refl w,_,_,_,g2,hs⟩
              . exact hs.elim
            . exact hs.elim
      . exact hs.elim
   . exact hs.elim
theorem VU (hb0:za.b0=0) (hty:G9 cx.P cx.tys=true) (hsp:Ll cx.P sp):∀ {rest:List Oper} {st:St} {E:G3} {w:World} {Z:Nat->Prop} {B:Nat->Value},C0 za w0 st E w Z B->QZ cx sp all rest k st->JZ cx.P all (Nx za w0 k) rest E w
 | [],_,_,_,_,_,h,hs=>⟨_,_,_,h,hs⟩
 |o::r,_,_,_,_,_,h,hs=>by
  refine I7 ?_ (QY h (.inl hb0) hty hsp hs);rintro E' w' ⟨_,st',Z',B',h',hk⟩;exact VU hb0 hty hsp h' hk
def Tm (E:G3) (ts:List Nat) (b:Nat):Prop:=∃s∈ts,root (E s)=some b
theorem pX (h:C0 za w0 st E w Z B) {ts:List Nat} {q b:Nat} (hq:A3q st ts q=true) (hb:root (B q)=some b):Tm E ts b:=by
 obtain⟨s,hs,hh⟩:=List.any_eq_true.1 hq;unfold oJ at hh;split at hh
 . rename_i k e;have:=Nat.eq_of_beq_eq_true hh;subst this;have h1:=h.slots s;rw[e]at h1;obtain⟨v,_,e2,⟨b',e3,e4⟩,e5⟩:=h1;cases e2;exact⟨s,hs,by rw[e4];rw[e3]at hb;exact hb⟩
 . cases hh
theorem A5e (h:C0 za w0 st E w Z B) {ts:List Nat} {as:List AM} {ss:List SV} {vs:List Value} (hrs:Oj w Z B ss vs) (hk:kMu st ts as ss=true) (hbx:∀mu,X5 as ss=some mu->∀k∈mu,Qh (st.L k)=true->∃b,B k= .pointer (some ⟨b,0,none⟩)) {b:Nat} (hb:TH w as vs b):Tm E ts b:=by
 simp only[kMu,Bool.and_eq_true]at hk;obtain⟨h1,h2⟩:=hk;split at h2
 . rename_i mu hmu;have hmv:=Wz hrs hmu (hbx mu hmu);obtain⟨p,hp,hfo⟩:=hb;have hin:p.2∈D2 as vs/\p.1∈as:=by
    clear hmv hmu hfo h1 hrs hbx
    induction as generalizing vs with
    |nil=>cases vs<;>cases hp
    |cons a r ih=>
     cases vs with
     |nil=>cases hp
     |cons v vs=>
      simp only[P8,D2]at hp⊢;cases hm:N0 a with
      |true=>
       simp only[hm,cond_true]at hp⊢;rcases List.mem_cons.1 hp with rfl|hp
       . exact⟨List.mem_cons_self,List.mem_cons_self⟩
       . exact⟨List.mem_cons_of_mem _ (ih hp).1,List.mem_cons_of_mem _ (ih hp).2⟩
      |false=>
       simp only[hm,cond_false]at hp⊢;exact⟨(ih hp).1,List.mem_cons_of_mem _ (ih hp).2⟩
   rw[hmv]at hin;obtain⟨q,hq,e⟩:=List.mem_map.1 hin.1;have hbm:=List.all_eq_true.1 h1 _ hin.2;have hroot:root p.2=some b:=by
    cases hp1:p.1<;>rw[hp1]at hfo hbm<;>first|exact hfo.elim|exact hfo|cases hbm
   exact pX h (List.all_eq_true.1 h2 q hq) (by rw[e];exact hroot)
 . cases h2
theorem nA {o:Oper} {ts:List Nat} (h:C0 za w0 st E w Z B) (hsp:Ll cx.P sp) (hkc:bL cx sp st ts o=true) (hs:Uz cx sp all o k st):M2 cx.P all o (fun E' w'=>Ae (Tm E ts) w w'/\Nx za w0 k E' w') E w:=by
 obtain⟨dst,op,ty,pos,aft,gd⟩:=o;unfold bL at hkc;split at hkc
 . rename_i f args tys heq;simp only at heq;subst heq;simp only[Bool.and_eq_true,Option.isNone_iff_eq_none]at hkc;obtain⟨rfl,hkc⟩:=hkc;unfold Uz at hs;have hp0:Tx (fE cx all ⟨dst, .call ⟨.value f,args,tys⟩,ty,pos,aft,none⟩) st [] (.call ⟨.value f,args,tys⟩)=none:=rfl;have hn0:Xb cx st dst (.call ⟨.value f,args,tys⟩)=none:=rfl;simp only[hp0,hn0]at hs;cases dst with
   |none=>exact hs.elim
   |some d=>
    simp only at hs;have hwant:D4 all ⟨some d, .call ⟨.value f,args,tys⟩,ty,pos,aft,none⟩ E=true:=rfl;obtain⟨args,rfl⟩:∃l:List Operand,args=l.toArray:=⟨args.toList,by simp⟩;simp only[List.toList_toArray]at hkc hs;split at hkc
    . rename_i g ss hcal;split at hkc
      . rename_i s hfs;simp only[Bool.and_eq_true,Bool.not_eq_true',Option.isSome_eq_false_iff,Option.isNone_iff_eq_none]at hkc;obtain⟨hinl,hkc⟩:=hkc;have hext:∀ {st1:St} {Z1:Nat->Prop} {ss1:List SV} {vs:List Value},C0 za w0 st1 E w Z1 B->Oj w Z1 B ss1 vs->kMu st1 ts s.args ss1=true->∀ {w':World},Ae (TH w s.args vs) w w'->Ae (Tm E ts) w w':=fun {st1 Z1 ss1 vs} h1 hrs hk1 {w'} hx=>
         ⟨hx.os,hx.tape,hx.output,hx.size,fun b hb hnb=>hx.block b hb fun hm=>hnb (A5e h1 hrs hk1 (fun mu _ k _ hk=>by
          have hL:=h1.locs k;cases hl:st1.L k<;>rw[hl]at hk hL<;>try (cases hk)
          . obtain⟨b,_,e,_⟩:=hL;exact⟨b,e⟩
          . obtain⟨rfl,_,b,e⟩:=hL;exact⟨b,e⟩) hm),trivial⟩
        unfold Tb at hs;split at hs
        . rename_i hfc;simp only[Lr,Option.bind_eq_bind,bind_some]at hcal;obtain⟨c,hc,_,_,hcal⟩:=hcal;rw[bind_some.2 hc]at hfc;cases hfc;cases hcal
        . simp only[hcal,hfs,hinl]at hs;obtain⟨hen,hs⟩:=B9 hs;cases hsh:s.shared with
          |true=>
           simp only[hsh,cond_true]at hs hkc;obtain⟨Z0,h0⟩:=h.stillF cx s.args ss;obtain⟨Z1,h1⟩:=h0.settleA (as:=s.args) (ss:=ss);split at hs
           . rename_i g' ss' hcal';obtain⟨hgg,hs'⟩:=B9 hs;have:=Nat.eq_of_beq_eq_true hgg;subst this;simp only[hcal']at hkc;obtain⟨cap,hf,hrs,_⟩:=Ey h1 (D5 E) hcal';exact I7 (fun _ _ ⟨a,b⟩=>⟨hext h1 hrs hkc a,b.2⟩) (FO h1 hsp (Dg hf hen rfl) hrs hfs hs' hwant)
           . exact hs.elim
          |false=>
           simp only[hsh,cond_false]at hs hkc;obtain⟨cap,hf,hrs,_⟩:=Ey h (D5 E) hcal;exact I7 (fun _ _ ⟨a,b⟩=>⟨hext h hrs hkc a,b.2⟩) (FO h hsp (Dg hf hen rfl) hrs hfs hs hwant)
      . cases hkc
    . cases hkc
 . cases hkc
end
theorem C3.trans {a b c:St} (h:C3 a b) (k:C3 b c):C3 a c:=by
 refine⟨Nat.le_trans h.ct k.ct,fun s h0 h1=> ?_,fun q h0 h1=> ?_, ?_⟩
 . have e:=k.s s h0 (Nat.le_trans h1 h.ct);rw[e]at h0 h1⊢;exact h.s s h0 h1
 . have e:=k.l q h0 (Nat.le_trans h1 h.ct);rw[e]at h0 h1⊢;exact h.l q h0 h1
 . exact h.f.trans h.ct k.f
theorem C3.setS (st:St) (d:Nat) (x:DV):C3 st (st.setS d x):=by
 refine⟨Nat.le_succ _,fun s h0 h1=> ?_,fun _ _ _=>rfl,Af.refl _ _⟩;rw[St.eS_setS]at h0 h1⊢;split at h1
 . simp only at h1;omega
 . rename_i hs;rw[if_neg hs];cases hc:BZ d (st.S s)with
   |true=>simp only[hc,cond_true]at h1;omega
   |false=>rfl
theorem C3.setL (st:St) (k:Nat) (x:LC):C3 st (st.setL k x):=by
 refine⟨Nat.le_succ _,fun _ _ _=>rfl,fun q h0 h1=> ?_,Af.refl _ _⟩;rw[St.eL_setL]at h0 h1⊢;split at h1
 . simp only at h1;omega
 . rename_i hs;rw[if_neg hs]
theorem C3.newL (st:St) (x:LC):C3 st (st.newL x):=by
 refine⟨Nat.le_succ _,fun _ _ _=>rfl,fun q h0 h1=> ?_,Af.refl _ _⟩;rw[St.eL_newL]at h0 h1⊢;split at h1
 . simp only at h1;omega
 . rename_i hs;rw[if_neg hs]
theorem P0.mapV (n:Nat) (p:DV->Bool) (f:DV->DV):∀l,P0 n l (Vc.mapV p f (n+1) l)
 | []=>trivial
 | (s,x)::l=>by
  refine⟨rfl,fun h=> ?_,P0.mapV n p f l⟩;cases hp:p x.2 with
  |true=>simp only[hp,cond_true]at h;omega
  |false=>rfl
theorem Af.mapV (n:Nat) (p:DV->Bool) (f:DV->DV):∀l,Af n l (l.map (Vc.mapV p f (n+1)))
 | []=>trivial
 |x::l=>⟨P0.mapV n p f x,Af.mapV n p f l⟩
theorem C3.freeze (st:St) (k:Nat) (c:C):C3 st (st.freeze k c):=by
 refine⟨Nat.le_succ _,fun s h0 h1=> ?_,fun q h0 h1=> ?_,Af.mapV _ _ _ _⟩
 . rw[St.eS_freeze]at h0 h1⊢;cases hc:Wu k (st.S s)with
   |true=>simp only[hc,cond_true]at h1;omega
   |false=>rfl
 . rw[St.eL_freeze]at h0 h1⊢;cases hc:UJ k (if q=k then(st.ct+1,LC.none)else st.eL q).2 with
   |true=>simp only[hc,cond_true]at h1;omega
   |false=>
    simp only[hc,cond_false]at h1⊢;split at h1
    . simp only at h1;omega
    . rename_i hq;rw[if_neg hq]
theorem C3.settle (st:St) (cs:List C):C3 st (settle st cs):=by
 induction cs generalizing st with
 |nil=>exact C3.refl _
 |cons c cs ih=>
  cases c with
  |row k=>
   simp only[Vc.settle];cases hk:st.L k with
   |row t e l=>
    cases Nat.ble st.nm k with
    |true=>exact(C3.freeze st k _).trans (ih _)
    |false=>exact ih st
   |rows t e e' ls al ho=>
    cases ho with
    |some _=>exact ih st
    |none=>
     cases Nat.ble st.nm k with
     |true=>exact(C3.freeze st k _).trans (ih _)
     |false=>exact ih st
   | _=>exact ih st
  |win k _ _ _=>
   simp only[Vc.settle];cases hk:st.L k with
   |row t e l=>
    cases Nat.ble st.nm k with
    |true=>exact(C3.freeze st k _).trans (ih _)
    |false=>exact ih st
   | _=>exact ih st
  |mp k=>
   simp only[Vc.settle];cases hk:st.L k with
   |map _ _ _ _ _=>
    cases Nat.ble st.nm k with
    |true=>exact(C3.freeze st k _).trans (ih _)
    |false=>exact ih st
   | _=>exact ih st
  | _=>exact ih st
theorem C3.settleO (st:St) (x:Operand):C3 st (settleO st x):=by
 unfold Vc.settleO;split
 . exact C3.settle _ _
 . exact C3.refl _
theorem C3.settleP (st:St) (ps:List (Nat×Operand)):C3 st (settleP st ps):=by
 induction ps generalizing st with
 |nil=>exact C3.refl _
 |cons x ps ih=>exact(C3.settleO st x.2).trans (ih _)
theorem C3.thawS (st:St) (s:SV):C3 st (thawS st s):=by
 unfold Vc.thawS;split
 . unfold thaw;split
   . cases Nat.ble st.nm _ with
     |true=>exact(C3.setL st _ _).trans (C3.setL _ _ _)
     |false=>exact C3.refl st
   . exact C3.refl st
 . exact C3.refl st
theorem C3.stillB (cx:Cx) (st:St) (k:Nat):C3 st (stillB cx st k):=by
 unfold Vc.stillB;split
 . rename_i T cs _;cases Nat.ble st.nm k with
   |false=>exact C3.refl _
   |true=>
    simp only[cond_true];split
    . split
      . split
        . exact((C3.settle st cs).trans (C3.setL _ _ _)).trans (C3.setL _ _ _)
        . exact C3.refl _
      . exact C3.refl _
    . exact C3.refl _
 . exact C3.refl _
theorem C3.stillL (cx:Cx):∀(ks:List Nat) (st:St),C3 st (ks.foldl (Vc.stillB cx) st)
 | [],st=>C3.refl st
 |k::ks,st=>(C3.stillB cx st k).trans (C3.stillL cx ks _)
theorem C3.stillF (cx:Cx):∀(st:St) (as:List AM) (ss:List SV),C3 st (stillF cx st as ss)
 |st,[],_=>C3.refl st
 |st,_:: _,[]=>C3.refl st
 |st,a::as,s::ss=>by
  simp only[Vc.stillF];split
  . exact(C3.stillL cx _ st).trans (C3.stillF cx _ as ss)
  . exact C3.stillF cx st as ss
theorem C3.settleA:∀(as:List AM) (ss:List SV) (st:St),C3 st (settleA st as ss)
 | [],_,st=>C3.refl st
 | .val _ _::as,s::ss,st=>(C3.settle st s.cs).trans (C3.settleA as ss _)
 | .row _ _::as,s::ss,st=>(C3.thawS st s).trans (C3.settleA as ss _)
 | .rows _ _ _::as,_::ss,st=>C3.settleA as ss st
 | .rows _ _ _:: _,[],st=>C3.refl st
 | .box _ _::as,_::ss,st=>C3.settleA as ss st
 | .fn _ _ _::as,_::ss,st=>C3.settleA as ss st
 | .val _ _:: _,[],st=>C3.refl st
 | .row _ _:: _,[],st=>C3.refl st
 | .box _ _:: _,[],st=>C3.refl st
 | .fn _ _ _:: _,[],st=>C3.refl st
theorem C3.dropM:∀(ks:List Nat) (st:St),C3 st (dropM st ks)
 | [],st=>C3.refl st
 |k::ks,st=>(C3.setL st k _).trans (C3.dropM ks _)
theorem C3.addM:∀(as:List AM) (o:Rr as) (ks:List Nat) (st:St),C3 st (addM as o ks st)
 | [],_,ks,st=>by cases ks<;>exact C3.refl st
 | .row t e::as,o,[],st=>C3.refl st
 | .box t e::as,o,[],st=>C3.refl st
 | .row t e::as,o,k::ks,st=>(C3.setL st k _).trans (C3.addM as o.2 ks _)
 | .box t e::as,o,k::ks,st=>(C3.setL st k _).trans (C3.addM as o.2 ks _)
 | .val _ _::as,o,ks,st=>C3.addM as o ks st
 | .fn _ _ _::as,o,ks,st=>C3.addM as o ks st
 | .rows _ _ _::as,o,[],st=>C3.refl st
 | .rows _ _ _::as,o,k::ks,st=>(C3.setL st k _).trans (C3.addM as o.2 ks _)
theorem C3.place:∀(rs:List RT) (r:Ef rs) (st:St),C3 st (G1 rs r st).2
 | [],_,st=>C3.refl st
 | .val _ _::rs,r,st=>C3.place rs r.2 st
 | .own t e::rs,r,st=>(C3.newL st (.row t e r.1)).trans (C3.place rs r.2 _)
 | .obox T t::rs,r,st=>(C3.newL st (.box T (explode t r.1))).trans (C3.place rs r.2 _)
 | .rows t e e'::rs,r,st=>(C3.newL st (.rows t e e' r.1 [] none)).trans (C3.place rs r.2 _)
theorem C3.boxS (st:St) (d:Tmp) (T:TypeId) (cs:List C):C3 st (boxS st d T cs):=(C3.newL _ _).trans (C3.setS _ _ _)
theorem C3.rowS (st:St) (d:Tmp) (t:Ty) (e:TypeId) (l:List t.den):C3 st (rowS st d t e l):=(C3.newL _ _).trans (C3.setS _ _ _)
theorem C3.dropR (st:St) (c:C):C3 st (dropR st c):=by
 cases c with
 |row k=>exact C3.setL _ _ _
 | _=>exact C3.refl _
section
variable {cx:Cx} {sp:F3} {all:List Oper} {k k':St->Prop} {st:St}
theorem C3.detO (st:St) (x:Operand):C3 st (detO st x):=by
 have hbif:∀(b:Bool) (s1:St),C3 st s1->C3 st (bif b then s1 else st):=by
  intro b s1 h;cases b
  . exact C3.refl _
  . exact h
 unfold Vc.detO;split
 . unfold A1m;split
   . split
     . split
       . split
         . exact hbif _ _ ((C3.setL _ _ _).trans (C3.setL _ _ _))
         . exact C3.refl _
       . exact C3.refl _
     . exact C3.refl _
   . exact C3.refl _
 . exact C3.refl _
theorem US {d:Tmp} {T:TypeId} {x:Operand} {st':St} (h:UR cx st d T x=some st'):C3 st st':=by
 simp only[UR,Option.bind_eq_bind,bind_some]at h;obtain⟨ti,_,c,_,h⟩:=h;split at h
 . split at h
   . obtain⟨_,h⟩:=D7 h;cases h;exact((C3.newL _ _).trans (C3.setL _ _ _)).trans (C3.setS _ _ _)
   . cases h
 . cases h
theorem kI {d:Tmp} {T:TypeId} {x y:Operand} {st':St} (h:aI cx st d T x y=some st'):C3 st st':=by
 simp only[aI,Option.bind_eq_bind,bind_some]at h;obtain⟨ti,_,t,_,a,_,b,_,ys,_,h⟩:=h;cases a with
 |row k=>
  simp only at h;split at h
  . split at h
    . obtain⟨_,h⟩:=D7 h;cases h;exact(C3.setL _ _ _).trans (C3.setS _ _ _)
    . cases h
  . cases h
 | _=>simp at h
theorem nM {d:Tmp} {op:Op} {φ:Option Prop} {st':St} (h:nL cx st d op=some (φ,st')):C3 st st':=by
 unfold nL at h;split at h
 . simp only[Option.bind_eq_bind,bind_some]at h;obtain⟨s,_,h⟩:=h;obtain⟨_,h⟩:=D7 h;cases h;exact C3.boxS _ _ _ _
 . simp only[Option.bind_eq_bind,bind_some]at h;obtain⟨s,_,h⟩:=h;cases h;exact C3.boxS _ _ _ _
 . simp only[Option.bind_eq_bind,bind_some]at h;obtain⟨ti,_,t,_,ps,_,xs,_,h⟩:=h;obtain⟨_,h⟩:=D7 h;cases h;exact(C3.settleP _ _).trans (C3.rowS _ _ _ _ _)
 . simp only[Option.bind_eq_bind,bind_some]at h;obtain⟨ti,_,t,_,l,_,c,_,h⟩:=h;cases hr:ti.rows with
   |true=>
    simp only[hr,cond_true,Option.map_eq_some_iff]at h;obtain⟨st2,hm,h⟩:=h;cases h;unfold PW at hm;split at hm
    . simp only[Option.map_eq_some_iff]at hm;obtain⟨_,_,hm⟩:=hm;subst hm;exact(C3.newL _ _).trans (C3.setS _ _ _)
    . cases hm
   |false=>
    simp only[hr,cond_false]at h;obtain⟨_,h⟩:=D7 h;cases h;exact C3.rowS _ _ _ _ _
 . split at h
   . obtain⟨_,h⟩:=D7 h;simp only[A4e,Option.bind_eq_bind,bind_some]at h;obtain⟨ti,_,t,_,a,_,b,_,l,_,ys,_,h⟩:=h;obtain⟨_,h⟩:=D7 h;cases h;exact(C3.detO _ _).trans ((C3.dropR _ _).trans (C3.rowS _ _ _ _ _))
   . cases h
 . simp only[Option.bind_eq_bind,bind_some]at h;obtain⟨ti,_,h⟩:=h;split at h
   . cases h;exact(C3.newL _ _).trans (C3.setS _ _ _)
   . simp only[Option.map_eq_some_iff]at h;obtain⟨_,_,h⟩:=h;cases h;exact(C3.newL _ _).trans (C3.setS _ _ _)
   . cases h
 . split at h
   . simp only[Option.bind_eq_bind,bind_some]at h;obtain⟨ti,_,h⟩:=h;split at h
     . simp only[bind_some]at h;obtain⟨_,_,_,_,h⟩:=h;cases h;exact C3.setS _ _ _
     . cases h
   . cases h
 . simp only[Option.map_eq_some_iff]at h;obtain⟨st2,hl,h⟩:=h;cases h;exact US hl
 . simp only[Option.bind_eq_bind,bind_some]at h;obtain⟨ti,_,h⟩:=h;split at h
   . simp only[bind_some]at h;obtain⟨_,_,_,_,h⟩:=h;cases h;exact(C3.settleO _ _).trans ((C3.newL _ _).trans (C3.setS _ _ _))
   . cases h
 . simp only[Option.bind_eq_bind,bind_some]at h;obtain⟨_,_,h⟩:=h;split at h
   . split at h
     . obtain⟨_,h⟩:=D7 h;cases h;exact C3.setS _ _ _
     . cases h
   . cases h
 . split at h
   . simp only[Option.map_eq_some_iff]at h;obtain⟨st2,hl,h⟩:=h;cases h;exact kI hl
   . cases h
 . cases h
theorem eI {T:TypeId} {x:Operand} {st':St} (h:OM cx st T x=some st'):C3 st st':=by
 simp only[OM,Option.bind_eq_bind,bind_some]at h;obtain⟨ti,_,t,_,c,_,h⟩:=h;split at h
 . split at h
   . split at h
     . obtain⟨_,h⟩:=D7 h;cases h;exact C3.setL _ _ _
     . cases h
   . cases h
 . cases h
theorem PY {T:TypeId} {m x y:Operand} {st':St} (h:JL cx st T m x y=some st'):C3 st st':=by
 simp only[JL,Option.bind_eq_bind,bind_some]at h;obtain⟨ti,_,c,_,sk,_,sy,_,h⟩:=h;split at h
 . simp only[bind_some]at h;obtain⟨_,_,_,_,_,_,h⟩:=h;cases h;exact(C3.settleO _ _).trans (C3.setL _ _ _)
 . cases h
theorem gF {ti:TI} {s:SV} {k sz i off:Nat} {st':St} (h:V5 ti st s k sz i off=some st'):C3 st st':=by
 unfold V5 at h;split at h
 . obtain⟨_,h⟩:=D7 h;split at h
   . cases h;exact C3.setL _ _ _
   . cases h
 . split at h
   . split at h
     . obtain⟨_,h⟩:=D7 h;split at h
       . cases h;exact C3.setL _ _ _
       . cases h
     . cases h
   . cases h
 . cases h
theorem gG {T:TypeId} {p v:Operand} {φ:Option Prop} {st':St} (h:RH cx st T p v=some (φ,st')):C3 st st':=by
 simp only[RH,Option.bind_eq_bind,bind_some]at h;obtain⟨ti,_,c,_,h⟩:=h;split at h
 . simp only[bind_some]at h;obtain⟨s,_,h⟩:=h;split at h
   . obtain⟨_,h⟩:=D7 h;cases h;exact C3.setL _ _ _
   . cases h
 . split at h
   . split at h
     . obtain⟨_,h⟩:=D7 h;unfold Vc.attach at h;split at h
       . split at h
         . obtain⟨_,h⟩:=D7 h;cases h;exact(((C3.setL _ _ _).trans (C3.setL _ _ _)).trans (C3.setL _ _ _)).trans (C3.setL _ _ _)
         . cases h
       . cases h
     . cases h
   . simp only[bind_some,Option.map_eq_some_iff]at h;obtain⟨s,_,st2,h2,h⟩:=h;cases h;exact(C3.settleO _ _).trans (gF h2)
 . cases h
theorem X6 {sh:Bool} {mu:List Nat} :∀ {as:List AM} {ss:List SV} {k k':A2 as->Prop},N7 cx sp st mu sh as ss k->(∀x,k x->k' x)->N7 cx sp st mu sh as ss k'
 | [],[],_,_,h,hk=>hk _ h
 | [],_:: _,_,_,h,_=>h.elim
 |a::r,[],_,_,h,_=>by cases a<;>exact h.elim
 | .val a t::r,s::ss,_,_,h,hk=>by
  simp only[N7]at h⊢;split at h
  . exact X6 h fun y=>hk _
  . exact h.elim
 | .row t e0::r,s::ss,_,_,h,hk=>by
  simp only[N7]at h⊢;split at h
  . split at h
    . obtain⟨hb,h⟩:=B9 h;simp only[hb,cond_true];exact X6 h fun y=>hk _
    . exact h.elim
  . exact h.elim
 | .box t e0::r,s::ss,_,_,h,hk=>by
  simp only[N7]at h⊢;split at h
  . split at h
    . obtain⟨hb,h⟩:=B9 h;simp only[hb,cond_true];exact X6 h fun y=>hk _
    . exact h.elim
  . exact h.elim
 | .rows t e0 e1::r,s::ss,_,_,h,hk=>by
  simp only[N7]at h⊢;split at h
  . split at h
    . obtain⟨hb,h⟩:=B9 h;simp only[hb,cond_true];exact X6 h fun y=>hk _
    . exact h.elim
  . exact h.elim
 | .fn as' ra' r'::r,s::ss,_,_,h,hk=>by
  simp only[N7]at h⊢;split at h
  . split at h
    . obtain⟨hb,h⟩:=B9 h;simp only[hb,cond_true];obtain⟨ok,φ,hp,h⟩:=h;exact⟨ok,φ,hp,X6 h fun y=>hk _⟩
    . exact h.elim
  . split at h
    . rename_i hh;rw[dif_pos hh];exact⟨h.1,h.2.1,X6 h.2.2 fun y=>hk _⟩
    . exact h.elim
  . exact h.elim
theorem KS {d:Tmp} {s:A8} {ss:List SV} (h:Ta cx sp st d s ss k) (hk:∀st',C3 st st'->k st'->k' st'):Ta cx sp st d s ss k':=by
 unfold Ta at h⊢;split at h
 . obtain⟨hb,h⟩:=B9 h;simp only[hb,cond_true];cases hm:O7 s.args<;>simp only[hm,cond_false,cond_true]at h⊢
   . exact X6 h fun x hx=>⟨hx.1,fun r hr hp=>hk _ ((C3.place _ _ _).trans (C3.setS _ _ _)) (hx.2 r hr hp)⟩
   . exact X6 h fun x hx=>⟨hx.1,fun r o hr ho hp hq=>hk _ ((C3.dropM _ _).trans ((C3.place _ _ _).trans ((C3.addM _ _ _ _).trans (C3.setS _ _ _)))) (hx.2 r o hr ho hp hq)⟩
 . exact h
theorem XB {d:Tmp} {f:Operand} {args:List Operand} (h:Tb cx sp st d f args k) (hk:∀st',C3 st st'->k st'->k' st'):Tb cx sp st d f args k':=by
 unfold Tb at h⊢;split at h
 . split at h
   . split at h
     . exact⟨h.1,h.2.1,fun hw=>hk _ (C3.setS _ _ _) (h.2.2 hw)⟩
     . exact h
   . exact h
 . split at h
   . split at h
     . obtain⟨hen,h⟩:=B9 h;simp only[hen,cond_true];rename_i s _ _;cases hin:s.inl with
       |some run=>
        simp only[hin]at h⊢;exact run.step h fun st' ss' ev hh=>hk _ (ev.trans (C3.setS _ _ _)) hh
       |none=>
       simp only[hin]at h⊢;cases hsh:s.shared<;>simp only[hsh,cond_false,cond_true]at h⊢
       . exact KS h hk
       . split at h
         . obtain⟨hgg,h⟩:=B9 h;simp only[hgg,cond_true];exact KS h fun st' ev=>hk st' (((C3.stillF _ _ _ _).trans (C3.settleA _ _ _)).trans ev)
         . exact h
     . exact h
   . exact h
theorem TC {ctx:Hq} {t:Tmp} {b:Bool} {d:Tmp} {f:Operand} {args:List Operand} (h:Rc cx sp st ctx t b d f args k) (hk:∀st',C3 st st'->k st'->k' st'):Rc cx sp st ctx t b d f args k':=by
 unfold Rc at h⊢;split at h
 . split at h
   . split at h
     . exact⟨h.1,h.2.1,fun hw=>hk _ (C3.setS _ _ _) (h.2.2 hw)⟩
     . exact h
   . exact h
 split at h
 . split at h
   . split at h
     . split at h
       . obtain⟨hen,h⟩:=B9 h;simp only[hen,cond_true];exact hk _ (C3.setS _ _ _) h
       . exact h
     obtain⟨hen,h⟩:=B9 h;simp only[hen,cond_true];rename_i s _ _ _ _;cases hm:O7 s.args<;>simp only[hm,cond_false,cond_true]at h⊢
     case true=>
      obtain⟨hfi,h⟩:=B9 h;simp only[hfi,cond_true];unfold XA at h⊢;split at h
      . obtain⟨hb,h⟩:=B9 h;simp only[hb,cond_true];refine X6 h fun x hx=>⟨fun hc=>⟨(hx.1 hc).1,fun r o hr ho hp hq=> ?_⟩,fun hc=> ?_⟩
        . have:=(hx.1 hc).2 r o hr ho hp hq;split at this
          . exact hk _ ((C3.dropM _ _).trans ((C3.place _ _ _).trans ((C3.addM _ _ _ _).trans (C3.setS _ _ _)))) this
          . exact this
        . have:=hx.2 hc;split at this
          . exact hk _ (C3.setS _ _ _) this
          . exact this
      . exact h
     refine X6 h fun x h=>⟨h.1,fun r hr=> ?_⟩
     have:=h.2 r hr;split at this
     . exact hk _ (C3.setS _ _ _) this
     . exact this
   . exact h
 . exact h
theorem fG {d:Tmp} {T:TypeId} {m x:Operand} {st':St} (h:PX cx st d T m x=some st'):C3 st st':=by
 simp only[PX,Option.bind_eq_bind,bind_some]at h;obtain⟨ti,_,c,_,sk,_,h⟩:=h;split at h
 . simp only[bind_some]at h;obtain⟨_,_,_,_,h⟩:=h;obtain⟨_,h⟩:=D7 h;cases h;exact((C3.newL _ _).trans (C3.setL _ _ _)).trans (C3.setS _ _ _)
 . cases h
theorem eO {m s y:Operand} {st':St} (h:OY st m s y=some st'):C3 st st':=by
 simp only[OY,Option.bind_eq_bind,bind_some]at h;obtain⟨c,_,cs,_,sy,_,h⟩:=h;split at h
 . rename_i k q _ _;split at h
   . rename_i ka kt va vt es j q' hk;cases hqq:Nat.beq q q' with
     |false=>simp[hqq]at h
     |true=>
      cases hv:Gq va vt sy with
      |none=>simp[hqq,hv]at h
      |some v=>simp[hqq,hv]at h;subst h;exact(C3.settleO _ _).trans (C3.setL _ _ _)
   . cases h
 . cases h
theorem O5 {α:Type} {c:Bool} {a:Option α} {x:α} (h:(bif c then a else none)=some x):a=some x:=by
 cases c with
 |true=>exact h
 |false=>cases h
theorem C3.giveS (st:St) (k:Nat):C3 st (giveS st k):=by
 unfold Vc.giveS;split
 . split
   . cases Nat.ble st.nm k&&Nat.ble st.nm _ && !(Nat.beq _ k)with
     |true=>exact(C3.setL _ _ _).trans (C3.setL _ _ _)
     |false=>exact C3.refl _
   . exact C3.setL _ _ _
 . exact C3.refl _
theorem lZ {φ:Option Prop} {st':St} {d:Tmp} {p i:Nat} (hs:VZ st d p i=some (φ,st')):C3 st st':=by
 unfold VZ at hs;split at hs
 . have hs:=O5 hs;cases hs;exact(((C3.setL _ _ _).trans (C3.newL _ _)).trans (C3.setL _ _ _)).trans (C3.setS _ _ _)
 . cases hs
theorem lM {φ:Option Prop} {st':St} {p r i:Nat} (hs:QR st p r i=some (φ,st')):C3 st st':=by
 unfold QR at hs;split at hs
 . split at hs
   . have hs:=O5 hs;split at hs
     . cases hs;exact((C3.setL _ _ _).trans (C3.setL _ _ _)).trans (C3.setL _ _ _)
     . cases hs;exact((C3.setL _ _ _).trans (C3.setL _ _ _)).trans (C3.setL _ _ _)
     . cases hs
   . cases hs
 . cases hs
theorem bX {φ:Option Prop} {st':St} {op:Op} {dst:Option Tmp} (hs:Ox cx st dst op=some (φ,st')):C3 st st':=by
 unfold Ox at hs;split at hs
 . simp only[Option.bind_eq_bind,bind_some]at hs;obtain⟨d,_,ti,_,hs⟩:=hs;have hs:=O5 hs;simp only[bind_some]at hs;obtain⟨t,_,t2,_,l,_,c,_,hs⟩:=hs;have hs:=O5 hs;cases hs;exact(C3.newL _ _).trans (C3.setS _ _ _)
 . simp only[Option.bind_eq_bind,bind_some]at hs;obtain⟨d,_,ti,_,c,_,hs⟩:=hs;split at hs
   . have hs:=O5 hs;exact(C3.giveS _ _).trans (lZ hs)
   . cases hs
 . split at hs
   . simp only[Option.bind_eq_bind,bind_some]at hs;obtain⟨ti,_,c,_,r,_,hs⟩:=hs;split at hs
     . have hs:=O5 hs;exact lM hs
     . cases hs
   . cases hs
 . simp only[Option.bind_eq_bind,bind_some]at hs;obtain⟨d,_,ti,_,c,_,hs⟩:=hs;split at hs
   . simp only[bind_some]at hs;obtain⟨es,_,hs⟩:=hs;have hs:=O5 hs;cases hs;exact((C3.setL _ _ _).trans (C3.newL _ _)).trans (C3.setS _ _ _)
   . cases hs
 . simp only[Option.bind_eq_bind,bind_some]at hs;obtain⟨d,_,c,_,hs⟩:=hs;split at hs
   . split at hs
     . have hs:=O5 hs;cases hs;exact C3.setS _ _ _
     . cases hs
   . cases hs
 . split at hs
   . simp only[Option.bind_eq_bind,bind_some]at hs;obtain⟨ti,_,c,_,sk,_,hs⟩:=hs;split at hs
     . simp only[bind_some]at hs;obtain⟨es,_,key,_,hs⟩:=hs;cases hs;exact C3.setL _ _ _
     . cases hs
   . cases hs
 . split at hs
   . simp only[Option.bind_eq_bind,bind_some]at hs;obtain⟨ti,_,t,_,a,_,b,_,ys,_,hs⟩:=hs;split at hs
     . simp only[bind_some]at hs;obtain⟨l,_,hs⟩:=hs;have hs:=O5 hs;cases hs;exact((C3.setL _ _ _).trans (C3.newL _ _)).trans (C3.setS _ _ _)
     . cases hs
   . cases hs
 . cases hs
theorem lF {φ:Option Prop} {st':St} {q r i:Nat} (hs:PZ st q r i=some (φ,st')):C3 st st':=by
 unfold PZ at hs;split at hs
 . split at hs
   . split at hs
     . have hs:=O5 hs;cases hs;exact((C3.setL _ _ _).trans (C3.setL _ _ _)).trans (C3.setL _ _ _)
     . cases hs
   . cases hs
 . cases hs
theorem gA {φ:Option Prop} {st':St} {op:Op} {dst:Option Tmp} (hs:Xq cx st dst op=some (φ,st')):C3 st st':=by
 unfold Xq at hs;split at hs
 . split at hs
   . simp only[Option.bind_eq_bind,bind_some]at hs;obtain⟨ti,_,hs⟩:=hs;have hs:=O5 hs;simp only[bind_some]at hs;obtain⟨t,_,t2,_,c,_,hs⟩:=hs;split at hs
     . simp only[bind_some]at hs;obtain⟨l,_,hs⟩:=hs;have hs:=O5 hs;cases hs;exact((C3.setL _ _ _).trans (C3.newL _ _)).trans (C3.setS _ _ _)
     . cases hs
   . cases hs
 . split at hs
   . simp only[Option.bind_eq_bind,bind_some]at hs;obtain⟨ti,_,c,_,r,_,hs⟩:=hs;split at hs
     . exact lF (O5 hs)
     . cases hs
   . cases hs
 . split at hs
   . simp only[Option.bind_eq_bind,bind_some]at hs;obtain⟨ti,_,hs⟩:=hs;have hs:=O5 hs;simp only[bind_some]at hs;obtain⟨t,_,t2,_,a,_,b,_,ls,_,hs⟩:=hs;split at hs
     . simp only[bind_some]at hs;obtain⟨ys,_,hs⟩:=hs;have hs:=O5 hs;cases hs;exact(((C3.dropR _ _).trans (C3.setL _ _ _)).trans (C3.newL _ _)).trans (C3.setS _ _ _)
     . cases hs
   . cases hs
 . cases hs
theorem fN {φ:Option Prop} {st':St} {op:Op} {dst:Option Tmp} (hs:Xb cx st dst op=some (φ,st')):C3 st st':=by
 unfold Xb at hs;split at hs
 . rename_i y hy;cases hs;exact bX hy
 . exact gA hs
theorem UQ {ctx:Hq} {s d:Tmp} {b:Bool} {T:TypeId} {x:Operand} {st':St} (hs:UP cx st ctx s b d T x=some st'):C3 st st':=by
 simp only[UP,Option.bind_eq_bind,bind_some]at hs;obtain⟨ti,_,c,_,hs⟩:=hs;split at hs
 . split at hs
   . have hs:=O5 hs;cases hs;exact((C3.newL _ _).trans (C3.setL _ _ _)).trans (C3.setS _ _ _)
   . cases hs
 . cases hs
theorem fO {d:Tmp} {p:Nat} (h:UW st d p k) (hk:∀st',C3 st st'->k st'->k' st'):UW st d p k':=by
 unfold UW at h⊢;split at h
 . obtain⟨hc,h⟩:=TQ h;rw[hc];exact⟨fun hl=>hk _ (((C3.setL _ _ _).trans (C3.setL _ _ _)).trans (C3.setS _ _ _)) (h.1 hl),fun l1 y l2 hl=>hk _ ((C3.setL _ _ _).trans (C3.setS _ _ _)) (h.2 l1 y l2 hl)⟩
 . exact h
theorem YH {d:Tmp} {x:Operand} (h:Zt st d x k) (hk:∀st',C3 st st'->k st'->k' st'):Zt st d x k':=by
 unfold Zt at h⊢;split at h
 . split at h
   . exact fO h hk
   . exact⟨fun hl=>hk _ (C3.setS _ _ _) (h.1 hl),fun l1 y l2 hl=>hk _ ((C3.setL _ _ _).trans (C3.setS _ _ _)) (h.2 l1 y l2 hl)⟩
   . exact h
 . exact h
theorem EG {o:Oper} (h:Uz cx sp all o k st) (hk:∀st',C3 st st'->k st'->k' st'):Uz cx sp all o k' st:=by
 obtain⟨dst,op,ty,pos,aft,gd⟩:=o;unfold Uz at h⊢;simp only at h⊢;split at h
 . split at h
   . split at h
     . exact F4.2 ⟨(F4.1 h).1,hk _ (C3.setS _ _ _) (F4.1 h).2⟩
     . exact h
   split at h
   . rename_i hst;exact F4.2 ⟨(F4.1 h).1,hk _ (fN hst) (F4.1 h).2⟩
   . rename_i hnn;clear hnn;split at h
     . split at h
       . split at h
         . rename_i hst;exact F4.2 ⟨(F4.1 h).1,hk _ (gG hst) (F4.1 h).2⟩
         . exact h
       . exact h
     . split at h
       . split at h
         . rename_i hst;exact hk _ (PY hst) h
         . exact h
       . exact h
     . split at h
       . split at h
         . rename_i hst;exact hk _ (PY hst) h
         . exact h
       . exact h
     . split at h
       . exact XB h hk
       . exact h
     . split at h
       . rename_i x str heq yy d;cases str with
         |true=>exact h
         |false=>exact YH h hk
       . exact h
     . split at h
       . split at h
         . rename_i hst;exact hk _ (fG hst) h
         . exact h
       . exact h
     . split at h
       . split at h
         . rename_i hst;exact hk _ (eO hst) h
         . exact h
       . exact h
     . split at h
       . split at h
         . rename_i hst;exact hk _ (eI hst) h
         . exact h
       . exact h
     . split at h
       . split at h
         . rename_i heff;exact F4.2 ⟨(F4.1 h).1,hk _ (nM heff) (F4.1 h).2⟩
         . exact h
       . exact h
 . split at h
   . obtain⟨hfull,h⟩:=B9 h;simp only[hfull,cond_true];split at h
     . obtain⟨htd,h⟩:=B9 h;simp only[htd,cond_true];split at h
       . obtain⟨hrb,h⟩:=B9 h;simp only[hrb,cond_true];exact F4.2 ⟨(F4.1 h).1,hk _ (C3.setS _ _ _) (F4.1 h).2⟩
       . exact h
       . split at h
         . exact TC h hk
         . split at h
           . rename_i hb1;refine hk _ ?_ h;simp only[WV,Option.bind_eq_bind,bind_some]at hb1;obtain⟨_,_,_,_,_,_,_,_,hb1⟩:=hb1;obtain⟨_,hb1⟩:=D7 hb1;cases hb1;exact C3.setS _ _ _
           . exact h
         . split at h
           . rename_i hl;exact hk _ (UQ hl) h
           . exact h
         . exact h
     . exact h
   . exact h
theorem LE:∀ {ops:List Oper} {k k':St->Prop} {st:St},QZ cx sp all ops k st->(∀st',C3 st st'->k st'->k' st')->QZ cx sp all ops k' st
 | [],_,_,st,h,hk=>hk st (C3.refl st) h
 | _:: _,_,_,_,h,hk=>EG h fun st1 e1 h1=>LE h1 fun st2 e2 h2=>hk st2 (e1.trans e2) h2
end
inductive Ux where
 |val (t:Ty)
 |own (t:Ty) (e:TypeId)
 |ownR (t:Ty) (e e':TypeId)
 |fix (k:Nat)
 |fixB (k:Nat)
def Ux.pin:Ux->Option Nat
 | .fix k=>some k
 | .fixB k=>some k
 | _=>none
@[reducible] def mO:List Ux->Type->Type
 | [],T=>T
 | .val t::r,T=>t.den×mO r T
 | .own t _::r,T=>List t.den×mO r T
 | .ownR t _ _::r,T=>List (List t.den)×mO r T
 | .fix _::r,T=>mO r T
 | .fixB _::r,T=>mO r T
inductive LT where
 |row (t:Ty) (e:TypeId)
 |map (ka:Bool) (kt:Ty) (va:Bool) (vt:Ty)
 |rows (t:Ty) (e e':TypeId)
 |iter (ka:Bool) (kt:Ty) (va:Bool) (vt:Ty)
 |nest (t:Ty) (e e':TypeId)
 |itM (ka:Bool) (kt:Ty) (va:Bool) (vt:Ty) (q:Nat)
@[reducible] def LT.den:LT->Type
 | .row t _=>List t.den
 | .map _ kt _ vt=>List (kt.den×vt.den)
 | .rows t _ _=>List (List t.den)
 | .iter _ kt _ vt=>List (kt.den×vt.den)
 | .nest t _ _=>List t.den×List Nat
 | .itM _ kt _ vt _=>List (kt.den×vt.den)×List (kt.den×vt.den)
def LT.wf:(l:LT)->l.den->Prop
 | .row t _,x=>(Ty.sl t).wf x
 | .map ka kt va vt,x=>(Ty.mp ka kt va vt).wf x
 | .rows t _ _,x=>(Ty.sl (Ty.sl t)).wf x
 | .iter ka kt va vt,x=>(Ty.mp ka kt va vt).wf x
 | .nest _ _ _,x=>x.1.length<=9223372036854775807
 | .itM ka kt va vt _,x=>(Ty.mp ka kt va vt).wf x.2
def LT.lc:(l:LT)->l.den->LC
 | .row t e,x=> .row t e x
 | .map ka kt va vt,x=> .map ka kt va vt x
 | .rows t e e',x=> .rows t e e' x [] none
 | .iter ka kt va vt,x=> .iter ka kt va vt x none
 | .nest t e e',x=> .nest t e e' x.1 [] x.2
 | .itM ka kt va vt q,x=> .itM ka kt va vt x.1 x.2 none q
def plugL:List (Nat×LT)->St->St
 | [],st=>st
 | (k, .nest _ _ _)::r,st=>plugL r (giveS st k)
 | (k, .row _ _)::r,st=>plugL r (thaw st k)
 | _::r,st=>plugL r st
def LT.need:LT->Option Nat
 | .itM _ _ _ _ q=>some q
 | _=>none
def fK (st:St) (t:Ty) (e e':TypeId) (k:Nat):Option (List t.den×List Nat):=match st.L k with
 | .nest t' d d' ls [] dd=>if h:t'=t then(bif Nat.beq d e&&Nat.beq d' e' then some (h▸ls,dd)else none)else none
 | _=>none
def fD (st:St) (k:Nat):(l:LT)->Option l.den
 | .row t e=>GX st t e k
 | .map ka kt va vt=>mapM st ka kt va vt k
 | .rows t e e'=>rowsAt st t e e' k
 | .iter ka kt va vt=>match st.L k with
  | .iter ka' kt' va' vt' es _=>if h:Ty.mp ka' kt' va' vt'=Ty.mp ka kt va vt then some (h▸(show(Ty.mp ka' kt' va' vt').den from es):(Ty.mp ka kt va vt).den)else none
  | _=>none
 | .nest t e e'=>fK st t e e' k
 | .itM ka kt va vt q=>match st.L k with
  | .itM ka' kt' va' vt' es left _ q'=>bif Nat.beq q q'&&Nat.blt q k then(if h:Ty.mp ka' kt' va' vt'=Ty.mp ka kt va vt then some (h▸(show(Ty.mp ka' kt' va' vt').den×(Ty.mp ka' kt' va' vt').den from(es,left)):(Ty.mp ka kt va vt).den×(Ty.mp ka kt va vt).den)else none)else none
  | _=>none
@[reducible] def cS:List (Nat×LT)->Type
 | []=>Unit
 | (_,t)::r=>t.den×cS r
structure CL where
 keepS:List Nat
 keepL:List Nat
 modS:List (Nat×Bool×List Ux)
 boxL:List (Nat×TypeId×List Ux)
 rowL:List (Nat×LT)
def A7y:List (Nat×Bool×List Ux)->List Ux->List Ux
 | [],r=>r
 | (_,_,cs)::l,r=>cs++A7y l r
def A7x:List (Nat×TypeId×List Ux)->List Ux
 | []=> []
 | (_,_,cs)::l=>cs++A7x l
def CL.shs (A:CL):List Ux:=A7y A.modS (A7x A.boxL)
@[reducible] def CL.den (A:CL):Type:=mO A.shs (cS A.rowL)
def shW:(shs:List Ux)-> {T:Type} ->(T->Prop)->mO shs T->Prop
 | [],_,q,x=>q x
 | .val t::r,_,q,x=>t.wf x.1/\shW r q x.2
 | .own t _::r,_,q,x=>(Ty.sl t).wf x.1/\shW r q x.2
 | .ownR t _ _::r,_,q,x=>(Ty.sl (Ty.sl t)).wf x.1/\shW r q x.2
 | .fix _::r,_,q,x=>shW r q x
 | .fixB _::r,_,q,x=>shW r q x
def A5x:(l:List (Nat×LT))->cS l->Prop
 | [],_=>True
 | (_,t)::r,x=>t.wf x.1/\A5x r x.2
def CL.wf (A:CL) (p:A.den):Prop:=shW A.shs (A5x A.rowL) p
def XE (st:St):List (Nat×Bool×List Ux)->List C->Option (List C)
 | [],r=>some r
 | (s,agg,shs)::l,r=>match st.S s with
  | .one ⟨a,cs⟩=>bif(a==agg)&&Nat.beq cs.length shs.length then(XE st l r).map (cs++ ·)else none
  | _=>none
def XD (st:St):List (Nat×TypeId×List Ux)->Option (List C)
 | []=>some []
 | (k,T,shs)::l=>match st.L k with
  | .box T' cs=>bif Nat.beq T' T&&Nat.beq cs.length shs.length then(XD st l).map (cs++ ·)else none
  | _=>none
def CL.cells (A:CL) (st:St):Option (List C):=(XD st A.boxL).bind (XE st A.modS)
def settleSh:St->List Ux->List C->St
 |st, .val _::r,c::cs=>settleSh (settle st [c]) r cs
 |st, .own _ _::r,c::cs=>settleSh (thawS st ⟨false,[c]⟩) r cs
 |st, .ownR _ _ _::r,_::cs=>settleSh st r cs
 |st, .fix _::r,_::cs=>settleSh st r cs
 |st, .fixB _::r,_::cs=>settleSh st r cs
 |st,_,_=>st
def A7m (k:Nat):C->Bool
 | .row j=>Nat.beq j k
 | _=>false
def A7k (k:Nat):C->Bool
 | .box j 0=>Nat.beq j k
 | _=>false
def Y2 (st:St):(shs:List Ux)-> {T:Type} ->T->List C->Option (mO shs T)
 | [],_,x,[]=>some x
 | .val t::r,_,x,c::cs=>(MD t c).bind fun y=>(Y2 st r x cs).map fun z=>(y,z)
 | .own t e::r,_,x,c::cs=>(KD st t e c).bind fun y=>(Y2 st r x cs).map fun z=>(y,z)
 | .ownR t e e'::r,_,x,c::cs=>(VN st t e e' c).bind fun y=>(Y2 st r x cs).map fun z=>(y,z)
 | .fix k::r,_,x,c::cs=>bif A7m k c then Y2 st r x cs else none
 | .fixB k::r,_,x,c::cs=>bif A7k k c then Y2 st r x cs else none
 | _,_,_,_=>none
def nR (l:List (Nat×LT)) (bl:List (Nat×TypeId×List Ux)):Ux->Bool
 | .fixB k=>bl.any fun x=>Nat.beq x.1 k
 | .fix k=>l.any fun x=>Nat.beq x.1 k
 | _=>true
def lP (st:St):(l:List (Nat×LT))->Option (cS l)
 | []=>some ()
 | (k,t)::r=>(fD st k t).bind fun y=>(lP st r).map fun z=>(y,z)
def O3:List Ux->List C->List Nat
 | .own _ _::r, .row k::cs=>k::O3 r cs
 | .ownR _ _ _::r, .row k::cs=>k::O3 r cs
 | _::r,_::cs=>O3 r cs
 | _,_=> []
def bN {α:Type} (d:α) (l:List (Nat×α)):List Nat->List (Nat×α)
 | []=> []
 |s::r=>(s,find d s l)::bN d l r
def gath (A:CL) (st:St):Option (St×A.den):=do
 let cs<-A.cells (plugL A.rowL st)
 let st1:=settleSh (plugL A.rowL st) A.shs cs
 let cs1<-A.cells st1
 let tl<-lP st1 A.rowL
 let p<-Y2 st1 A.shs tl cs1
 bif Xe (A.keepL++(O3 A.shs cs1++((A.rowL.map fun x=>x.1)++(A.boxL.map fun x=>x.1))))&&A.shs.all (nR A.rowL A.boxL)then some (st1,p)else none
def A5s:(t:Ty)->t.den->C
 | .ptr t,x=> .pf t x 0
 |t,x=> .val t x
def placeSh:(shs:List Ux)-> {T:Type} ->mO shs T->St->List C×St×T
 | [],_,x,st=>([],st,x)
 | .val t::r,_,x,st=>(fun p=>(A5s t x.1::p.1,p.2)) (placeSh r x.2 st)
 | .own t e::r,_,x,st=>(fun p=>(C.row st.nx::p.1,p.2)) (placeSh r x.2 (st.newL (.row t e x.1)))
 | .ownR t e e'::r,_,x,st=>(fun p=>(C.row st.nx::p.1,p.2)) (placeSh r x.2 (st.newL (.rows t e e' x.1 [] none)))
 | .fix k::r,_,x,st=>(fun p=>(C.row k::p.1,p.2)) (placeSh r x st)
 | .fixB k::r,_,x,st=>(fun p=>(C.box k 0::p.1,p.2)) (placeSh r x st)
def putRows:(l:List (Nat×LT))->cS l->St->St
 | [],_,st=>st
 | (k,t)::r,x,st=>putRows r x.2 (st.setL k (t.lc x.1))
def putS:List (Nat×Bool×List Ux)->List C->St->List C×St
 | [],cs,st=>(cs,st)
 | (s,agg,shs)::r,cs,st=>putS r (cs.drop shs.length) (st.setS s (.one ⟨agg,cs.take shs.length⟩))
def putB:List (Nat×TypeId×List Ux)->List C->St->St
 | [],_,st=>st
 | (k,T,shs)::r,cs,st=>putB r (cs.drop shs.length) (st.setL k (.box T (cs.take shs.length)))
def mC:List (Nat×TypeId×List Ux)->Nat->Nat
 | [],n=>n
 |y::r,n=>mC r (bif Nat.blt y.1 n then n else y.1+1)
theorem Pj:∀(l:List (Nat×TypeId×List Ux)) (n:Nat),n<=mC l n
 | [],n=>Nat.le_refl n
 |y::r,n=>by
  refine Nat.le_trans ?_ (Pj r _);cases hb:Nat.blt y.1 n with
  |true=>exact Nat.le_refl n
  |false=>
   have:¬y.1<n:=fun h=>by rw[show Nat.blt y.1 n=true from by rw[Nat.blt_eq];exact h]at hb;cases hb
   show n<=y.1+1;omega
theorem RO:∀ {l:List (Nat×TypeId×List Ux)} {n:Nat},∀y∈l,y.1<mC l n
 |y::r,n,z,hz=>by
  rcases List.mem_cons.1 hz with rfl|hz
  . refine Nat.lt_of_lt_of_le ?_ (Pj r _);cases hb:Nat.blt z.1 n with
    |true=>rw[Nat.blt_eq]at hb;exact hb
    |false=>exact Nat.lt_succ_self _
  . exact RO (l:=r) z hz
def kept (A:CL) (st:St):St:=⟨bN (0, .dead) st.sl A.keepS,bN (0, .none) st.lc A.keepL,mC A.boxL st.nx,st.ct+1,st.nm,st.fr⟩
def reflect (A:CL) (st0:St) (p:A.den):St:=
 (fun q=>(fun r=>putB A.boxL r.1 r.2) (putS A.modS q.1 (putRows A.rowL q.2.2 q.2.1))) (placeSh A.shs p (kept A st0))
def XQ (n:Nat) (g:Nat):Bool:=Nat.ble 1 g&&Nat.ble g n
def oO (A:CL) (st0 st:St):Bool:=(A.keepS.all fun s=>XQ st0.ct (st.eS s).1)&&(A.keepL.all fun k=>XQ st0.ct (st.eL k).1)&&(A.rowL.all fun x=>Nat.blt x.1 st0.nx)&&A5r st0.ct st.fr
def IW (A:CL) (st0:St) (J:A.den->Prop) (st:St):Prop:=
 match gath A st with
 |some (st1,p)=>bif oO A st0 st1 then J p else False
 |none=>False
section
variable {za:Zn} {w0 w:World} {Z:Nat->Prop} {B:Nat->Value} {st st0:St} {E:G3}
theorem C3.plugL:∀(l:List (Nat×LT)) (st:St),C3 st (plugL l st)
 | [],st=>C3.refl st
 | (k, .nest _ _ _)::r,st=>(C3.giveS st k).trans (C3.plugL r _)
 | (k, .row _ _)::r,st=>(C3.thawS st ⟨false,[.row k]⟩).trans (C3.plugL r _)
 | (_, .map _ _ _ _)::r,st=>C3.plugL r st
 | (_, .rows _ _ _)::r,st=>C3.plugL r st
 | (_, .iter _ _ _ _)::r,st=>C3.plugL r st
 | (_, .itM _ _ _ _ _)::r,st=>C3.plugL r st
theorem C0.plugL (hb0:za.b0=0):∀ {l:List (Nat×LT)} {st:St} {Z:Nat->Prop},C0 za w0 st E w Z B->∃Z',C0 za w0 (plugL l st) E w Z' B
 | [],_,Z,h=>⟨Z,h⟩
 | (k, .nest _ _ _)::r,_,_,h=>C0.plugL hb0 (l:=r) (h.giveS hb0 k)
 | (k, .row _ _)::r,_,_,h=>by
  obtain⟨Z1,h1⟩:=h.thaw k;exact C0.plugL hb0 (l:=r) h1
 | (_, .map _ _ _ _)::r,_,_,h=>C0.plugL hb0 (l:=r) h
 | (_, .rows _ _ _)::r,_,_,h=>C0.plugL hb0 (l:=r) h
 | (_, .iter _ _ _ _)::r,_,_,h=>C0.plugL hb0 (l:=r) h
 | (_, .itM _ _ _ _ _)::r,_,_,h=>C0.plugL hb0 (l:=r) h
theorem C3.settleSh:∀(shs:List Ux) (cs:List C) (st:St),C3 st (settleSh st shs cs)
 | .val _::r,c::cs,st=>(C3.settle st [c]).trans (C3.settleSh r cs _)
 | .own _ _::r,c::cs,st=>(C3.thawS st ⟨false,[c]⟩).trans (C3.settleSh r cs _)
 | .ownR _ _ _::r,_::cs,st=>C3.settleSh r cs st
 | .ownR _ _ _:: _,[],st=>C3.refl st
 | .fix _::r,_::cs,st=>C3.settleSh r cs st
 | .fixB _::r,_::cs,st=>C3.settleSh r cs st
 | .fixB _:: _,[],st=>C3.refl st
 | [],_,st=>C3.refl st
 | .val _:: _,[],st=>C3.refl st
 | .own _ _:: _,[],st=>C3.refl st
 | .fix _:: _,[],st=>C3.refl st
theorem C0.settleSh:∀ {shs:List Ux} {cs:List C} {st:St} {Z:Nat->Prop},C0 za w0 st E w Z B->∃Z',C0 za w0 (settleSh st shs cs) E w Z' B
 | .val _::r,c::cs,st,Z,h=>by
  obtain⟨Z1,h1⟩:=h.settle [c];exact C0.settleSh (shs:=r) (cs:=cs) h1
 | .own _ _::r,c::cs,st,Z,h=>by
  obtain⟨Z1,h1⟩:=h.thawS ⟨false,[c]⟩;exact C0.settleSh (shs:=r) (cs:=cs) h1
 | .ownR _ _ _::r,_::cs,st,Z,h=>C0.settleSh (shs:=r) (cs:=cs) h
 | .ownR _ _ _:: _,[],st,Z,h=>⟨Z,h⟩
 | .fix _::r,_::cs,st,Z,h=>C0.settleSh (shs:=r) (cs:=cs) h
 | .fixB _::r,_::cs,st,Z,h=>C0.settleSh (shs:=r) (cs:=cs) h
 | .fixB _:: _,[],st,Z,h=>⟨Z,h⟩
 | [],_,st,Z,h=>⟨Z,h⟩
 | .val _:: _,[],st,Z,h=>⟨Z,h⟩
 | .own _ _:: _,[],st,Z,h=>⟨Z,h⟩
 | .fix _:: _,[],st,Z,h=>⟨Z,h⟩
theorem C3.putRows:∀(l:List (Nat×LT)) (x:cS l) (st:St),C3 st (putRows l x st)
 | [],_,st=>C3.refl st
 | (k,t)::r,x,st=>(C3.setL st k _).trans (C3.putRows r x.2 _)
theorem C3.placeSh:∀(shs:List Ux) {T:Type} (x:mO shs T) (st:St),C3 st (placeSh shs x st).2.1
 | [],_,_,st=>C3.refl st
 | .val t::r,_,x,st=>C3.placeSh r x.2 st
 | .own t e::r,_,x,st=>(C3.newL st (.row t e x.1)).trans (C3.placeSh r x.2 _)
 | .ownR t e e'::r,_,x,st=>(C3.newL st (.rows t e e' x.1 [] none)).trans (C3.placeSh r x.2 _)
 | .fix _::r,_,x,st=>C3.placeSh r x st
 | .fixB _::r,_,x,st=>C3.placeSh r x st
theorem C3.putS:∀(l:List (Nat×Bool×List Ux)) (cs:List C) (st:St),C3 st (putS l cs st).2
 | [],_,st=>C3.refl st
 | (s,agg,shs)::r,cs,st=>(C3.setS st s _).trans (C3.putS r _ _)
theorem C3.putB:∀(l:List (Nat×TypeId×List Ux)) (cs:List C) (st:St),C3 st (putB l cs st)
 | [],_,st=>C3.refl st
 | (k,T,shs)::r,cs,st=>(C3.setL st k _).trans (C3.putB r _ _)
theorem C3.reflect (A:CL) (st0:St) (p:A.den):C3 (kept A st0) (reflect A st0 p):=
 (C3.placeSh A.shs p _).trans ((C3.putRows _ _ _).trans ((C3.putS _ _ _).trans (C3.putB _ _ _)))
theorem DF {α:Type} (d:α) (l:List (Nat×α)) (q:Nat):∀ks:List Nat,find d q (bN d l ks)=if q∈ks then find d q l else d
 | []=>rfl
 |s::r=>by
  simp only[bN,find,DF d l q r];cases hb:Nat.beq s q with
  |true=>have:=Nat.eq_of_beq_eq_true hb;subst this;simp
  |false=>
   have:q≠s:=fun h=>by subst h;simp at hb
   simp[this]
theorem XY (A:CL) (st:St) (s:Nat):(kept A st).eS s=if s∈A.keepS then st.eS s else(0, .dead):=DF ..
theorem XX (A:CL) (st:St) (k:Nat):(kept A st).eL k=if k∈A.keepL then st.eL k else(0, .none):=DF ..
theorem cP {A:CL} {p:A.den} {s:Nat} (h0:((reflect A st0 p).eS s).1≠0) (h1:((reflect A st0 p).eS s).1<=st0.ct):(reflect A st0 p).eS s=st0.eS s:=by
 have e:=(C3.reflect A st0 p).s s h0 (Nat.le_succ_of_le h1);rw[e]at h0⊢;rw[XY]at h0⊢;split
 . rfl
 . rename_i hn;rw[if_neg hn]at h0;exact absurd rfl h0
theorem YU {A:CL} {p:A.den} {k:Nat} (h0:((reflect A st0 p).eL k).1≠0) (h1:((reflect A st0 p).eL k).1<=st0.ct):(reflect A st0 p).eL k=st0.eL k:=by
 have e:=(C3.reflect A st0 p).l k h0 (Nat.le_succ_of_le h1);rw[e]at h0⊢;rw[XX]at h0⊢;split
 . rfl
 . rename_i hn;rw[if_neg hn]at h0;exact absurd rfl h0
structure A1e (n:Nat) (st:St):Prop where
 nms:st.nm=n/\n<=st.nx
 refs:∀s,GV st.nx (st.S s)
 refl:∀k,Xn st.nx (st.L k)
 fresh:∀k,st.nx<=k->st.L k= .none
 frf:ZM st.nx st.fr
theorem C0.pure (h:C0 za w0 st E w Z B):A1e za.n st:=⟨h.nms,h.refs,h.refl,h.fresh,h.frf⟩
structure Hv (za:Zn) (w0:World) (st2:St) (E:G3) (w:World) (Z:Nat->Prop) (B:Nat->Value) (used:List Nat) (st:St) (BX:Nat->Value):Prop where
 rel:C0 za w0 st E w Z BX
 own:∀j b,A4 w (BX j) (st.L j) b->∃q,q∈used/\A4 w (B q) (st2.L q) b
theorem Hv.disj {st2:St} {used:List Nat} {BX:Nat->Value} (h2:C0 za w0 st2 E w Z B) (c:Hv za w0 st2 E w Z B used st BX) {q:Nat} (hq:q∉used):∀k b,A4 w (B q) (st2.L q) b->¬A4 w (BX k) (st.L k) b:=fun k b hb hb'=>by
 obtain⟨q',hu,hl'⟩:=c.own k b hb';exact h2.disj q q' b (fun hh=>hq (hh▸hu)) hb hl'
end
section
variable {za:Zn} {w0 w:World} {Z:Nat->Prop} {B:Nat->Value} {st st0 st2:St} {E:G3}
theorem C0.setSame (h:C0 za w0 st E w Z B) (s:Nat) {x:DV} (hx:RD w Z B E x (E s)) (hr:GV st.nx x):C0 za w0 (st.setS s x) E w Z B:=by
 have e:upd E s (E s)=E:=by
  funext t;by_cases ht:t=s
  . subst ht;exact A9 _ _ _
  . exact C1 _ _ _ _ ht
 have:=h.setS s (x:=x) (v:=E s) (by rw[e];exact hx) hr;rwa[e]at this
theorem A4i {A:CL} (h2:C0 za w0 st2 E w Z B) (pk:A1e za.n st0) (hS:∀s∈A.keepS,st2.eS s=st0.eS s) (hL:∀k∈A.keepL,st2.eL k=st0.eL k) (hF:st2.fr=st0.fr):Hv za w0 st2 E w Z B A.keepL (kept A st0) B:=by
 have eS:∀s,(kept A st0).S s=if s∈A.keepS then st2.S s else .dead:=fun s=>by
  show((kept A st0).eS s).2= _;rw[XY];split
  . rename_i hs;rw[<-hS s hs];rfl
  . rfl
 have eL:∀k,(kept A st0).L k=if k∈A.keepL then st2.L k else .none:=fun k=>by
  show((kept A st0).eL k).2= _;rw[XX];split
  . rename_i hs;rw[<-hL k hs];rfl
  . rfl
 have e0S:∀s,(kept A st0).S s=if s∈A.keepS then st0.S s else .dead:=fun s=>by
  show((kept A st0).eS s).2= _;rw[XY];split<;>rfl
 have e0L:∀k,(kept A st0).L k=if k∈A.keepL then st0.L k else .none:=fun s=>by
  show((kept A st0).eL s).2= _;rw[XX];split<;>rfl
 have lv:∀k b,A4 w (B k) ((kept A st0).L k) b->k∈A.keepL/\A4 w (B k) (st2.L k) b:=fun k b hk=>by
  rw[eL]at hk;split at hk
  . rename_i hm;exact⟨hm,hk⟩
  . exact hk.elim
 refine⟨⟨h2.ext,h2.zlt,fun s=> ?_,fun k=> ?_,fun k k' b hne l1 l2=>h2.disj k k' b hne (lv k b l1).2 (lv k' b l2).2,fun s=> ?_,fun k=> ?_,fun k hk=> ?_,h2.bone,h2.zin,⟨pk.nms.1,Nat.le_trans pk.nms.2 (Pj _ _)⟩,h2.bfix,⟨h2.mrk.1,fun k b hk hl=>h2.mrk.2 k b hk (lv k b hl).2⟩,(by have:=h2.frs;rw[hF]at this;exact this),pk.frf.le (Pj _ _)⟩,fun j b hj=>⟨j,(lv j b hj).1,(lv j b hj).2⟩⟩
 . rw[eS];split
   . exact h2.slots s
   . trivial
 . rw[eL];split
   . exact h2.locs k
   . trivial
 . rw[e0S];split
   . exact(pk.refs s).le (Pj _ _)
   . trivial
 . rw[e0L];split
   . exact(pk.refl k).le (Pj _ _)
   . trivial
 . rw[e0L];split
   . exact pk.fresh k (Nat.le_trans (Pj _ _) hk)
   . rfl
theorem KE (h2:C0 za w0 st2 E w Z B) {t:Ty} {e:TypeId} {c:C} {l:List t.den} {v:Value} (hc:RC w Z B c v) (hr:KD st2 t e c=some l):
 ∃xs,w.ownsRow w0.heap.size e t.size v l.length xs/\G4 (C6 t w Z) xs l/\(∀b,v.ownBlock=some b->¬Z b)/\((∃q,c= .row q/\live (st2.L q)/\v=B q)\/(root v=none/\∀q,c≠ .row q)):=by
 unfold KD at hr;split at hr
 . rename_i q;split at hr
   . rename_i t' e' l' hq;split at hr
     . rename_i heq;subst heq;obtain⟨he,hr⟩:=D7 hr;cases hr;simp only[Bool.and_eq_true]at he;have hqn:=Nat.le_of_ble_eq_true he.2;have hee:=Nat.eq_of_beq_eq_true he.1;subst hee;have hL:=h2.locs q;rw[hq]at hL;obtain⟨xs,h1,h3,h4⟩:=hL;have hv:v=B q:=hc;subst hv;have hup:∀b,(B q).ownBlock=some b->w0.heap.size<=b:=fun b hb=>by
        rcases(h4 b hb).1 with g|g
        . exact g.2
        . have:=h2.nms.1;omega
       exact⟨xs,YP h1 hup,h3,fun b hb=>(h4 b hb).2, .inl ⟨q,rfl,by rw[hq];trivial,rfl⟩⟩
     . cases hr
   . cases hr
 . obtain⟨hn,hr⟩:=D7 hr;cases hr;have hv:v= .slice none 0 0:=by rw[hc.1];exact Fl hn
   subst hv;exact⟨[],World.ownsRow_nil _ _ _ _,rfl,fun b hb=>(by cases hb), .inr ⟨rfl,fun q hq=>(by cases hq)⟩⟩
 . cases hr
theorem cU (h2:C0 za w0 st2 E w Z B) {t:Ty} {e e':TypeId} {c:C} {ls:List (List t.den)} {v:Value} (hc:RC w Z B c v) (hr:VN st2 t e e' c=some ls):
 Bt w Z t e e' v ls/\v.oneCell'=true/\(∀b,A4 w v (.rows t e e' ls [] none) b->¬Z b/\w0.heap.size<=b/\b<w.heap.size)/\((∃q,c= .row q/\v=B q/\∀b,A4 w v (.rows t e e' ls [] none) b->A4 w (B q) (st2.L q) b)\/((∀b,¬A4 w v (.rows t e e' ls [] none) b)/\∀q,c≠ .row q)):=by
 unfold VN at hr;split at hr
 . rename_i q;obtain⟨hq,hr⟩:=D7 hr;obtain⟨al,hk⟩:=Y3 hr;obtain⟨g1,g2⟩:=h2.rowsAt hk (Nat.le_of_ble_eq_true hq);have hv:v=B q:=hc;subst hv;exact⟨g1,h2.bone q,fun b hb=>⟨(g2 b hb).1,(g2 b hb).2.1,(g2 b hb).2.2.1⟩, .inl ⟨q,rfl,rfl,fun b hb=>(g2 b hb).2.2.2⟩⟩
 . obtain⟨hn,hr⟩:=D7 hr;cases hr;have hv:v= .slice none 0 0:=by rw[hc.1];exact Fl hn
   exact⟨⟨[],by rw[hv];exact World.ownsRow_nil _ _ _ _,fun i l u hl=>(by simp at hl),fun i j u v b _ hu=>(by simp at hu),fun i u b hu=>(by simp at hu)⟩,by rw[hv];rfl,fun b hb=>absurd hb (QE hv), .inr ⟨fun b=>QE hv,fun q hq=>(by cases hq)⟩⟩
 . cases hr
theorem A2i {t:Ty} {v:Value} {x:t.den} (h:C6 t w Z [v] x):RC w Z B (A5s t x) v:=by
 cases t with
 |ptr t=>
  obtain⟨b,o,ec,e,r⟩:=h;simp only[List.cons.injEq,and_true]at e;exact⟨b,o,ec,by rw[e];rfl,r⟩
 | _=>exact h
theorem pL {n:Nat} {t:Ty} {x:t.den} :Cd n (A5s t x):=by cases t<;>trivial
theorem Rw (hb0:za.b0=0) (h2:C0 za w0 st2 E w Z B):∀ {shs:List Ux} {T:Type} {tl:T} {cs:List C} {vs:List Value} {p:mO shs T} {st:St} {BX:Nat->Value} {used:List Nat},Hv za w0 st2 E w Z B used st BX->Cf w Z B cs vs->Y2 st2 shs tl cs=some p->(∀q∈O3 shs cs,q∉used)->(O3 shs cs).Nodup->(∀c∈shs,∀k,c.pin=some k->k<st.nx/\BX k=B k)->
 ∃BX',Hv za w0 st2 E w Z B (O3 shs cs++used) (placeSh shs p st).2.1 BX'/\Cf w Z BX' (placeSh shs p st).1 vs/\(∀c∈(placeSh shs p st).1,Cd (placeSh shs p st).2.1.nx c)/\(∀k,k<st.nx->BX' k=BX k)/\st.nx<=(placeSh shs p st).2.1.nx/\(placeSh shs p st).2.2=tl
 | [],_,tl,[],vs,p,st,BX,used,c,hv,hp,_,_,_=>by
  simp only[Y2,Option.some.injEq]at hp;exact⟨BX,c,hv,by simp[placeSh],fun _ _=>rfl,Nat.le_refl _,hp.symm⟩
 | [],_,_,_:: _,_,_,_,_,_,_,_,hp,_,_,_=>by cases hp
 | .val t::r,_,_,[],_,_,_,_,_,_,_,hp,_,_,_=>by cases hp
 | .own t e::r,_,_,[],_,_,_,_,_,_,_,hp,_,_,_=>by cases hp
 | .ownR t e e'::r,_,_,[],_,_,_,_,_,_,_,hp,_,_,_=>by cases hp
 | .fix k::r,_,_,[],_,_,_,_,_,_,_,hp,_,_,_=>by cases hp
 | .fixB k::r,_,_,[],_,_,_,_,_,_,_,hp,_,_,_=>by cases hp
 | .fix k::r,T,tl,c0::cs,vs,p,st,BX,used,c,⟨v,vs',e,hv1,hv2⟩,hp,hu,hn,hf=>by
  simp only[Y2]at hp;obtain⟨hk,hp⟩:=D7 hp;have hid:O3 (.fix k::r) (c0::cs)=O3 r cs:=by cases c0<;>rfl
  rw[hid]at hu hn⊢;obtain⟨BX',g1,g2,g3,g4,g5,g6⟩:=Rw hb0 h2 c hv2 hp hu hn (fun j hj=>hf j (List.mem_cons_of_mem _ hj));subst e;have hkk:=hf _ List.mem_cons_self k rfl;cases c0 with
  |row j=>
   have:=Nat.eq_of_beq_eq_true hk;subst this;refine⟨BX',g1,⟨v,vs',rfl, ?_,g2⟩,fun q hq=> ?_,g4,g5,g6⟩
   . show v=BX' j;rw[g4 j hkk.1,hkk.2];exact hv1
   . rcases List.mem_cons.1 hq with rfl|hq
     . exact Nat.lt_of_lt_of_le hkk.1 g5
     . exact g3 q hq
  | _=>cases hk
 | .fixB k::r,T,tl,c0::cs,vs,p,st,BX,used,c,⟨v,vs',e,hv1,hv2⟩,hp,hu,hn,hf=>by
  simp only[Y2]at hp;obtain⟨hk,hp⟩:=D7 hp;have hid:O3 (.fixB k::r) (c0::cs)=O3 r cs:=by cases c0<;>rfl
  rw[hid]at hu hn⊢;obtain⟨BX',g1,g2,g3,g4,g5,g6⟩:=Rw hb0 h2 c hv2 hp hu hn (fun j hj=>hf j (List.mem_cons_of_mem _ hj));subst e;have hkk:=hf _ List.mem_cons_self k rfl;cases c0 with
  |box j o=>
   cases o with
   |succ o=>cases hk
   |zero=>
   have:=Nat.eq_of_beq_eq_true hk;subst this;refine⟨BX',g1,⟨v,vs',rfl, ?_,g2⟩,fun q hq=> ?_,g4,g5,g6⟩
   . obtain⟨b,hb,hv⟩:=hv1;exact⟨b,by rw[g4 j hkk.1,hkk.2];exact hb,hv⟩
   . rcases List.mem_cons.1 hq with rfl|hq
     . exact Nat.lt_of_lt_of_le hkk.1 g5
     . exact g3 q hq
  | _=>cases hk
 | .val t::r,T,tl,c0::cs,vs,p,st,BX,used,c,⟨v,vs',e,hv1,hv2⟩,hp,hu,hn,hf=>by
  simp only[Y2,bind_some,Option.map_eq_some_iff]at hp;obtain⟨y,hy,z,hz,rfl⟩:=hp;have hid:O3 (.val t::r) (c0::cs)=O3 r cs:=by cases c0<;>rfl
  rw[hid]at hu hn⊢;obtain⟨BX',g1,g2,g3,g4,g5,g6⟩:=Rw hb0 h2 c hv2 hz hu hn (fun j hj=>hf j (List.mem_cons_of_mem _ hj));subst e;refine⟨BX',g1,⟨v,vs',rfl,A2i (NJ hv1 hy),g2⟩,fun q hq=> ?_,g4,g5,g6⟩;rcases List.mem_cons.1 hq with rfl|hq
  . exact pL
  . exact g3 q hq
 | .ownR t e0 e1::r,T,tl,c0::cs,vs,p,st,BX,used,c,⟨v,vs',e,hv1,hv2⟩,hp,hu,hn,hf=>by
  simp only[Y2,bind_some,Option.map_eq_some_iff]at hp;obtain⟨l,hl,z,hz,rfl⟩:=hp;subst e;obtain⟨o1,hv1',o3,o4⟩:=cU h2 hv1 hl;have key:∃used',Hv za w0 st2 E w Z B used' (st.newL (.rows t e0 e1 l [] none)) (upd BX st.nx v)/\(∀q∈O3 r cs,q∉used')/\(O3 r cs).Nodup/\(∀q,q∈O3 (.ownR t e0 e1::r) (c0::cs)++used↔q∈O3 r cs++used'):=by
   have mk:∀used',(∀q∈used,q∈used')->(∀b,A4 w v (.rows t e0 e1 l [] none) b->∃q,q∈used'/\A4 w (B q) (st2.L q) b)->(∀k b,A4 w v (.rows t e0 e1 l [] none) b->¬A4 w (BX k) (st.L k) b)->Hv za w0 st2 E w Z B used' (st.newL (.rows t e0 e1 l [] none)) (upd BX st.nx v):=by
    intro used' hsub hq hd;refine⟨c.rel.new (v:=v) (lc:= .rows t e0 e1 l [] none) (Bt.rl (by rw[A9];exact o1) fun b hb=>by rw[A9]at hb;exact⟨.inl ⟨c.rel.nms.2,(o3 b hb).2.1⟩,(o3 b hb).1,(o3 b hb).2.2⟩) hd (fun p hp=>by cases hp) hv1' (fun b _ _=>by rw[hb0];exact Nat.zero_le _),fun j b hj=> ?_⟩;rw[St.L_newL]at hj;by_cases hjn:j=st.nx
    . subst hjn;rw[A9,if_pos rfl]at hj;exact hq b hj
    . rw[if_neg hjn,C1 _ _ _ _ hjn]at hj;obtain⟨q,h1,h3⟩:=c.own j b hj;exact⟨q,hsub q h1,h3⟩
   rcases o4 with⟨q,rfl,hvq,hfq⟩ | ⟨hnr,hnq⟩
   . have hid:O3 (.ownR t e0 e1::r) (.row q::cs)=q::O3 r cs:=rfl;rw[hid]at hu hn⊢;have hn':=List.nodup_cons.1 hn;refine⟨q::used,mk _ (fun x hx=>List.mem_cons_of_mem _ hx) (fun b hb=>⟨q,by simp,hfq b hb⟩) (fun k b hb=> ?_),fun x hx=> ?_,hn'.2,fun x=>by grind⟩
     . exact c.disj h2 (hu q (by simp)) k b (hfq b hb)
     . intro hxu;rcases List.mem_cons.1 hxu with rfl|hxu
       . exact hn'.1 hx
       . exact hu x (List.mem_cons_of_mem _ hx) hxu
   . have hid:O3 (.ownR t e0 e1::r) (c0::cs)=O3 r cs:=by cases c0<;>first|rfl|exact absurd rfl (hnq _)
     rw[hid]at hu hn⊢;exact⟨used,mk _ (fun x hx=>hx) (fun b hb=>absurd hb (hnr b)) (fun k b hb=>absurd hb (hnr b)),hu,hn,fun x=>Iff.rfl⟩
  obtain⟨used',c',hu',hn',hiff⟩:=key;obtain⟨BX',g1,g2,g3,g4,g5,g6⟩:=Rw hb0 h2 c' hv2 hz hu' hn' (fun j hj k hk=>by
   obtain⟨a,b⟩:=hf j (List.mem_cons_of_mem _ hj) k hk;exact⟨Nat.lt_succ_of_lt a,(C1 _ _ _ _ (Nat.ne_of_lt a)).trans b⟩)
  have hBn:BX' st.nx=v:=by rw[g4 st.nx (Nat.lt_succ_self _),A9]
  refine⟨BX',⟨g1.rel,fun j b hj=> ?_⟩,⟨v,vs',rfl,hBn.symm,g2⟩,fun q hq=> ?_,fun k hk=> ?_,Nat.le_trans (Nat.le_succ _) g5,g6⟩
  . obtain⟨q,h1,h3⟩:=g1.own j b hj;exact⟨q,(hiff q).2 h1,h3⟩
  . rcases List.mem_cons.1 hq with rfl|hq
    . exact Nat.lt_of_lt_of_le (Nat.lt_succ_self _) g5
    . exact g3 q hq
  . rw[g4 k (Nat.lt_succ_of_lt hk),C1 _ _ _ _ (Nat.ne_of_lt hk)]
 | .own t e0::r,T,tl,c0::cs,vs,p,st,BX,used,c,⟨v,vs',e,hv1,hv2⟩,hp,hu,hn,hf=>by
  simp only[Y2,bind_some,Option.map_eq_some_iff]at hp;obtain⟨l,hl,z,hz,rfl⟩:=hp;subst e;obtain⟨xs,o1,o2,o3,o4⟩:=KE h2 hv1 hl;have hv1':v.oneCell'=true:=by rcases o1.2 with⟨hv,_⟩ | ⟨_,_,_,hv,_⟩<;>rw[hv]<;>rfl
  have hro:=E5 o1;have key:∃used',Hv za w0 st2 E w Z B used' (st.newL (.row t e0 l)) (upd BX st.nx v)/\(∀q∈O3 r cs,q∉used')/\(O3 r cs).Nodup/\(∀q,q∈O3 (.own t e0::r) (c0::cs)++used↔q∈O3 r cs++used'):=by
   have mk:∀used',(∀q∈used,q∈used')->(∀b,root v=some b->∃q,q∈used'/\A4 w (B q) (st2.L q) b)->(∀k b,root v=some b->¬A4 w (BX k) (st.L k) b)->Hv za w0 st2 E w Z B used' (st.newL (.row t e0 l)) (upd BX st.nx v):=by
    intro used' hsub hq hd;refine⟨c.rel.new (v:=v) (lc:= .row t e0 l) ⟨xs,by rw[A9];exact Mi o1 (Nat.zero_le _),o2,fun b hb=>by rw[A9]at hb;exact⟨.inl ⟨c.rel.nms.2,(World.ownsRow.lt o1 b hb).1⟩,o3 b hb⟩⟩ hd trivial hv1' (fun b _ _=>by rw[hb0];exact Nat.zero_le _),fun j b hj=> ?_⟩;rw[St.L_newL]at hj;by_cases hjn:j=st.nx
    . subst hjn;rw[A9,if_pos rfl]at hj;exact hq b hj
    . rw[if_neg hjn,C1 _ _ _ _ hjn]at hj;obtain⟨q,h1,h3⟩:=c.own j b hj;exact⟨q,hsub q h1,h3⟩
   rcases o4 with⟨q,rfl,hlq,hvq⟩ | ⟨hnr,hnq⟩
   . have hid:O3 (.own t e0::r) (.row q::cs)=q::O3 r cs:=rfl;rw[hid]at hu hn⊢;have hn':=List.nodup_cons.1 hn;refine⟨q::used,mk _ (fun x hx=>List.mem_cons_of_mem _ hx) (fun b hb=>⟨q,by simp,A4.of hlq (by rw[<-hvq];exact hb)⟩) (fun k b hb=> ?_),fun x hx=> ?_,hn'.2,fun x=>by grind⟩
     . rw[hvq]at hb;exact c.disj h2 (hu q (by simp)) k b (A4.of hlq hb)
     . intro hxu;rcases List.mem_cons.1 hxu with rfl|hxu
       . exact hn'.1 hx
       . exact hu x (List.mem_cons_of_mem _ hx) hxu
   . have hid:O3 (.own t e0::r) (c0::cs)=O3 r cs:=by cases c0<;>first|rfl|exact absurd rfl (hnq _)
     rw[hid]at hu hn⊢;exact⟨used,mk _ (fun x hx=>hx) (fun b hb=>by rw[hnr]at hb;cases hb) (fun k b hb=>by rw[hnr]at hb;cases hb),hu,hn,fun x=>Iff.rfl⟩
  obtain⟨used',c',hu',hn',hiff⟩:=key;obtain⟨BX',g1,g2,g3,g4,g5,g6⟩:=Rw hb0 h2 c' hv2 hz hu' hn' (fun j hj k hk=>by
   obtain⟨a,b⟩:=hf j (List.mem_cons_of_mem _ hj) k hk;exact⟨Nat.lt_succ_of_lt a,(C1 _ _ _ _ (Nat.ne_of_lt a)).trans b⟩)
  have hBn:BX' st.nx=v:=by rw[g4 st.nx (Nat.lt_succ_self _),A9]
  refine⟨BX',⟨g1.rel,fun j b hj=> ?_⟩,⟨v,vs',rfl,hBn.symm,g2⟩,fun q hq=> ?_,fun k hk=> ?_,Nat.le_trans (Nat.le_succ _) g5,g6⟩
  . obtain⟨q,h1,h3⟩:=g1.own j b hj;exact⟨q,(hiff q).2 h1,h3⟩
  . rcases List.mem_cons.1 hq with rfl|hq
    . exact Nat.lt_of_lt_of_le (Nat.lt_succ_self _) g5
    . exact g3 q hq
  . rw[g4 k (Nat.lt_succ_of_lt hk),C1 _ _ _ _ (Nat.ne_of_lt hk)]
end
section
variable {za:Zn} {w0 w:World} {Z:Nat->Prop} {B:Nat->Value} {st st0 st2:St} {E:G3}
def OA (E:G3):List (Nat×Bool×List Ux)->List Value->List Value->Prop
 | [],vs,vr=>vs=vr
 | (s,agg,shs)::l,vs,vr=>∃v1 v2,vs=v1++v2/\v1.length=shs.length/\(agg=true->E s= .agg v1.toArray)/\(agg=false->v1= [E s])/\OA E l v2 vr
def WG (za:Zn) (w0:World) (w:World) (Z:Nat->Prop) (B:Nat->Value) (st2:St):List (Nat×TypeId×List Ux)->List Value->Prop
 | [],vs=>vs= []
 | (k,T,shs)::l,vs=>∃v1 v2,vs=v1++v2/\v1.length=shs.length/\live (st2.L k)/\(∃b,B k= .pointer (some ⟨b,0,none⟩)/\up za w0 k b/\¬Z b/\IG w b v1.toArray T)/\WG za w0 w Z B st2 l v2
theorem TU (h2:C0 za w0 st2 E w Z B):∀ {l:List (Nat×Bool×List Ux)} {r cs:List C} {vr:List Value},Cf w Z B r vr->XE st2 l r=some cs->∃vs,Cf w Z B cs vs/\OA E l vs vr
 | [],r,cs,vr,hr,h=>by cases h;exact⟨vr,hr,rfl⟩
 | (s,agg,shs)::l,r,cs,vr,hr,h=>by
  simp only[XE]at h;split at h
  . rename_i a cs1 hs;obtain⟨hb,h⟩:=D7 h;simp only[Option.map_eq_some_iff]at h;obtain⟨cs2,h3,rfl⟩:=h;simp only[Bool.and_eq_true,beq_iff_eq]at hb;obtain⟨ha,hb⟩:=hb;subst ha;have hlen:=Nat.eq_of_beq_eq_true hb;obtain⟨v2,h4,h5⟩:=TU h2 hr h3;have hv:=h2.slots s;rw[hs]at hv;cases a with
    |true=>
     obtain⟨v1,e,hv⟩:=hv;exact⟨v1++v2,hv.append h4,v1,v2,rfl,by rw[<-hlen,hv.len],fun _=>e,fun hh=>(by cases hh),h5⟩
    |false=>
     have hv:Cf w Z B cs1 [E s]:=hv;exact⟨[E s]++v2,hv.append h4,[E s],v2,rfl,by rw[<-hlen,hv.len],fun hh=>(by cases hh),fun _=>rfl,h5⟩
  . cases h
theorem TT (h2:C0 za w0 st2 E w Z B):∀ {l:List (Nat×TypeId×List Ux)} {cs:List C},XD st2 l=some cs->∃vs,Cf w Z B cs vs/\WG za w0 w Z B st2 l vs
 | [],cs,h=>by cases h;exact⟨[],rfl,rfl⟩
 | (k,T,shs)::l,cs,h=>by
  simp only[XD]at h;split at h
  . rename_i T' cs1 hk;obtain⟨hb,h⟩:=D7 h;simp only[Option.map_eq_some_iff]at h;obtain⟨cs2,h3,rfl⟩:=h;simp only[Bool.and_eq_true]at hb;have hT:=Nat.eq_of_beq_eq_true hb.1;subst hT;have hlen:=Nat.eq_of_beq_eq_true hb.2;obtain⟨v2,h4,h5⟩:=TT h2 h3;have hL:=h2.locs k;rw[hk]at hL;obtain⟨b,vs,e,h6,h7,h8,h9⟩:=hL;exact⟨vs.toList++v2,h9.append h4,vs.toList,v2,rfl,by rw[<-hlen,h9.len],by rw[hk];trivial,⟨b,e,h6,h7,by simpa using h8⟩,h5⟩
  . cases h
theorem UV {k:Nat} {t:Ty} {e e':TypeId} {x:List t.den×List Nat} (hl:fK st2 t e e' k=some x):st2.L k= .nest t e e' x.1 [] x.2:=by
 unfold fK at hl;split at hl
 . rename_i t' d d' ls dd hk;split at hl
   . rename_i hh;subst hh;obtain⟨hb,hl⟩:=D7 hl;cases hl;simp only[Bool.and_eq_true]at hb;rw[hk,Nat.eq_of_beq_eq_true hb.1,Nat.eq_of_beq_eq_true hb.2]
   . cases hl
 . cases hl
theorem PL {k q:Nat} {ka va:Bool} {kt vt:Ty} {x:(LT.itM ka kt va vt q).den} (hl:fD st2 k (.itM ka kt va vt q)=some x):∃cur,st2.L k= .itM ka kt va vt x.1 x.2 cur q/\q<k:=by
 simp only[fD]at hl;split at hl
 . rename_i ka' kt' va' vt' es left cur q' hk;obtain⟨hb,hl⟩:=D7 hl;simp only[Bool.and_eq_true]at hb;split at hl
   . rename_i hh;cases hh;cases hl;have:=Nat.eq_of_beq_eq_true hb.1;subst this;exact⟨cur,hk,Nat.le_of_ble_eq_true hb.2⟩
   . cases hl
 . cases hl
theorem UN {k q:Nat} {t:LT} {x:t.den} (hl:fD st2 k t=some x) (hq:t.need=some q):q<k:=by
 cases t with
 |itM ka kt va vt q'=>cases hq;exact(PL hl).choose_spec.2
 | _=>cases hq
theorem FZ (h2:C0 za w0 st2 E w Z B) {k:Nat} {t:LT} {x:t.den} (hl:fD st2 k t=some x):live (st2.L k)/\RL (up za w0 k) w Z B k (t.lc x)/\t.wf x:=by
 cases t with
 |row t e=>
  have hk:=Ih hl;have hL:=h2.locs k;rw[hk]at hL;refine⟨by rw[hk];trivial,hL, ?_⟩;obtain⟨xs,o1,o2,_⟩:=hL;exact C6.wf (Bz (Z:=fun _=>True) o1 (o2.mono fun _ _=>C6.mono (fun _ _=>trivial) (fun _ _=>rfl)) (fun _ _=>trivial))
 |map ka kt va vt=>
  have hk:=GB hl;have hL:=h2.locs k;rw[hk]at hL;refine⟨by rw[hk];trivial,hL, ?_⟩;obtain⟨b,ents,cl,e,_,_,hb,hm,he⟩:=hL;exact C6.wf (YC (Z:=fun _=>True) hb hm (he.mono (fun _ _=>trivial) (fun _ _=>rfl)) trivial)
 |rows t e e'=>
  obtain⟨al,hk⟩:=Y3 hl;have hL:=h2.locs k;have hR:=hL;rw[hk]at hR;have hR:=hR.rowsR;refine⟨by rw[hk];trivial,hR.rl fun b hb=> ?_,hR.wf⟩;have hb':A4 w (B k) (st2.L k) b:=by rw[hk];exact(V6 fun _ _=>rfl).1 hb
  obtain⟨a1,a2,a3⟩:=hL.root hb';exact⟨a1,a3,a2⟩
 |iter ka kt va vt=>
  simp only[fD]at hl;cases hk:st2.L k with
  |iter ka' kt' va' vt' es cur=>
   rw[hk]at hl;simp only at hl;split at hl
   . rename_i hh;cases hh;cases hl;have hL:=h2.locs k;rw[hk]at hL;obtain⟨r,e,h1,h3,h4⟩:=hL;refine⟨trivial,⟨r,e,h1,h3,h4.imp (fun h=>⟨h.1,h.2.1,rfl⟩) fun⟨m,seen,ents,cl,i1,i2,i3,i4,i5,i6⟩=>⟨m,seen,ents,cl,i1,i2,i3,i4,i5,fun x hx=>by cases hx⟩⟩, ?_⟩;rcases h4 with⟨_,h,_⟩ | ⟨m,seen,ents,cl,i1,i2,i3,i4,i5,i6⟩
     . rw[h];intro x hx;cases hx
     . intro x hx;obtain⟨m,_,g1,g2⟩:=O8.mem i5 hx;exact⟨S4.wf' (fun _ _=>C6.wf) g1,S4.wf' (fun _ _=>C6.wf) g2⟩
   . cases hl
  | _=>rw[hk]at hl;cases hl
 |nest t e e'=>
  have hk:=UV hl;have hL:=h2.locs k;rw[hk]at hL;refine⟨by rw[hk];trivial,hL, ?_⟩;obtain⟨xs,hN,_⟩:=hL;rcases hN.own.2 with⟨_,hn⟩ | ⟨_,_,_,_,_,_,h3,h4,_⟩
  . show x.1.length<= _;omega
  . show x.1.length<= _;simp only[maxLen]at h4;omega
 |itM ka kt va vt q=>
  obtain⟨cur,hk,_⟩:=PL hl;have hL:=h2.locs k;rw[hk]at hL;obtain⟨r,m,seen,ents,cl,e1,e2,hi,h1,h3,h4,h5⟩:=hL;refine⟨by rw[hk];trivial,⟨r,m,seen,ents,cl,e1,e2,⟨hi.it,hi.mp,hi.ok,hi.all,hi.rest,fun x hx=>(by cases hx)⟩,h1,h3,h4,h5⟩,fun y hy=> ?_⟩;obtain⟨m,_,g1,g2⟩:=O8.mem hi.rest hy;exact⟨S4.wf' (fun _ _=>C6.wf) g1,S4.wf' (fun _ _=>C6.wf) g2⟩
theorem RL.setB {U:Nat->Prop} {B':Nat->Value} {k:Nat} {t:LT} {x:t.den} (h:RL U w Z B k (t.lc x)) (e:B' k=B k) (en:∀q,t.need=some q->B' q=B q):RL U w Z B' k (t.lc x):=by
 cases t with
 |nest t e0 e1=>
  obtain⟨xs,hN,h6⟩:=h;exact⟨xs,⟨by rw[e];exact hN.own,fun p hp=>(by cases hp),hN.elt,hN.dis,by rw[e];exact hN.top⟩,by rw[e];exact h6⟩
 |itM ka kt va vt q=>
  obtain⟨r,m,seen,ents,cl,e1,e2,hr⟩:=h;exact⟨r,m,seen,ents,cl,e.trans e1,(en q rfl).trans e2,hr⟩
 |row t e0=>obtain⟨xs,a,b,c⟩:=h;exact⟨xs,by rw[e];exact a,b,by rw[e];exact c⟩
 |map ka kt va vt=>obtain⟨b,ents,cl,a,r⟩:=h;exact⟨b,ents,cl,e.trans a,r⟩
 |iter ka kt va vt=>obtain⟨r,a,b⟩:=h;exact⟨r,e.trans a,b⟩
 |rows t e0 e1=>
  obtain⟨xs,h1,⟨h2,h3,h4⟩,h5,h6⟩:=h;exact⟨xs,by rw[e];exact h1,⟨fun p hp=>(by cases hp),h3,h4⟩,by rw[e];exact h5,by rw[e];exact h6⟩
theorem A1y (h2:C0 za w0 st2 E w Z B) {k b:Nat} {t:LT} {x:t.den} (hl:fD st2 k t=some x) (h:A4 w (B k) (t.lc x) b):A4 w (B k) (st2.L k) b:=by
 cases t with
 |row t e=>exact A4.of (FZ h2 hl).1 h
 |map ka kt va vt=>exact A4.of (FZ h2 hl).1 h
 |iter ka kt va vt=>exact A4.of (FZ h2 hl).1 h
 |rows t e e'=>
  obtain⟨al,hk⟩:=Y3 hl;rw[hk];exact(V6 fun _ _=>rfl).1 h
 |nest t e e'=>rw[UV hl];exact h
 |itM ka kt va vt q=>obtain⟨cur,hk,_⟩:=PL hl;rw[hk];exact h
theorem QP (h2:C0 za w0 st2 E w Z B) {BX:Nat->Value} {n0:Nat} (hB:∀k,k<n0->BX k=B k):∀ {l:List (Nat×LT)} {x:cS l} {st:St} {used:List Nat},Hv za w0 st2 E w Z B used st BX->n0<=st.nx->lP st2 l=some x->(∀y∈l,y.1<n0)->(∀y∈l,y.1∉used)->(l.map fun y=>y.1).Nodup->
 Hv za w0 st2 E w Z B ((l.map fun y=>y.1)++used) (putRows l x st) BX/\(putRows l x st).nx=st.nx
 | [],_,st,used,c,_,_,_,_,_=>⟨c,rfl⟩
 | (k,t)::r,x,st,used,c,hn,hp,hlt,hu,hnd=>by
  simp only[lP,bind_some,Option.map_eq_some_iff]at hp;obtain⟨l,hl,z,hz,rfl⟩:=hp;have hkl:=hlt (k,t) (by simp);have hku:=hu (k,t) (by simp);simp only at hkl hku;obtain⟨hlive,hRL,_⟩:=FZ h2 hl;have hBk:BX k=B k:=hB k hkl;simp only[List.map_cons,List.nodup_cons]at hnd;have hft:∀b,A4 w (BX k) (t.lc l) b->A4 w (B k) (st2.L k) b:=fun b hb=>A1y h2 hl (by rw[<-hBk];exact hb)
  have c1:Hv za w0 st2 E w Z B (k::used) (st.setL k (t.lc l)) BX:=by
   refine⟨c.rel.addL (by omega) (hRL.setB hBk fun q hq=>hB q (Nat.lt_trans (UN hl hq) hkl)) (fun j b _ hb hj=> ?_) (by cases t<;>first|trivial|exact fun p hp=>(by cases hp) |exact Nat.lt_of_lt_of_le (Nat.lt_trans (UN hl rfl) hkl) hn) (fun b hk hb=>h2.mrk.2 k b hk (hft b hb)),fun j b hj=> ?_⟩
   . exact c.disj h2 hku j b (hft b hb) hj
   . rw[St.L_setL]at hj;by_cases hjk:j=k
     . subst hjk;rw[if_pos rfl]at hj;exact⟨j,by simp,hft b hj⟩
     . rw[if_neg hjk]at hj;obtain⟨q,h1,h3⟩:=c.own j b hj;exact⟨q,List.mem_cons_of_mem _ h1,h3⟩
  obtain⟨c2,hnx⟩:=QP h2 hB c1 hn hz (fun y hy=>hlt y (List.mem_cons_of_mem _ hy)) (fun y hy=>by
   intro hh;rcases List.mem_cons.1 hh with hh|hh
   . exact hnd.1 (hh▸List.mem_map_of_mem hy)
   . exact hu y (List.mem_cons_of_mem _ hy) hh) hnd.2
  refine⟨⟨c2.rel,fun j b hj=> ?_⟩,hnx⟩;obtain⟨q,h1,h3⟩:=c2.own j b hj;refine⟨q, ?_,h3⟩;simp only[List.map_cons];grind
theorem jA {BX:Nat->Value} :∀ {l:List (Nat×Bool×List Ux)} {cs:List C} {vs vr:List Value} {st:St} {used:List Nat},Hv za w0 st2 E w Z B used st BX->Cf w Z BX cs vs->OA E l vs vr->(∀c∈cs,Cd st.nx c)->
 Hv za w0 st2 E w Z B used (putS l cs st).2 BX/\Cf w Z BX (putS l cs st).1 vr/\(∀c∈(putS l cs st).1,Cd st.nx c)/\(putS l cs st).2.nx=st.nx
 | [],cs,vs,vr,st,used,c,hr,hv,hf=>by rw[show vs=vr from hv]at hr;exact⟨c,hr,hf,rfl⟩
 | (s,agg,shs)::l,cs,vs,vr,st,used,c,hr,⟨v1,v2,e,hl,ha,hna,hv⟩,hf=>by
  subst e;have h1:=hr.take shs.length;have h2:=hr.drop shs.length;rw[<-hl,List.take_left]at h1;rw[<-hl,List.drop_left]at h2;rw[hl]at h1 h2;have hRS:RS w Z BX ⟨agg,cs.take shs.length⟩ (E s):=by
   cases agg with
   |true=>exact⟨v1,ha rfl,h1⟩
   |false=>rw[hna rfl]at h1;exact h1
  have c1:Hv za w0 st2 E w Z B used (st.setS s (.one ⟨agg,cs.take shs.length⟩)) BX:=⟨c.rel.setSame s hRS (fun x hx=>hf x (List.mem_of_mem_take hx)),c.own⟩;have:=jA (l:=l) (cs:=cs.drop shs.length) c1 h2 hv (fun x hx=>hf x (List.mem_of_mem_drop hx));exact this
theorem iZ (h2:C0 za w0 st2 E w Z B) {BX:Nat->Value} {n0:Nat} (hB:∀k,k<n0->BX k=B k):∀ {l:List (Nat×TypeId×List Ux)} {cs:List C} {vs:List Value} {st:St} {used:List Nat},Hv za w0 st2 E w Z B used st BX->n0<=st.nx->Cf w Z BX cs vs->WG za w0 w Z B st2 l vs->(∀c∈cs,Cd st.nx c)->(∀y∈l,y.1<n0)->(∀y∈l,y.1∉used)->(l.map fun y=>y.1).Nodup->
 C0 za w0 (putB l cs st) E w Z BX
 | [],_,_,st,used,c,_,_,_,_,_,_,_=>c.rel
 | (k,T,shs)::l,cs,vs,st,used,c,hn,hr,⟨v1,v2,e,hl,hlv,⟨b,hBk,hb0,hnz,hblk⟩,hv⟩,hf,hlt,hu,hnd=>by
  subst e;have h1:=hr.take shs.length;have h3:=hr.drop shs.length;rw[<-hl,List.take_left]at h1;rw[<-hl,List.drop_left]at h3;rw[hl]at h1 h3;have hkl:=hlt (k,T,shs) (by simp);have hku:=hu (k,T,shs) (by simp);simp only at hkl hku;have hBX:BX k=B k:=hB k hkl;simp only[List.map_cons,List.nodup_cons]at hnd;have hft:∀q,A4 w (BX k) (.box T (cs.take shs.length)) q->A4 w (B k) (st2.L k) q:=fun q hq=>A4.of hlv (by rw[<-hBX];exact hq)
  have c1:Hv za w0 st2 E w Z B (k::used) (st.setL k (.box T (cs.take shs.length))) BX:=by
   refine⟨c.rel.addL (by omega) ⟨b,v1.toArray,hBX.trans hBk,hb0,hnz,hblk,by simpa using h1⟩ (fun j q _ hq hj=> ?_) (fun x hx=>hf x (List.mem_of_mem_take hx)) (fun q hk hb=>h2.mrk.2 k q hk (hft q hb)),fun j q hj=> ?_⟩
   . exact c.disj h2 hku j q (hft q hq) hj
   . rw[St.L_setL]at hj;by_cases hjk:j=k
     . subst hjk;rw[if_pos rfl]at hj;exact⟨j,by simp,hft q hj⟩
     . rw[if_neg hjk]at hj;obtain⟨q',h1,h3⟩:=c.own j q hj;exact⟨q',List.mem_cons_of_mem _ h1,h3⟩
  have:=iZ (l:=l) (cs:=cs.drop shs.length) h2 hB c1 hn h3 hv (fun x hx=>hf x (List.mem_of_mem_drop hx)) (fun y hy=>hlt y (List.mem_cons_of_mem _ hy)) (fun y hy=>by
   intro hh;rcases List.mem_cons.1 hh with hh|hh
   . exact hnd.1 (hh▸List.mem_map_of_mem hy)
   . exact hu y (List.mem_cons_of_mem _ hy) hh) hnd.2
  exact this
theorem Lj (h2:C0 za w0 st2 E w Z B):∀ {shs:List Ux} {T:Type} {tl:T} {q:T->Prop} {cs:List C} {vs:List Value} {p:mO shs T},q tl->Cf w Z B cs vs->Y2 st2 shs tl cs=some p->shW shs q p
 | [],_,tl,q,[],vs,p,hq,_,hp=>by simp only[Y2,Option.some.injEq]at hp;subst hp;exact hq
 | [],_,_,_,_:: _,_,_,_,_,hp=>by cases hp
 | .val t::r,_,_,_,[],_,_,_,_,hp=>by cases hp
 | .own t e::r,_,_,_,[],_,_,_,_,hp=>by cases hp
 | .ownR t e e'::r,_,_,_,[],_,_,_,_,hp=>by cases hp
 | .fix k::r,_,_,_,[],_,_,_,_,hp=>by cases hp
 | .fixB k::r,_,_,_,[],_,_,_,_,hp=>by cases hp
 | .fixB k::r,_,tl,q,c::cs,vs,p,hq,⟨v,vs',_,h1,h3⟩,hp=>by
  simp only[Y2]at hp;exact Lj (shs:=r) h2 hq h3 (D7 hp).2
 | .fix k::r,_,tl,q,c::cs,vs,p,hq,⟨v,vs',_,h1,h3⟩,hp=>by
  simp only[Y2]at hp;exact Lj (shs:=r) h2 hq h3 (D7 hp).2
 | .val t::r,_,tl,q,c::cs,vs,p,hq,⟨v,vs',e,h1,h3⟩,hp=>by
  simp only[Y2,bind_some,Option.map_eq_some_iff]at hp;obtain⟨y,hy,z,hz,rfl⟩:=hp;exact⟨C6.wf (NJ h1 hy),Lj h2 hq h3 hz⟩
 | .own t e::r,_,tl,q,c::cs,vs,p,hq,⟨v,vs',_,h1,h3⟩,hp=>by
  simp only[Y2,bind_some,Option.map_eq_some_iff]at hp;obtain⟨l,hl,z,hz,rfl⟩:=hp;obtain⟨xs,o1,o2,_⟩:=KE h2 h1 hl;exact⟨C6.wf (Bz (Z:=fun _=>True) o1 (o2.mono fun _ _=>C6.mono (fun _ _=>trivial) (fun _ _=>rfl)) (fun _ _=>trivial)),Lj h2 hq h3 hz⟩
 | .ownR t e e'::r,_,tl,q,c::cs,vs,p,hq,⟨v,vs',_,h1,h3⟩,hp=>by
  simp only[Y2,bind_some,Option.map_eq_some_iff]at hp;obtain⟨l,hl,z,hz,rfl⟩:=hp;exact⟨Bt.wf (cU h2 h1 hl).1,Lj h2 hq h3 hz⟩
theorem jF (h2:C0 za w0 st2 E w Z B):∀ {l:List (Nat×LT)} {x:cS l},lP st2 l=some x->A5x l x
 | [],_,_=>trivial
 | (k,t)::r,x,hp=>by
  simp only[lP,bind_some,Option.map_eq_some_iff]at hp;obtain⟨l,hl,z,hz,rfl⟩:=hp;exact⟨(FZ h2 hl).2.2,jF h2 hz⟩
theorem iD {A:CL} {p:A.den} {st1:St} (hb0:za.b0=0) (h:C0 za w0 st E w Z B) (hg:gath A st=some (st1,p)) (pk:A1e za.n st0) (hS:∀s∈A.keepS,st1.eS s=st0.eS s) (hL:∀k∈A.keepL,st1.eL k=st0.eL k) (hR:∀y∈A.rowL,y.1<st0.nx) (hF:st1.fr=st0.fr):
 A.wf p/\∃Z' B',C0 za w0 (reflect A st0 p) E w Z' B':=by
 simp only[gath,Option.bind_eq_bind,bind_some]at hg;obtain⟨cs0,_,cs,hcs,tl,htl,p',hp,hg⟩:=hg;obtain⟨hnd,hg⟩:=D7 hg;cases hg;simp only[Bool.and_eq_true,List.all_eq_true]at hnd;obtain⟨hnd,hfx⟩:=hnd;obtain⟨Z0,h0⟩:=h.plugL hb0 (l:=A.rowL);obtain⟨Z1,h2⟩:=C0.settleSh (shs:=A.shs) (cs:=cs0) h0;generalize settleSh (plugL A.rowL st) A.shs cs0=st2 at*;have hnd:=Cl hnd;simp only[CL.cells,bind_some]at hcs;obtain⟨cb,hcb,hcs⟩:=hcs;obtain⟨vb,hb1,hb2⟩:=TT h2 hcb;obtain⟨vs,hs1,hs2⟩:=TU h2 hb1 hcs;refine⟨Lj h2 (jF h2 htl) hs1 hp, ?_⟩;have c0:=A4i h2 pk hS hL hF;have hR':∀y∈A.rowL,y.1<mC A.boxL st0.nx:=fun y hy=>Nat.lt_of_lt_of_le (hR y hy) (Pj _ _)
 rw[List.nodup_append]at hnd;obtain⟨n1,n2,n3⟩:=hnd;rw[List.nodup_append]at n2;obtain⟨n4,n5,n6⟩:=n2;rw[List.nodup_append]at n5;obtain⟨n7,n8,n9⟩:=n5;obtain⟨BX,g1,g2,g3,g4,g5,g6⟩:=Rw hb0 h2 c0 hs1 hp (fun q hq hk=>n3 q hk q (by simp[hq]) rfl) n4 (fun c hc k hk=>by
  have:=hfx _ hc;cases c with
  |fix k'=>
   cases hk;simp only[nR,List.any_eq_true]at this;obtain⟨y,hy,hb⟩:=this;have:=Nat.eq_of_beq_eq_true hb;subst this;exact⟨hR' y hy,rfl⟩
  |fixB k'=>
   cases hk;simp only[nR,List.any_eq_true]at this;obtain⟨y,hy,hb⟩:=this;have:=Nat.eq_of_beq_eq_true hb;subst this;exact⟨RO y hy,rfl⟩
  | _=>cases hk)
 have hB:∀k,k<mC A.boxL st0.nx->BX k=B k:=g4;have q1:=QP h2 hB (x:=(placeSh A.shs p (kept A st0)).2.2) g1 g5 (by rw[g6];exact htl) hR' (fun y hy hh=>by
  rcases List.mem_append.1 hh with hh|hh
  . exact n6 y.1 hh y.1 (by simp only[List.mem_append,List.mem_map];exact .inl ⟨y,hy,rfl⟩) rfl
  . exact n3 y.1 hh y.1 (by simp only[List.mem_append,List.mem_map];exact .inr (.inl ⟨y,hy,rfl⟩)) rfl) n7
 have q2:=jA (l:=A.modS) q1.1 g2 hs2 (by rw[q1.2];exact g3);refine⟨Z1,BX, ?_⟩;exact iZ h2 hB q2.1 (by rw[q2.2.2.2,q1.2];exact g5) q2.2.1 hb2 (by rw[q2.2.2.2];exact q2.2.2.1) (fun y hy=>RO y hy) (fun y hy hh=>by
  rcases List.mem_append.1 hh with hh|hh
  . exact n9 y.1 hh y.1 (List.mem_map_of_mem hy) rfl
  . rcases List.mem_append.1 hh with hh|hh
    . exact n6 y.1 hh y.1 (by simp only[List.mem_append,List.mem_map];exact .inr ⟨y,hy,rfl⟩) rfl
    . exact n3 y.1 hh y.1 (by simp only[List.mem_append,List.mem_map];exact .inr (.inr ⟨y,hy,rfl⟩)) rfl) n8
end
def addA (st:St) (d:Tmp) (lc:LC) (mk:Nat->C):St:=(st.newL lc).setS d (one1 (mk st.nx))
def II (cx:Cx) (st:St) (d:Tmp):Op->Option (Option Prop×LC×(Nat->C))
 | .alloc T=>do
  let ti<-cx.ti T
  some (none, .box T (Ze ti.ty),fun k=> .box k 0)
 | .makeSlice T lo co=>do
  let ti<-cx.ti T
  let t<-slT ti.ty
  let l<-XS st lo
  let c<-XS st co
  bif ti.nest.any (Nat.beq d)then do
   let t2<-cx.ti ti.elem
   bif GT t then some (some (0<=l/\l<=c/\(ti.bytes:Int)*c<=281474976710656/\c<=9223372036854775807), .nest t ti.elem t2.elem (List.replicate l.toNat t.dflt) [] (JO t l.toNat), .row)else none
  else bif !ti.rows&&Mb t then some (some (0<=l/\l<=c/\(ti.bytes:Int)*c<=281474976710656/\c<=9223372036854775807), .row t ti.elem (List.replicate l.toNat t.dflt), .row)else none
 | _=>none
def mU (lc:LC) (mk:Nat->C) (X:Obj) (f:Nat->Value):Prop:=
 ∀(za:Zn) (w0 w:World) (st:St) (E:G3) (Z:Nat->Prop) (B:Nat->Value) (d b:Nat),C0 za w0 st E w Z B->w.heap[b]? =some X->w0.heap.size<=b->¬Z b->(∀k,¬A4 w (B k) (st.L k) b)->za.b0<=b->
  C0 za w0 (addA st d lc mk) (upd E d (f b)) w Z (upd B st.nx (f b))/\∀c,A4 w (f b) lc c->c=b
section
variable {za:Zn} {w0 w w':World} {st:St} {E:G3} {Z:Nat->Prop} {B:Nat->Value} {cx:Cx} {d:Tmp} {φ:Option Prop}
theorem C3.addA (st:St) (d:Tmp) (lc:LC) (mk:Nat->C):C3 st (addA st d lc mk):=(C3.newL _ _).trans (C3.setS _ _ _)
theorem pR {base b e sz n c:Nat} {cs:Array Value} (hb:w.heap[b]? =some (.cells cs e (0,0))) (h0:base<=b) (hcs:cs.size=c*sz) (hlc:n<=c) (hm:c<=maxLen):w.ownsRow base e sz (.slice (some ⟨b,0,none⟩) n c) n (cs.toList.take (n*sz)):=by
 refine⟨?_, .inr ⟨b,c,cs,rfl,h0,hb,hlc,hm,hcs,rfl⟩⟩;rw[List.length_take,Array.length_toList,hcs];exact Nat.min_eq_left (Nat.mul_le_mul_right _ hlc)
theorem jZ {op:Op} {lc:LC} {mk:Nat->C} (h:C0 za w0 st E w Z B) (hty:G9 cx.P cx.tys=true) (ha:II cx st d op=some (φ,lc,mk)) (hφ:CC φ):
 ∃(X:Obj) (f:Nat->Value),(∀ty w',Gw.C8 cx.P E ty op w' (f w'.heap.size) (w'.alloc X))/\mU lc mk X f:=by
 unfold II at ha;split at ha
 . simp only[Option.bind_eq_bind,bind_some]at ha;obtain⟨ti,hti,ha⟩:=ha;cases ha;obtain⟨z,hz,hzc⟩:=Db (K9 (B4 hty hti)).2.2;rename_i T;refine⟨.cells z.cells T,fun b=> .pointer (some ⟨b,0,none⟩),fun ty w'=>jT hz,fun za w0 w st E Z B d b h hb h0 hnz hf hb0=> ?_⟩;have h3:=Ci (w:=w) (Z:=Z) (B:=B) (n:=st.nx) (Dw ti.ty);have hft:∀c,A4 w (.pointer (some ⟨b,0,none⟩)) (.box T (Ze ti.ty)) c->c=b:=fun c hc=>by
    simp only[A4,root,Option.some.injEq]at hc;exact hc.symm
   have h2:=h.new (v:= .pointer (some ⟨b,0,none⟩)) (lc:= .box T (Ze ti.ty)) ⟨b,z.cells,A9 _ _ _, .inl ⟨h.nms.2,h0⟩,hnz,hb,
    Cf.mono (n:=st.nx) (fun _=>id) (fun _ _=>rfl) (fun k hk=>C1 _ _ _ _ (Nat.ne_of_lt hk)) h3.2 (by rw[hzc];exact h3.1)⟩
    (fun k c hc hc'=>hf k (hft c hc▸hc')) (fun c hc=>(h3.2 c hc).le (Nat.le_succ _)) rfl (fun c _ hc=>by rw[hft c hc];exact hb0)
   refine⟨h2.setS d (x:=one1 (.box st.nx 0)) ⟨_,[],rfl,⟨b,A9 _ _ _,rfl⟩,rfl⟩ (fun c hc=> ?_),hft⟩;simp at hc;subst hc;exact Nat.lt_succ_self _
 . rename_i T lo co;simp only[Option.bind_eq_bind,bind_some]at ha;obtain⟨ti,hti,t,ht,l,hl,c,hc,ha⟩:=ha;have ht:=Fu ht;have key:∀ {φ':Option Prop},CC (some (0<=l/\l<=c/\(ti.bytes:Int)*c<=281474976710656/\c<=9223372036854775807))->∃z:Value,z.cells.toList=Dw t/\z.cells.size=t.size/\l.toNat<=c.toNat/\c.toNat<=maxLen/\∀ty w',Gw.C8 cx.P E ty (.makeSlice T lo co) w' (.slice (some ⟨w'.heap.size,0,none⟩) l.toNat c.toNat) (w'.alloc (.cells (madeCells z.cells (c.toNat*t.size)) ti.elem)):=by
    intro _ ⟨f1,f2,f3,f4⟩;obtain⟨i,z,hu,hi,hz,hsz,hzc,hzs,hb,hsl⟩:=Es (B4 hty hti) ht;obtain⟨k1,e1,_⟩:=h.int (D5 E) hl;obtain⟨k2,e2,_⟩:=h.int (D5 E) hc;refine⟨z,hzc,hzs,by omega,by simp only[maxLen];omega,fun ty w'=> ?_⟩;have hrun:=run_make (P:=cx.P) w' T ti.elem i z hu hi hz k1 k2 l c f1 f2 (by rw[hb];exact f3) f4;rw[<-hsz];exact fun _ _ _ _=>by simp[execOp,e1,e2,hrun]
   cases hn:ti.nest.any (Nat.beq d)with
   |true=>
    simp only[hn,cond_true,Option.bind_eq_bind,bind_some]at ha;obtain⟨t2,_,ha⟩:=ha;cases hown:GT t with
    |false=>simp only[hown,cond_false]at ha;cases ha
    |true=>
     simp only[hown,cond_true]at ha;cases ha;obtain⟨z,hzc,hzs,hlc,hm,hy⟩:=key (φ':=none) hφ;obtain⟨hsz1,u,hu1⟩:=VC hown;rw[hsz1]at hzs hy;refine⟨_,fun b=> .slice (some ⟨b,0,none⟩) l.toNat c.toNat,hy,fun za w0 w st E Z B d b h hb h0 hnz hf hb0=> ?_⟩;generalize hcs:madeCells z.cells (c.toNat*1)=cs at hb;have hcsz:cs.size=c.toNat*1:=by rw[<-hcs];simp[madeCells]
     have hrow:=pR (sz:=1) hb h0 hcsz hlc hm;have hnil:∀x∈cs.toList.take (l.toNat*1),x=u:=fun x hx=>by
      have hx:=List.mem_of_mem_take hx;rw[<-hcs]at hx;simp only[madeCells,Array.toList_map,List.mem_map]at hx;obtain⟨j,_,rfl⟩:=hx;have hz1:z.cells.toList= [u]:=hzc.trans hu1;have hz2:z.cells= #[u]:=by rw[<-Array.toArray_toList (xs:=z.cells),hz1]
      rw[hz2];simp[Nat.mod_one]
     obtain⟨z1,z2⟩:=VD hown hu1.symm;obtain⟨g1,g2⟩:=h.newNestE d (t:=t) (e':=t2.elem) (dd:=JO t l.toNat) hrow (fun j x hx=>by
      have:=hnil x (List.mem_of_getElem? hx);subst this;have hj:j<l.toNat:=by have:=(List.getElem?_eq_some_iff.1 hx).1;rw[List.length_take]at this;omega
      exact⟨z1,z2 _ _ _ j _ hj⟩) (fun b' hb'=>by
      simp only[Value.ownBlock,Option.some.injEq]at hb';subst hb';exact⟨hnz,hf⟩) (fun b' _ hb'=>by simp only[Value.ownBlock,Option.some.injEq]at hb';subst hb';exact hb0)
     exact⟨g1,fun c' hc'=>by have:=g2 c' hc';simp only[Value.ownBlock,Option.some.injEq]at this;exact this.symm⟩
   |false=>
    simp only[hn,cond_false]at ha;cases hd: !ti.rows&&Mb t with
    |false=>simp only[hd,cond_false]at ha;cases ha
    |true=>
     simp only[hd,cond_true]at ha;cases ha;simp only[Bool.and_eq_true]at hd;obtain⟨z,hzc,hzs,hlc,hm,hy⟩:=key (φ':=none) hφ;refine⟨_,fun b=> .slice (some ⟨b,0,none⟩) l.toNat c.toNat,hy,fun za w0 w st E Z B d b h hb h0 hnz hf hb0=> ?_⟩;have heach:G4 (C6 t w Z) ((madeCells z.cells (c.toNat*t.size)).toList.take (l.toNat*t.size)) (List.replicate l.toNat t.dflt):=Zr hzc hd.2 hzs _ _ hlc;generalize hcs:madeCells z.cells (c.toNat*t.size)=cs at hb heach;have hcsz:cs.size=c.toNat*t.size:=by rw[<-hcs];simp[madeCells]
     have hrow:=pR hb h0 hcsz hlc hm;refine⟨h.newRowE d (t:=t) (e:=ti.elem) (l:=List.replicate l.toNat t.dflt) (by rw[List.length_replicate];exact hrow) heach (fun b' hb'=>by
      simp only[Value.ownBlock,Option.some.injEq]at hb';subst hb';exact⟨hnz,hf⟩) (fun b' _ hb'=>by simp only[Value.ownBlock,Option.some.injEq]at hb';subst hb';exact hb0),fun c' hc'=> ?_⟩
     have:=hc';simp only[A4,root,Option.some.injEq]at this;exact this.symm
 . cases ha
end
def CH (cx:Cx) (all:List Oper) (st0:St):List Nat->(St->Prop)->St->Prop
 | [],k=>k
 |i::r,k=>fun st=>match all[i]? with
  |some o=>match II cx st0 (Fe all i) o.op with
   |some (φ,lc,mk)=>TB φ (CH cx all st0 r k (addA st (Fe all i) lc mk))
   |none=>False
  |none=>False
def gO (all:List Oper) (f:Nat->Nat->Value) (bl:Nat->Nat):List Nat->G3->G3
 | [],E=>E
 |i::r,E=>gO all f bl r (upd E (Fe all i) (f i (bl i)))
section
variable {za:Zn} {w0 w w':World} {Z:Nat->Prop} {cx:Cx} {all:List Oper} {st0:St} {k k':St->Prop} {f:Nat->Nat->Value} {X:Nat->Obj} {bl:Nat->Nat}
theorem VT:∀ {ls:List Nat} {st:St},CH cx all st0 ls k st->∀i∈ls,∃o φ lc mk,all[i]? =some o/\II cx st0 (Fe all i) o.op=some (φ,lc,mk)/\CC φ
 | [],_,_,_,h=>by cases h
 |i::r,st,hs,j,hj=>by
  simp only[CH]at hs;split at hs
  . rename_i o ho;split at hs
    . rename_i φ lc mk ha;obtain⟨h1,h2⟩:=F4.1 hs;rcases List.mem_cons.1 hj with rfl|hj
      . exact⟨o,φ,lc,mk,ho,ha,h1⟩
      . exact VT h2 j hj
    . exact hs.elim
  . exact hs.elim
theorem QX:∀ {ls:List Nat} {st:St},CH cx all st0 ls k st->(∀st',C3 st st'->k st'->k' st')->CH cx all st0 ls k' st
 | [],st,h,hk=>hk st (C3.refl st) h
 |i::r,st,h,hk=>by
  simp only[CH]at h⊢;split at h
  . split at h
    . exact F4.2 ⟨(F4.1 h).1,QX (F4.1 h).2 fun st' e hh=>hk st' ((C3.addA _ _ _ _).trans e) hh⟩
    . exact h
  . exact h
theorem EM {x:Nat} :∀ {l:List Nat} {E:G3},x∉Ar all l->gO all f bl l E x=E x
 | [],_,_=>rfl
 |i::l,E,h=>by
  simp only[Ar,List.map_cons,List.mem_cons,not_or]at h;simp only[gO];rw[EM h.2,C1 _ _ _ _ h.1]
theorem dL {i:Nat} :∀ {l:List Nat} {E:G3},(Ar all l).Nodup->i∈l->gO all f bl l E (Fe all i)=f i (bl i)
 | [],_,_,h=>by cases h
 |j::l,E,hn,h=>by
  simp only[Ar,List.map_cons]at hn;obtain⟨h1,h2⟩:=List.nodup_cons.1 hn;simp only[gO];by_cases hi:i∈l
  . exact dL h2 hi
  . rcases List.mem_cons.1 h with rfl|h
    . rw[EM h1,A9]
    . exact absurd h hi
theorem dA:∀ {ls:List Nat} {st:St} {E:G3} {B:Nat->Value},C0 za w0 st E w Z B->(∀i∈ls,∀o φ lc mk,all[i]? =some o->II cx st0 (Fe all i) o.op=some (φ,lc,mk)->mU lc mk (X i) (f i))->
 (∀i∈ls,w.heap[bl i]? =some (X i)/\w0.heap.size<=bl i/\¬Z (bl i)/\za.b0<=bl i/\∀k,¬A4 w (B k) (st.L k) (bl i))->(∀i∈ls,∀j∈ls,i≠j->bl i≠bl j)->ls.Nodup->CH cx all st0 ls k st->∃st' B',C0 za w0 st' (gO all f bl ls E) w Z B'/\k st'
 | [],st,E,B,h,_,_,_,_,hs=>⟨st,B,h,hs⟩
 |i::r,st,E,B,h,ht,hb,hne,hn,hs=>by
  simp only[CH]at hs;obtain⟨n1,n2⟩:=List.nodup_cons.1 hn;split at hs
  . rename_i o ho;split at hs
    . rename_i φ lc mk ha;obtain⟨_,hs⟩:=F4.1 hs;obtain⟨b1,b2,b3,b4,b5⟩:=hb i (List.mem_cons_self);obtain⟨g1,g2⟩:=ht i List.mem_cons_self o φ lc mk ho ha za w0 w st E Z B (Fe all i) (bl i) h b1 b2 b3 b5 b4;refine dA (ls:=r) (E:=upd E (Fe all i) (f i (bl i))) g1 (fun j hj=>ht j (List.mem_cons_of_mem _ hj)) (fun j hj=> ?_) (fun a ha b hb=>hne a (List.mem_cons_of_mem _ ha) b (List.mem_cons_of_mem _ hb)) n2 hs;obtain⟨c1,c2,c3,c4,c5⟩:=hb j (List.mem_cons_of_mem _ hj);refine⟨c1,c2,c3,c4,fun q hq=> ?_⟩;have hL:(addA st (Fe all i) lc mk).L q=(st.newL lc).L q:=rfl;rw[hL,St.L_newL]at hq;by_cases hqn:q=st.nx
      . subst hqn;rw[if_pos rfl,A9]at hq;exact hne i List.mem_cons_self j (List.mem_cons_of_mem _ hj) (fun e=>n1 (e▸hj)) (g2 _ hq).symm
      . rw[if_neg hqn,C1 _ _ _ _ hqn]at hq;exact c5 q hq
    . exact hs.elim
  . exact hs.elim
theorem VO:∀(l:List Nat) (E:G3) (w:World),l.Nodup->(Ar all l).Nodup->R2 w (Ff all f X l E w).2/\∃bl:Nat->Nat,(∀i∈l,w.heap.size<=bl i/\(Ff all f X l E w).2.heap[bl i]? =some (X i)/\(Ff all f X l E w).1 (Fe all i)=f i (bl i))/\∀i∈l,∀j∈l,i≠j->bl i≠bl j
 | [],_,w,_,_=>⟨R2.refl w,fun _=>0,by simp,by simp⟩
 |i::r,E,w,hn,hd=>by
  obtain⟨n1,n2⟩:=List.nodup_cons.1 hn;simp only[Ar,List.map_cons]at hd;obtain⟨d1,d2⟩:=List.nodup_cons.1 hd;obtain⟨h1,bl,h2,h3⟩:=VO r (upd E (Fe all i) (f i w.heap.size)) (w.alloc (X i)) n2 d2;have hx:R2 w (w.alloc (X i)):=R2.alloc w _;have hsz:(w.alloc (X i)).heap.size=w.heap.size+1:=Array.size_push ..;simp only[Ff];refine⟨hx.trans h1,fun j=>if j=i then w.heap.size else bl j,fun j hj=> ?_,fun a ha b hb hab=> ?_⟩
  . rcases List.mem_cons.1 hj with rfl|hj
    . have he:(if j=j then w.heap.size else bl j)=w.heap.size:=if_pos rfl;show w.heap.size<=(if j=j then w.heap.size else bl j)/\(Ff all f X r _ _).2.heap[if j=j then w.heap.size else bl j]? = _ /\ _=f j (if j=j then w.heap.size else bl j);rw[he];refine⟨Nat.le_refl _, ?_,by rw[Hi _ _ _ d1,A9]⟩;rw[h1.block _ (by rw[hsz];exact Nat.lt_succ_self _)];exact heap_alloc_new w _
    . have:j≠i:=fun e=>n1 (e▸hj)
      simp only[if_neg this];obtain⟨g1,g2,g3⟩:=h2 j hj;exact⟨by omega,g2,g3⟩
  . simp only;have hr:∀q,q∈i::r->q≠i->q∈r:=fun q hq hqi=>(List.mem_cons.1 hq).resolve_left hqi
    by_cases ha':a=i
    . rw[if_pos ha',if_neg (fun e=>hab (ha'.trans e.symm))];have:=(h2 b (hr b hb (fun e=>hab (ha'.trans e.symm)))).1;omega
    . rw[if_neg ha'];by_cases hb':b=i
      . rw[if_pos hb'];have:=(h2 a (hr a ha ha')).1;omega
      . rw[if_neg hb'];exact h3 a (hr a ha ha') b (hr b hb hb') hab
end
def apart (st:St) (q:Nat):C->Bool
 | .box k _=> !(Nat.beq k q)&&(match st.L k with
  | .box _ _=>true
  | _=>false)
 | .elp k _ _ _=> !(Nat.beq k q)&&(match st.L k with
  | .row _ _ _=>true
  | _=>false)
 | .pf _ _ _=>true
 | _=>false
def bM (cx:Cx) (st:St) (ts:List Nat) (o:Oper):Bool:=match o.op with
 | .load T x=>o.guard.isNone&&(PT cx st [] T x).isSome&&(match(st.ev [] x).bind c1 with
  |some c=>ts.all fun s=>match st.S s with
   | .one ⟨false,[.box q 0]⟩=>apart st q c&&(match st.L q with
    | .box _ _=>true
    | _=>false)
   | _=>false
  |none=>false)
 |op=> !(fH op)
def A5d (all:List Oper) (ts:List Nat):Bool:=all.all fun o=>match o.dst with
 |some d=> !(ts.contains d)
 |none=>true
section
variable {za:Zn} {w0 w:World} {Z:Nat->Prop} {B:Nat->Value} {st:St} {E E0:G3} {cx:Cx} {sp:F3} {all:List Oper} {k:St->Prop} {ts:List Nat}
theorem fC (h:∀s∈ts,E s=E0 s) {b:Nat} :Tm E ts b->Tm E0 ts b:=fun⟨s,hs,hb⟩=>⟨s,hs,by rw[<-h s hs];exact hb⟩
theorem iY (h:C0 za w0 st E w Z B) {s q:Nat} (hS:st.S s= .one ⟨false,[.box q 0]⟩):E s=B q:=by
 have h1:=h.slots s;rw[hS]at h1;obtain⟨v,_,e2,⟨b',e3,e4⟩,e5⟩:=h1;cases e2;rw[e4,e3]
theorem oN (h:C0 za w0 st E w Z B) (hty:G9 cx.P cx.tys=true) {T ty:TypeId} {x:Operand} {g:Option (Nat×Bool)} {d:Option Tmp} {pos:String} {aft:Array Edge} (hk:bM cx st ts ⟨d, .load T x,ty,pos,aft,g⟩=true):
 ∃v,∀w',Ae (Tm E ts) w w'->Gw.C8 cx.P E ty (.load T x) w' v w':=by
 simp only[bM,Bool.and_eq_true]at hk;obtain⟨⟨_,hl⟩,hk⟩:=hk;obtain⟨r,hl⟩:=Option.isSome_iff_exists.1 hl;simp only[PT,Option.bind_eq_bind,bind_some,Option.map_eq_some_iff]at hl;obtain⟨ti,hti,c,⟨s,hs,hcs⟩,cs,hr,_⟩:=hl;have hc:(st.ev [] x).bind c1=some c:=bind_some.2 ⟨s,hs,hcs⟩;rw[hc]at hk;simp only[List.all_eq_true]at hk;obtain⟨h1,h2,_⟩:=K9 (B4 hty hti);have ht:(ti.agg=true/\SZ cx.P T ti.ty.size=true)\/(ti.agg=false/\S7 cx.P T=true/\ti.ty.size=1):=by
  rcases h2 with⟨ha,h2⟩ | ⟨ha,h2,h3⟩
  . exact .inl ⟨ha,h2⟩
  . exact .inr ⟨ha,h2,h3⟩
 have hx:=(h.c1 (D5 E) hc).1;have out:∀ {b:Nat},(∀q,apart st q c=true->(∃T cs,st.L q= .box T cs)->root (B q)≠some b)->¬Tm E ts b:=fun {b} hh ⟨s,hs,hb⟩=>by
  have h1:=hk s hs;split at h1
  . rename_i q hq;simp only[Bool.and_eq_true]at h1;obtain⟨h1,h3⟩:=h1;refine hh q h1 ?_ (by rw[<-iY h hq];exact hb);split at h3
    . rename_i e;exact⟨_,_,e⟩
    . cases h3
  . cases h1
 have fin:∀ {b o:Nat} {vs:List Value},Gw.ev E x= .pointer (some ⟨b,o,none⟩)->b<w.heap.size->K0 w ⟨b,o,none⟩ vs->vs.length=ti.ty.size->¬Tm E ts b->∃v,∀w',Ae (Tm E ts) w w'->Gw.C8 cx.P E ty (.load T x) w' v w':=fun hv hb hc hn ho=>by
  obtain⟨v,g1,_⟩:=iP (P:=cx.P) (ty:=ty) hv hc (by rw[hn];exact ht);exact⟨v,fun w' hw=>g1 w' (hw.block _ hb ho)⟩
 have still:∀ {b:Nat},Z b->¬Tm E ts b:=fun {b} hz=>out fun q _ ⟨T,cs,e⟩ hr=>((h.locs q).root (b:=b) (by rw[e];exact hr)).2.2 hz
 unfold iO at hr;split at hr
 . rename_i k off;split at hr
   . rename_i ty' cs0 hk';have hL:=h.locs k;rw[hk']at hL;obtain⟨b,vs,e,_,_,hblk,hcs⟩:=hL;obtain⟨b',e',hv⟩:=hx;rw[e]at e';cases e';obtain⟨g1,g2,_⟩:=Td hcs hr;have:=M8 hblk.cellsAt off ti.ty.size;rw[Nat.zero_add]at this;refine fin hv hblk.lt this g2 (out fun q ha ⟨T,cs,eq⟩ hrq=> ?_);simp only[apart,Bool.and_eq_true,Bool.not_eq_true']at ha;exact h.disj k q b (Nat.ne_of_beq_eq_false ha.1) (by rw[hk',e];rfl) (by rw[eq];exact hrq)
   . rename_i q t y hk';cases hqk:Nat.beq q k with
     |false=>simp only[hqk,cond_false]at hr;cases hr
     |true=>
      simp only[hqk,cond_true]at hr;have:=Nat.eq_of_beq_eq_true hqk;subst this;have hL:=h.locs q;rw[hk']at hL;obtain⟨_,⟨b,o,ec,e1,hz,hc,hrep⟩,_⟩:=hL;simp only[List.cons.injEq,and_true]at e1;obtain⟨b',e',hv⟩:=hx;rw[e1]at e';cases e';obtain⟨g1,g2,_⟩:=Td (O2 (B:=B) hrep) hr;have hcs:=M8 hc off ti.ty.size;rw[Nat.zero_add]at hcs;exact fin hv (h.zlt _ hz) hcs g2 (still hz)
   . cases hr
 . rename_i t y off;obtain⟨b,o,ec,hv,hz,hc,hrep⟩:=hx;obtain⟨g1,g2,_⟩:=Td (O2 (B:=B) hrep) hr;exact fin hv (h.zlt b hz) (M8 hc off _) g2 (still hz)
 . rename_i k sz i off;split at hr
   . rename_i t l hk';cases hsz:Nat.beq sz t.size with
     |false=>simp[hsz]at hr
     |true=>
      simp only[hsz,cond_true]at hr;have hs:=Nat.eq_of_beq_eq_true hsz;subst hs;obtain⟨e,xs,hown,heach⟩:=YX h hk';obtain⟨b,m,cap,hB,hi,hv⟩:=hx;rw[hB]at hown;have hm:m=l.length:=by
       rcases hown.2 with⟨hh,_⟩ | ⟨_,_,_,hh,_⟩<;>cases hh
       rfl
      subst hm;have hget:=G4.get (fun _ _ h=>C6.length h) heach (List.getElem?_eq_getElem hi);have hgd:l.getD i t.dflt=l[i]:=by rw[List.getD_eq_getElem?_getD,List.getElem?_eq_getElem hi];rfl
      rw[hgd]at hr;obtain⟨g1,g2,_⟩:=Td (O2 (B:=B) hget) hr;have hblt:=(World.ownsRow.lt hown b rfl).2;have hcells:K0 w ⟨b,0,none⟩ xs:=fun j v hj=>by
       rcases hown.2 with⟨hh,_⟩ | ⟨g,cap',cur,hh,_,hg,_,_,_,htk⟩
       . cases hh
       . cases hh;rw[L4,Nat.zero_add];simp only[World.cell?,hg];rw[<-htk,List.getElem?_take]at hj;split at hj
         . simpa using hj
         . cases hj
      have hsub:=M8 (M8 hcells (i*t.size) t.size) off ti.ty.size;rw[Nat.zero_add]at hsub;refine fin hv hblt hsub g2 (out fun q ha ⟨T,cs,eq⟩ hrq=> ?_);simp only[apart,Bool.and_eq_true,Bool.not_eq_true']at ha;obtain⟨ha,ha2⟩:=ha;refine h.disj k q b (Nat.ne_of_beq_eq_false ha) ?_ (by rw[eq];exact hrq);split at ha2
      . rename_i e;rw[e,hB];rfl
      . cases ha2
   . cases hr
 . cases hr
theorem VX {P:Program} {o:Oper} {n:G3->World->Prop} (h:M2 P all o n E w):M2 P all o (fun E' w'=>(∀x,o.dst≠some x->E' x=E x)/\n E' w') E w:=by
 have hu:∀v x,o.dst≠some x->RV E o.dst v x=E x:=fun v x hx=>by
  cases hd:o.dst with
  |none=>rfl
  |some d=>exact C1 _ _ _ _ fun e=>hx (by rw[hd,e])
 unfold M2 at h⊢;split
 . rename_i hw;simp only[hw,if_true]at h;generalize (execOp (Gw.ev E) o).run P w=r at*;cases r with
   |ok m w'=>
    cases m<;>simp only at h⊢
    case value v=>exact⟨hu _,h⟩
    case skip=>exact⟨hu _,h⟩
    case enter f args=>exact h.mono fun e w'' ⟨v,he,hn⟩=>⟨v,he,hu _,hn⟩
   |halt x w'=>exact h
 . rename_i hw;simp only[hw]at h;exact⟨hu _,h⟩
theorem VI {P:Program} {S:World->Prop} {o:Oper} {n:G3->World->Prop} (h:Qm P S all o n E w):Qm P S all o (fun E' w'=>(∀x,o.dst≠some x->E' x=E x)/\n E' w') E w:=by
 have hu:∀v x,o.dst≠some x->RV E o.dst v x=E x:=fun v x hx=>by
  cases hd:o.dst with
  |none=>rfl
  |some d=>exact C1 _ _ _ _ fun e=>hx (by rw[hd,e])
 rcases h with⟨h1,v,h2,h3⟩ | ⟨h1,h2⟩
 . exact .inl ⟨h1,v,h2,hu _,h3⟩
 . exact .inr ⟨h1,hu _,h2⟩
theorem NP {o:Oper} {i s:Nat} (hd:A5d all ts=true) (ho:all[i]? =some o) (hs:s∈ts):o.dst≠some s:=fun e=>by
 have:=List.all_eq_true.1 hd o (List.mem_of_getElem? ho);rw[e]at this;simp only[Bool.not_eq_true']at this;exact P9 this hs
end
structure K where
 n:St->Prop
 x:Nat->St->Prop
 r:St->Prop
def K.at (k:K):Exit->St->Prop
 | .normal=>k.n
 | .exit i=>k.x i
 | .ret=>k.r
 | _=>fun _=>False
structure An where
 join:List (Nat×CL):= []
 loop:List (Nat×CL):= []
 plan:List (Nat×List Nat×List Nat×Bool×Pl):= []
 bump:Nat:=0
 mv:List (Nat×List Nat):= []
 kp:List (Nat×List Nat):= []
def bR:Code->Option Nat
 | .region id _ _=>some id
 | .seq a b=>match bR a with
  |some i=>some i
  |none=>bR b
 | .cond _ a b=>match bR a with
  |some i=>some i
  |none=>bR b
 | .block _ c=>bR c
 | .loop c=>bR c
 | _=>none
def A3j (l:List (Nat×CL)):Option Nat->Option CL
 |some i=>Ah i l
 |none=>none
def A8s (A:CL) (st:St) (body:(St->Prop)->Prop) (rest:St->Prop):Prop:=
 ∃J:A.den->Prop,body (IW A st J)/\∀p,A.wf p->J p->rest (reflect A st p)
def A4a (A:CL) (st:St) (body:(St->Prop)->St->Prop):Prop:=
 match gath A st with
 |some (st1,p0)=>bif(A.rowL.all fun x=>Nat.blt x.1 st1.nx)&&(A.boxL.all fun x=>Nat.blt x.1 st1.nx)then
  (∃(I:A.den->Prop) (μ:A.den->Nat),I p0/\∀p,A.wf p->I p->body (IW A st1 fun p'=>I p'/\μ p'<μ p) (reflect A st1 p))else False
 |none=>False
def Kx (cx:Cx) (all:List Oper) (o:Oper) (k:St->Prop) (st:St):Prop:=
 match o.guard with
 |none=>match Tx cx st [] o.op with
  |some (φ,v)=>match o.dst with
   |some d=>TB φ (k (st.setS d v))
   |none=>False
  |none=>match o.op with
   | .load T x=>match o.dst with
    |some d=>(match UR cx st d T x with
     |some st'=>k st'
     |none=>False)
    |none=>False
   | _=>False
 |some (j,b)=>match(all[j]?).bind (·.dst)with
  |some t=>bif Oq st 20 t then(match o.dst with
   |some d=>bif !(Nat.beq t d)then(match Tx cx st (gctx st 20 t b) o.op with
    |some (φ, .one s)=>bif s.cs.all (A0a st.nx)then TB (A1w (ctxP st (gctx st 20 t b)) φ) (k (st.setS d (.cnd t b s)))else False
    |some _=>False
    |none=>match o.op with
     | .load T x=>(match UP cx st (gctx st 20 t b) t b d T x with
      |some st'=>k st'
      |none=>False)
     | _=>False)else False
   |none=>False)else False
  |none=>False
def LF (cx:Cx) (all:List Oper):List Nat->(St->Prop)->St->Prop
 | [],k=>k
 |j::r,k=>fun st=>match all[j]? with
  |some o=>bif !(fH o.op)&&A3a (UZ all j) (Ar all (j::r))then Kx cx all o (LF cx all r k) st else False
  |none=>False
def Q6 (cx:Cx) (sp:F3) (all:List Oper) (tails:List Nat) (n0:Nat) (nw:Bool) (ts:List Nat):Pl->Bool->Bool->(St->Prop)->St->Prop
 | .done,_,_,k=>k
 | .q i p,pre,t,k=>fun st=>match all[i]? with
  |some o=>bif(pre|| !nw)&&(ts.isEmpty||bM cx st ts o)then Kx cx all o (Q6 cx sp all tails n0 nw ts p pre t k) st else False
  |none=>False
 | .p i p,pre,t,k=>fun st=>match all[i]? with
  |some o=>bif !(fH o.op)then Kx cx all o (Q6 cx sp all tails n0 nw ts p pre t k) st else False
  |none=>False
 | .e i p,_,t,k=>fun st=>match all[i]? with
  |some o=>bif((t||tails.contains i) || !(SU sp st o) || (nw&&nT n0 st o.op) || (!nw&&bL cx sp st ts o))&&(!nw||YK sp n0 st o.op)then Uz cx sp all o (Q6 cx sp all tails n0 nw ts p false (t||tails.contains i) k) st else False
  |none=>False
 | .or i p q,pre,t,k=>fun st=>
  (match all[i]? with
  |some o=>bif((t||tails.contains i) || !(SU sp st o) || (nw&&nT n0 st o.op) || (!nw&&bL cx sp st ts o))&&(!nw||YK sp n0 st o.op)then Uz cx sp all o (Q6 cx sp all tails n0 nw ts p false (t||tails.contains i) k) st else False
  |none=>False)/\Q6 cx sp all tails n0 nw ts q pre t k st
 | .al is js p,_,t,k=>fun st=>bif jY all is js&&ts.isEmpty then CH cx all st is (LF cx all js (Q6 cx sp all tails n0 nw ts p false t k)) st else False
def pkO:Op->Bool
 | .move _=>true
 | .assign _=>true
 | .pick _ _ _=>true
 | .build _ _=>true
 | .nilCheck _=>true
 | .binOp _ _ _ _ _=>true
 | .unOp _ _ _=>true
 | .convert _ _ _=>true
 | .fieldAddr _ _ _=>true
 | .field _ _ _=>true
 | .indexAddr _ _ _=>true
 | .index _ _ _=>true
 | .extract _ _=>true
 | .slice _ _ _ _ _=>true
 | .makeFunc _ _ _=>true
 | .call ⟨.builtin .len,_,_⟩=>true
 | .call ⟨.builtin .max,_,_⟩=>true
 | .call ⟨.builtin .min,_,_⟩=>true
 | _=>false
def mY (all:List Oper) (heads tails:List Nat) (nw:Bool):Nat->Array Bool->Bool->Pl
 |0,_,_=> .done
 |n+1,l,pre=>
  let r:=Region.ready .any all.toArray l
  let pk:=fun i=>((all[i]?).map fun o=>pkO o.op).getD false
  match r.find? fun i=>Region.free .any all.toArray l i&& !tails.contains i&&(pk i|| (heads.contains i&&(pre|| !nw)))with
  |some i=>bif pk i then .p i (mY all heads tails nw n (l.setIfInBounds i true) pre)else .q i (mY all heads tails nw n (l.setIfInBounds i true) pre)
  |none=>match r.reverse with
   | []=> .done
   |i::r'=>r'.foldl (fun q j=> .or j (mY all heads tails nw n (l.setIfInBounds j true) false) q) (.e i (mY all heads tails nw n (l.setIfInBounds i true) false))
def A3v (all:List Oper) (heads tails:List Nat) (nw:Bool):Pl->Pl
 | .done=>mY all heads tails nw all.length (Array.replicate all.length false) true
 |p=>p
def mvB (st:St) (q:Nat):St:=match st.S q with
 | .one ⟨false,[.box k 0]⟩=>match st.L k with
  | .box T cs=>bif Nat.ble st.nm k then((st.setL k .none).newL (.box T cs)).setS q (one1 (.box st.nx 0))else st
  | _=>st
 | _=>st
def mvs (an:An) (id:Nat) (k:St->Prop):St->Prop:=match Ah id an.mv with
 |some qs=>fun st=>k (qs.foldl mvB st)
 |none=>k
def kpO (an:An) (id:Nat):List Nat:=(Ah id an.kp).getD []
def Cu (cx:Cx) (sp:F3) (an:An):Code->K->St->Prop
 | .skip,k=>k.n
 | .label _,k=>k.n
 | .region id ops draw,k=>fun st=>bif draw then(match Ah id an.plan with
  |some (heads,tails,nw,p0)=>let p:=A3v ops.toList heads tails nw p0;bif A3p ops.toList heads tails p&&cx.P.follows .mixedOrders&&A5d ops.toList (kpO an id)then Q6 cx sp ops.toList tails st.nx nw (kpO an id) p true false (mvs an id k.n) st else False
  |none=>False)else QZ cx sp ops.toList ops.toList k.n st
 | .seq a b,k=>fun st=>match A3j an.join (bR b)with
  |some A=>A8s A st (fun j=>Cu cx sp an a {k with n:=j} st) (Cu cx sp an b k)
  |none=>Cu cx sp an a {k with n:=Cu cx sp an b k} st
 | .cond c a b,k=>fun st=>match(st.ev [] c).bind FN with
  |some e=>(e=true->Cu cx sp an a k st)/\(e=false->Cu cx sp an b k st)
  |none=>False
 | .block id c,k=>Cu cx sp an c {k with x:=fun i st=>bif Nat.beq i id then k.n st else k.x i st}
 | .loop c,k=>fun st=>match A3j an.loop (bR c)with
  |some A=>A4a A st fun j=>Cu cx sp an c {k with n:=j}
  |none=>False
 | .exit i,k=>k.x i
 | .ret,k=>k.r
 | _,_=>fun _=>False
section
variable {za:Zn} {w0:World} {cx:Cx} {sp:F3} {an:An} {all:List Oper}
theorem Ub {o:Oper} {k k':St->Prop} {st:St} (h:Kx cx all o k st) (hk:∀st',C3 st st'->k st'->k' st'):Kx cx all o k' st:=by
 unfold Kx at h⊢;split at h
 . split at h
   . split at h
     . exact F4.2 ⟨(F4.1 h).1,hk _ (C3.setS _ _ _) (F4.1 h).2⟩
     . exact h
   . split at h
     . split at h
       . split at h
         . rename_i hl;exact hk _ (US hl) h
         . exact h
       . exact h
     . exact h
 . split at h
   . obtain⟨hf,h⟩:=B9 h;simp only[hf,cond_true];split at h
     . obtain⟨htd,h⟩:=B9 h;simp only[htd,cond_true];split at h
       . obtain⟨hrb,h⟩:=B9 h;simp only[hrb,cond_true];exact F4.2 ⟨(F4.1 h).1,hk _ (C3.setS _ _ _) (F4.1 h).2⟩
       . exact h
       . split at h
         . split at h
           . rename_i hl;exact hk _ (UQ hl) h
           . exact h
         . exact h
     . exact h
   . exact h
theorem RA:∀ {ls:List Nat} {k k':St->Prop} {st:St},LF cx all ls k st->(∀st',C3 st st'->k st'->k' st')->LF cx all ls k' st
 | [],_,_,st,h,hk=>hk st (C3.refl st) h
 |j::r,_,_,st,h,hk=>by
  simp only[LF]at h⊢;split at h
  . obtain⟨hp,h⟩:=B9 h;simp only[hp,cond_true];exact Ub h fun st1 e1 h1=>RA h1 fun st2 e2 h2=>hk st2 (e1.trans e2) h2
  . exact h
theorem Ap {tails:List Nat} {n0:Nat} {nw:Bool} {ts:List Nat} :∀ {p:Pl} {pre t:Bool} {k k':St->Prop} {st:St},Q6 cx sp all tails n0 nw ts p pre t k st->(∀st',C3 st st'->k st'->k' st')->Q6 cx sp all tails n0 nw ts p pre t k' st
 | .done,_,_,_,_,st,h,hk=>hk st (C3.refl st) h
 | .q i p,pre,t,_,_,st,h,hk=>by
  simp only[Q6]at h⊢;split at h
  . obtain⟨hp,h⟩:=B9 h;simp only[hp,cond_true]at h⊢;exact Ub h fun st1 e1 h1=>Ap h1 fun st2 e2 h2=>hk st2 (e1.trans e2) h2
  . exact h
 | .p i p,pre,t,_,_,st,h,hk=>by
  simp only[Q6]at h⊢;split at h
  . obtain⟨hp,h⟩:=B9 h;simp only[hp,cond_true];exact Ub h fun st1 e1 h1=>Ap h1 fun st2 e2 h2=>hk st2 (e1.trans e2) h2
  . exact h
 | .e i p,pre,t,_,_,st,h,hk=>by
  simp only[Q6]at h⊢;split at h
  . obtain⟨hp,h⟩:=B9 h;simp only[hp,cond_true];exact EG h fun st1 e1 h1=>Ap h1 fun st2 e2 h2=>hk st2 (e1.trans e2) h2
  . exact h
 | .or i p q,pre,t,_,_,st,h,hk=>by
  simp only[Q6]at h⊢;refine⟨?_,Ap h.2 hk⟩;have h:=h.1;split at h
  . obtain⟨hp,h⟩:=B9 h;simp only[hp,cond_true];exact EG h fun st1 e1 h1=>Ap h1 fun st2 e2 h2=>hk st2 (e1.trans e2) h2
  . exact h
 | .al is js p,pre,t,_,_,st,h,hk=>by
  simp only[Q6]at h⊢;obtain⟨hp,h⟩:=B9 h;simp only[hp,cond_true];exact QX h fun st1 e1 h1=>RA h1 fun st2 e2 h2=>Ap h2 fun st3 e3 h3=>hk st3 (e1.trans (e2.trans e3)) h3
theorem C3.told (A:CL) (st0:St) (p:A.den):C3 st0 (Vc.reflect A st0 p):=
 ⟨Nat.le_trans (Nat.le_succ _) (C3.reflect A st0 p).ct,fun _ h0 h1=>cP h0 h1,fun _ h0 h1=>YU h0 h1,(C3.reflect A st0 p).f.le (Nat.le_succ _)⟩
theorem C3.gath {A:CL} {st st1:St} {p:A.den} (h:gath A st=some (st1,p)):C3 st st1:=by
 simp only[Vc.gath,Option.bind_eq_bind,bind_some]at h;obtain⟨cs0,_,cs,_,tl,_,p',_,h⟩:=h;obtain⟨_,h⟩:=D7 h;cases h;exact(C3.plugL _ _).trans (C3.settleSh _ _ _)
theorem C3.mvB (st:St) (q:Nat):C3 st (Vc.mvB st q):=by
 unfold Vc.mvB;split
 . split
   . cases Nat.ble st.nm _ with
     |true=>exact(C3.setL ..).trans ((C3.newL ..).trans (C3.setS ..))
     |false=>exact C3.refl _
   . exact C3.refl _
 . exact C3.refl _
theorem C3.mvBs:∀(qs:List Nat) (st:St),C3 st (qs.foldl Vc.mvB st)
 | [],st=>C3.refl st
 |q::qs,st=>(C3.mvB st q).trans (C3.mvBs qs _)
theorem KG:∀ {c:Code} {k k':K} {st:St},Cu cx sp an c k st->(∀e st',C3 st st'->k.at e st'->k'.at e st')->Cu cx sp an c k' st:=by
 intro c
 induction c with
 |skip=>intro k k' st h hk;exact hk .normal st (C3.refl st) h
 |label l=>intro k k' st h hk;exact hk .normal st (C3.refl st) h
 |region id ops draw=>
  intro k k' st h hk;simp only[Cu]at h⊢;cases draw with
  |true=>
   simp only[cond_true]at h⊢;split at h
   . obtain⟨hp,h⟩:=B9 h;simp only[hp,cond_true];refine Ap h fun st' e hh=> ?_
     cases hf:Ah id an.mv with
     |none=>simp only[mvs,hf]at hh⊢;exact hk .normal st' e hh
     |some qs=>simp only[mvs,hf]at hh⊢;exact hk .normal _ (e.trans (C3.mvBs ..)) hh
   . exact h
  |false=>
   simp only[cond_false]at h⊢;exact LE h fun st' e=>hk .normal st' e
 |seq a b iha ihb=>
  intro k k' st h hk;simp only[Cu]at h⊢;split at h
  . rename_i A _;obtain⟨J,h1,h2⟩:=h;refine⟨J,iha h1 fun e st' ev hh=> ?_,fun p hw hJ=>ihb (h2 p hw hJ) fun e st' ev hh=> ?_⟩
    . cases e with
      |normal=>exact hh
      |exit i=>exact hk (.exit i) st' ev hh
      |ret=>exact hk .ret st' ev hh
      | _=>exact hh
    . exact hk e st' ((C3.told A st p).trans ev) hh
  . refine iha h fun e st1 e1 hh=> ?_
    cases e with
    |normal=>exact ihb hh fun e st2 e2 h2=>hk e st2 (e1.trans e2) h2
    |exit i=>exact hk (.exit i) st1 e1 hh
    |ret=>exact hk .ret st1 e1 hh
    | _=>exact hh
 |cond c a b iha ihb=>
  intro k k' st h hk;simp only[Cu]at h⊢;split at h
  . exact⟨fun e=>iha (h.1 e) hk,fun e=>ihb (h.2 e) hk⟩
  . exact h
 |block id c ih=>
  intro k k' st h hk;simp only[Cu]at h⊢;refine ih h fun e st' ev hh=> ?_
  cases e with
  |exit i=>
   simp only[K.at]at hh⊢;cases hb:Nat.beq i id with
   |true=>simp only[hb,cond_true]at hh⊢;exact hk .normal st' ev hh
   |false=>simp only[hb,cond_false]at hh⊢;exact hk (.exit i) st' ev hh
  |normal=>exact hk .normal st' ev hh
  |ret=>exact hk .ret st' ev hh
  | _=>exact hh
 |loop c ih=>
  intro k k' st h hk;simp only[Cu]at h⊢;split at h
  . rename_i A _;unfold A4a at h⊢;split at h
    . rename_i st1 p0 hg;obtain⟨hb,h⟩:=B9 h;simp only[hb,cond_true];obtain⟨I,μ,h0,h1⟩:=h;refine⟨I,μ,h0,fun p hw hI=>ih (h1 p hw hI) fun e st' ev hh=> ?_⟩;cases e with
      |normal=>exact hh
      |exit i=>exact hk (.exit i) st' ((C3.gath hg).trans ((C3.told A st1 p).trans ev)) hh
      |ret=>exact hk .ret st' ((C3.gath hg).trans ((C3.told A st1 p).trans ev)) hh
      | _=>exact hh
    . exact h
  . exact h
 |exit i=>intro k k' st h hk;exact hk (.exit i) st (C3.refl st) h
 |ret=>intro k k' st h hk;exact hk .ret st (C3.refl st) h
 | _=>intro k k' st h hk;exact h
theorem TO {A:CL} (hb0:za.b0=0) {st0 st:St} {J:A.den->Prop} {E:G3} {w:World} {Z:Nat->Prop} {B:Nat->Value} (h:C0 za w0 st E w Z B) (ha:IW A st0 J st) (pk:A1e za.n st0) (ev:C3 st0 st):∃p,A.wf p/\J p/\∃Z' B',C0 za w0 (reflect A st0 p) E w Z' B':=by
 unfold IW at ha;split at ha
 . rename_i st1 p hg;obtain⟨hk,ha⟩:=B9 ha;simp only[oO,Bool.and_eq_true,List.all_eq_true]at hk;obtain⟨⟨⟨k1,k2⟩,k3⟩,k5⟩:=hk;have e1:=ev.trans (C3.gath hg);have tm:∀ {n g:Nat},XQ n g=true->g≠0/\g<=n:=fun hh=>by
    simp only[XQ,Bool.and_eq_true]at hh;have a:=Nat.le_of_ble_eq_true hh.1;have b:=Nat.le_of_ble_eq_true hh.2;omega
   obtain⟨hw,Z',B',hr⟩:=iD hb0 h hg pk (fun s hs=>e1.s s (tm (k1 s hs)).1 (tm (k1 s hs)).2) (fun q hq=>e1.l q (tm (k2 q hq)).1 (tm (k2 q hq)).2) (fun y hy=>Wk (k3 y hy)) (e1.f.old k5);exact⟨p,hw,ha,Z',B',hr⟩
 . exact ha.elim
variable (hty:G9 cx.P cx.tys=true) (hsp:Ll cx.P sp)
include hty in
theorem Hk {S:World->Prop} {o:Oper} {k:St->Prop} {st:St} {E:G3} {w:World} {Z:Nat->Prop} {B:Nat->Value} (hS:∀w',S w'->(fH o.op=true->R2 w w')) (h:C0 za w0 st E w Z B) (hs:Kx cx all o k st):Qm cx.P S all o (Nx za w0 k) E w:=by
 obtain⟨dst,op,ty,pos,aft,gd⟩:=o;unfold Kx at hs;simp only at hs hS;split at hs
 . split at hs
   . rename_i φ v hp;split at hs
     . rename_i d;replace hs:=F4.1 hs;obtain⟨u,h1,h2,h3⟩:=Zw (ty:=ty) h hty (D5 E) hp hs.1;exact .inl ⟨rfl,u,fun w' hw'=>h1 w' (hS w' hw') _ _ _ _,_,_,_,h.setS d (h2 _) h3,hs.2⟩
     . exact hs.elim
   . split at hs
     . rename_i T x _;split at hs
       . rename_i d;split at hs
         . rename_i st' hl;obtain⟨u,B',h1,h2⟩:=bT (ty:=ty) h hty hl;exact .inl ⟨rfl,u,fun w' hw'=>h1 w' (hS w' hw' rfl) _ _ _ _,_,_,_,h2,hs⟩
         . exact hs.elim
       . exact hs.elim
     . exact hs.elim
 . rename_i j b;split at hs
   . rename_i t hj;have hfull:=(B9 hs).1;replace hs:=(B9 hs).2;split at hs
     . rename_i d;have htd':=(B9 hs).1;replace hs:=(B9 hs).2;have htd:t≠d:=Nat.ne_of_beq_eq_false (by simpa using htd');split at hs
       . rename_i φ s hp;obtain⟨hrb,hs⟩:=B9 hs;replace hs:=F4.1 hs;rw[bD]at hs;by_cases hw:E t= .bool b
         . have hctx:=h.gctx (n:=20) hw;obtain⟨u,h1,h2,h3⟩:=Zw (ty:=ty) h hty hctx hp (hs.1 (h.ctxP hctx));refine .inl ⟨GR hj hw,u,fun w' hw'=>h1 w' (hS w' hw') _ _ _ _,_,_,_,h.setS d (x:= .cnd t b s) (.inl ⟨?_,h2 E⟩) h3,hs.2⟩;rw[C1 _ _ _ _ htd];exact hw
         . have hoff:D4 all ⟨some d,op,ty,pos,aft,some (j,b)⟩ E=false:=by
            unfold D4 Ac;simp only[hj];cases hEt:E t with
            |bool b'=>simp only[beq_eq_false_iff_ne,ne_eq,Option.some.injEq];intro hh;exact hw (by rw[hEt,hh])
            | _=>rfl
           refine .inr ⟨hoff,_,_,_,h.setS d (x:= .cnd t b s) (.inr ⟨?_,rfl⟩) (fun c hc=>YT (List.all_eq_true.1 hrb c hc)),hs.2⟩;rw[C1 _ _ _ _ htd];exact hw
       . exact hs.elim
       . split at hs
         . rename_i T x _;split at hs
           . rename_i st1 hl;obtain⟨l1,l2⟩:=bS (ty:=ty) h hty htd hl;by_cases hw:E t= .bool b
             . obtain⟨u,B',h1,h2⟩:=l1 hw (h.gctx (n:=20) hw);exact .inl ⟨GR hj hw,u,fun w' hw'=>h1 w' (hS w' hw' rfl) _ _ _ _,_,_,_,h2,hs⟩
             . have hoff:D4 all ⟨some d, .load T x,ty,pos,aft,some (j,b)⟩ E=false:=by
                unfold D4 Ac;simp only[hj];cases hEt:E t with
                |bool b'=>simp only[beq_eq_false_iff_ne,ne_eq,Option.some.injEq];intro hh;exact hw (by rw[hEt,hh])
                | _=>rfl
               obtain⟨B',g2⟩:=l2 hw;exact .inr ⟨hoff,_,_,_,g2,hs⟩
           . exact hs.elim
         . exact hs.elim
     . exact hs.elim
   . exact hs.elim
theorem QS {P:Program} {S:World->Prop} {o:Oper} {n n':G3->World->Prop} {E:G3} {w:World} (h:Qm P S all o n E w) (hn:∀E',n E' w->n' E' w):Qm P S all o n' E w:=by
 rcases h with⟨h1,v,h2,h3⟩ | ⟨h1,h2⟩
 . exact .inl ⟨h1,v,h2,hn _ h3⟩
 . exact .inr ⟨h1,hn _ h2⟩
def RW (nw:Bool) (b0:Nat) (m:Nat->Prop) (w w':World):Prop:=bif nw then(Below b0 w w'/\True)else Ae m w w'
variable {m:Nat->Prop}
theorem RW.of {nw:Bool} {b0:Nat} {w w':World} (hb:b0<=w.heap.size) (h:R2 w w'):RW nw b0 m w w':=by
 cases nw with
 |true=>exact⟨⟨h.os,h.tape,h.output,h.size,fun k hk=>h.block k (Nat.lt_of_lt_of_le hk hb)⟩,h.drw⟩
 |false=>exact Ae.of h
theorem RW.refl (nw:Bool) (b0:Nat) (w:World):RW nw b0 m w w:=by
 cases nw with
 |true=>exact⟨Below.refl _ _,trivial⟩
 |false=>exact Ae.of (R2.refl _)
theorem RW.trans {nw:Bool} {b0:Nat} {a b c:World} (h:RW nw b0 m a b) (h':RW nw b0 m b c):RW nw b0 m a c:=by
 cases nw with
 |true=>exact⟨Below.trans h.1 h'.1,trivial⟩
 |false=>exact Ae.transM h h' fun _=> .inr
include hty hsp in
theorem jI {nw tl:Bool} {n0:Nat} {ts:List Nat} {E0:G3} {k:St->Prop} {o:Oper} {st:St} {E:G3} {w:World} {Z:Nat->Prop} {B:Nat->Value} (hk0:nw=true->za.k0=n0) (hb0:nw=false->za.b0=0) (h:C0 za w0 st E w Z B) (hE:∀s∈ts,E s=E0 s)
 (hm:((tl|| !(SU sp st o) || (nw&&nT n0 st o.op) || (!nw&&bL cx sp st ts o))&&(!nw||YK sp n0 st o.op))=true) (hs:Uz cx sp all o k st):M2 cx.P all o (fun E' w'=>(tl=true\/RW nw za.b0 (Tm E0 ts) w w')/\Nx za w0 k E' w') E w:=by
 simp only[Bool.and_eq_true,Bool.or_eq_true,Bool.not_eq_true']at hm;obtain⟨hm,hom⟩:=hm;have hmk:za.b0=0\/YK sp za.k0 st o.op=true:=by
  cases hn:nw with
  |false=>exact .inl (hb0 hn)
  |true=>rw[hn]at hom;exact .inr (by rw[hk0 hn];simpa using hom)
 rcases hm with((hm|hm) |hm) |hm
 . refine I7 ?_ (QY h hmk hty hsp hs);rintro E' w' ⟨_,n⟩;exact⟨.inl hm,n⟩
 . refine I7 ?_ (QY h hmk hty hsp hs);rintro E' w' ⟨hx,n⟩;exact⟨.inr (RW.of h.mrk.1 (hx hm)),n⟩
 . obtain⟨hnw,hm⟩:=hm;subst hnw;obtain⟨dst,op,ty,pos,aft,gd⟩:=o;have hfr:=hm;unfold nT at hm;split at hm
   . rename_i T p v heq;simp only at heq;subst heq;unfold Uz at hs;simp only at hs;cases gd with
     |none=>
      simp only[Tx]at hs;cases dst with
      |none=>
       simp only at hs;have hnm:DJ st (.store T p v)=false:=by
        rcases hom with hom|hom
        . cases hom
        . simp only[YK,Bool.and_eq_true,Bool.not_eq_true']at hom;exact hom.2
       rw[bY hnm]at hs;simp only at hs;split at hs
       . rename_i φ st' hst;refine I7 ?_ (VY h hty hst (F4.1 hs).1 (F4.1 hs).2 rfl);rintro E' w' ⟨hb,n⟩;exact⟨.inr (hb (by rw[hk0 rfl];exact hfr)),n⟩
       . exact hs.elim
      |some d=>exact hs.elim
     |some jb=>
      obtain⟨j,b⟩:=jb;simp only[Tx]at hs;split at hs
      . obtain⟨_,hs⟩:=B9 hs;split at hs
        . obtain⟨_,hs⟩:=B9 hs;exact hs.elim
        . exact hs.elim
      . exact hs.elim
   . cases hm
 . obtain⟨rfl,hm⟩:=hm;refine I7 ?_ (nA h hsp hm hs);rintro E' w' ⟨hx,n⟩;exact⟨.inr ⟨hx.os,hx.tape,hx.output,hx.size,fun b hb hnb=>hx.block b hb fun hh=>hnb (fC hE hh),trivial⟩,n⟩
include hty in
theorem dB {k:St->Prop} :∀ {js:List Nat},(∀j∈js,YR all j=true)->(Ar all js).Nodup->∀ {st:St} {E:G3} {w:World} {Z:Nat->Prop} {B:Nat->Value},C0 za w0 st E w Z B->LF cx all js k st->∃F,(∀x,x∉Ar all js->F x=E x)/\AlV cx.P all js F/\Nx za w0 k F w
 | [],_,_,st,E,w,Z,B,h,hs=>⟨E,fun _ _=>rfl,fun _ hj=>(by cases hj),st,Z,B,h,hs⟩
 |j::r,hpl,hnd,st,E,w,Z,B,h,hs=>by
  simp only[LF]at hs;simp only[Ar,List.map_cons]at hnd;obtain⟨n1,n2⟩:=List.nodup_cons.1 hnd;split at hs
  . rename_i o ho;obtain⟨hm,hs⟩:=B9 hs;simp only[Bool.and_eq_true,Bool.not_eq_true']at hm;obtain⟨hdst,hg,hns⟩:=Xm (hpl j List.mem_cons_self) ho;have hsub:=KL hm.2;have hq:=Hk (S:=fun _=>True) (all:=all) hty (fun w' _ hh=>by rw[hh]at hm;cases hm.1) h hs;have hwant:D4 all o E=true:=by simp[D4,hg]
    rcases hq with⟨_,v,hv,st1,Z1,B1,h1,hs1⟩ | ⟨hw,_⟩
    . rw[hdst]at h1;obtain⟨F,g1,g2,g3⟩:=dB (fun i hi=>hpl i (List.mem_cons_of_mem _ hi)) n2 h1 hs1;have hFj:F (Fe all j)=v:=by rw[g1 _ n1];exact A9 _ _ _
      refine⟨F,fun x hx=> ?_,fun i hi=> ?_,g3⟩
      . simp only[Ar,List.map_cons,List.mem_cons,not_or]at hx;rw[g1 x hx.2];exact C1 _ _ _ _ hx.1
      . rcases List.mem_cons.1 hi with rfl|hi
        . refine⟨o,ho,fun w'=> ?_⟩;rw[hFj,JB (E:=F) (E':=E) ho hns fun u hu=> ?_]
          . exact hv w' trivial
          . have hx:=hsub u hu;simp only[Ar,List.map_cons,List.mem_cons,not_or]at hx;rw[g1 u hx.2];exact C1 _ _ _ _ hx.1
        . exact g2 i hi
    . rw[hwant]at hw;cases hw
  . exact hs.elim
theorem RW.size {nw:Bool} {b0:Nat} {a b:World} (h:RW nw b0 m a b):a.heap.size<=b.heap.size:=by
 cases nw with
 |true=>exact h.1.size
 |false=>exact(show Ae m a b from h).size
include hty in
theorem lV {nw:Bool} {is js:List Nat} {k:St->Prop} {st:St} {E:G3} {w:World} {Z:Nat->Prop} {B:Nat->Value} (hst:jY all is js=true) (h:C0 za w0 st E w Z B) (hs:CH cx all st is (LF cx all js k) st):∃f X,mQ cx.P (RW nw za.b0 m) all is js f X (Nx za w0 k) E w:=by
 simp only[jY,Bool.and_eq_true,List.all_eq_true]at hst;obtain⟨⟨⟨s1,s2⟩,s3⟩,s4⟩:=hst;have s2:=(List.nodup_append.1 (Mc s2)).1;have s3:=Mc s3;have s3:(Ar all is++Ar all js).Nodup:=by simpa[Ar]using s3
 obtain⟨d1,d2,d3⟩:=List.nodup_append.1 s3;have hget:=VT hs;have hex:∀i,∃x:Obj×(Nat->Value),i∈is->∀o φ lc mk,all[i]? =some o->II cx st (Fe all i) o.op=some (φ,lc,mk)->(∀w',(execOp (ev E) o).run cx.P w'= .ok (.value (x.2 w'.heap.size)) (w'.alloc x.1))/\mU lc mk x.1 x.2:=fun i=>by
  by_cases hi:i∈is
  . obtain⟨o,φ,lc,mk,ho,ha,hφ⟩:=hget i hi;obtain⟨X,f,g1,g2⟩:=jZ h hty ha hφ;refine⟨(X,f),fun _ o' φ' lc' mk' ho' ha'=> ?_⟩;rw[ho]at ho';cases ho';rw[ha]at ha';cases ha';obtain⟨dst,op,ty,pos,aft,gd⟩:=o;exact⟨fun w'=>g1 ty w' _ _ _ _,g2⟩
  . exact⟨(.cells #[] 0 (0,0),fun _=>undef),fun hh=>absurd hh hi⟩
 obtain⟨g,hg⟩:=Classical.axiomOfChoice hex;refine⟨fun i=>(g i).2,fun i=>(g i).1,⟨fun i hi=> ?_,fun i hi w' hr=>RW.of (Nat.le_trans h.mrk.1 hr.size) (R2.alloc w' _),fun l hl=> ?_⟩⟩
 . obtain⟨o,φ,lc,mk,ho,ha,hφ⟩:=hget i hi;exact⟨o,ho,(hg i hi o φ lc mk ho ha).1⟩
 . have hln:l.Nodup:=hl.nodup_iff.2 s2;have hld:(Ar all l).Nodup:=(hl.map _).nodup_iff.2 d1;obtain⟨hx,bl,b1,b2⟩:=VO (f:=fun i=>(g i).2) (X:=fun i=>(g i).1) l E w hln hld;have h1:=h.more (Z':=Z) hx (fun _=>id) (fun _=> .inl);obtain⟨st1,B1,h2,h3⟩:=dA (f:=fun i=>(g i).2) (X:=fun i=>(g i).1) (bl:=bl) h1 (fun i hi o φ lc mk ho ha=>(hg i hi o φ lc mk ho ha).2) (fun i hi=>by
    obtain⟨c1,c2,c3⟩:=b1 i (hl.symm.subset hi);refine⟨c2,Nat.le_trans h.ext.size c1,fun hz=> ?_,Nat.le_trans h.mrk.1 c1,fun q hq=> ?_⟩
    . have:=h.zlt _ hz;omega
    . have:=((h.locs q).root (h.ft hx hq)).2.1;omega) (fun i hi j hj hne=>b2 i (hl.symm.subset hi) j (hl.symm.subset hj) hne) s2 hs
   have hE:gO all (fun i=>(g i).2) bl is E=(Ff all (fun i=>(g i).2) (fun i=>(g i).1) l E w).1:=funext fun x=>by
    by_cases hxm:x∈Ar all is
    . obtain⟨i,hi,e⟩:=M5.1 hxm;subst e;rw[dL d1 hi,(b1 i (hl.symm.subset hi)).2.2]
    . rw[EM hxm,Hi _ _ _ fun hm=>hxm ((hl.map _).subset hm)]
   rw[hE]at h2;exact dB hty (fun j hj=>s1 j (List.mem_append_right _ hj)) d2 h2 h3
include hty in
theorem A2v {nw:Bool} {ts:List Nat} {E0:G3} {o:Oper} {k:St->Prop} {st:St} {E:G3} {w:World} {Z:Nat->Prop} {B:Nat->Value} (hp:nw=true->za.b0=w.heap.size) (hE:∀s∈ts,E s=E0 s) (hkl:(ts.isEmpty||bM cx st ts o)=true) (h:C0 za w0 st E w Z B) (hs:Kx cx all o k st):Qm cx.P (RW nw za.b0 (Tm E0 ts) w) all o (Nx za w0 k) E w:=by
 cases nw with
 |true=>
  refine Hk hty (fun w' hw' _=> ?_) h hs;have hw':Below za.b0 w w'/\True:=hw';rw[hp rfl]at hw';exact⟨hw'.1,hw'.2⟩
 |false=>
  have hm:∀ {w':World},Ae (Tm E0 ts) w w'->Ae (Tm E ts) w w':=fun hx=>⟨hx.os,hx.tape,hx.output,hx.size,fun b hb hnb=>hx.block b hb fun⟨s,hs,hh⟩=>hnb ⟨s,hs,by rw[hE s hs];exact hh⟩,trivial⟩
  cases hts:ts.isEmpty with
  |true=>
   have:=List.isEmpty_iff.1 hts;subst this;exact Hk hty (fun w' hw' _=>Ae.ext (hm hw') fun b ⟨s,hs,_⟩=>by cases hs) h hs
  |false=>
   rw[hts,Bool.false_or]at hkl;obtain⟨dst,op,ty,pos,aft,gd⟩:=o;cases hmb:fH op with
   |false=>exact Hk hty (fun _ _ hh=>by rw[hmb]at hh;cases hh) h hs
   |true=>
    cases op<;>try (simp only[bM,hmb]at hkl;cases hkl)
    obtain⟨v,hv⟩:=oN h hty hkl;rcases Hk (S:=fun w'=>R2 w w') hty (fun w' hw' _=>hw') h hs with⟨h1,v',h2,h3⟩ | ⟨h1,h2⟩
    . refine .inl ⟨h1,v',fun w' hw'=> ?_,h3⟩;have e1:=h2 w (R2.refl w);have e2:=hv w (Ae.of (R2.refl w)) dst pos aft gd;rw[e2]at e1;cases e1;exact hv w' (hm hw') dst pos aft gd
    . exact .inr ⟨h1,h2⟩
include hty hsp in
theorem Cv {za0:Zn} {tails:List Nat} {n0:Nat} {nw:Bool} {ts:List Nat} {E0:G3} (hd:A5d all ts=true) {k:St->Prop} (hk0:nw=true->za.k0=n0) (hb0:nw=false->za.b0=0) (hun:∀ {st:St} {E:G3} {w:World} {Z:Nat->Prop} {B:Nat->Value},C0 za w0 st E w Z B->C0 za0 w0 st E w Z B):∀ {p:Pl} {pre t:Bool} {st:St} {E:G3} {w:World} {Z:Nat->Prop} {B:Nat->Value},(nw=true->pre=true->za.b0=w.heap.size)->(∀s∈ts,E s=E0 s)->C0 za w0 st E w Z B->Q6 cx sp all tails n0 nw ts p pre t k st->OQ cx.P (RW nw za.b0 (Tm E0 ts)) all tails (Nx za0 w0 k) p t E w
 | .done,_,_,_,_,_,_,_,_,hE,h,hs=>⟨_,_,_,hun h,hs⟩
 | .q i p,pre,t,st,E,w,Z,B,hp,hE,h,hs=>by
  simp only[Q6]at hs;split at hs
  . rename_i o ho;obtain⟨hpre,hs⟩:=B9 hs;simp only[Bool.and_eq_true]at hpre;obtain⟨hpre,hkl⟩:=hpre;refine⟨o,ho,QS (VI (A2v hty (fun hn=>hp hn (by rw[hn]at hpre;simpa using hpre)) hE hkl h hs)) ?_⟩;rintro E' ⟨hu,st',Z',B',h',hk⟩;exact Cv hd hk0 hb0 hun hp (fun s hs=>(hu s (NP hd ho hs)).trans (hE s hs)) h' hk
  . exact hs.elim
 | .p i p,pre,t,st,E,w,Z,B,hp,hE,h,hs=>by
  simp only[Q6]at hs;split at hs
  . rename_i o ho;obtain⟨hm,hs⟩:=B9 hs;refine⟨o,ho,QS (VI (Hk hty (fun w' _ hh=>by rw[hh]at hm;cases hm) h hs)) ?_⟩;rintro E' ⟨hu,st',Z',B',h',hk⟩;exact Cv hd hk0 hb0 hun hp (fun s hs=>(hu s (NP hd ho hs)).trans (hE s hs)) h' hk
  . exact hs.elim
 | .e i p,pre,t,st,E,w,Z,B,hp,hE,h,hs=>by
  simp only[Q6]at hs;split at hs
  . rename_i o ho;obtain⟨hm,hs⟩:=B9 hs;refine⟨o,ho,I7 ?_ (VX (jI hty hsp hk0 hb0 (tl:=t||tails.contains i) h hE hm hs))⟩;rintro E' w' ⟨hu,ht',st',Z',B',h',hk⟩;exact⟨ht',Cv hd hk0 hb0 hun (fun _ hh=>by cases hh) (fun s hs=>(hu s (NP hd ho hs)).trans (hE s hs)) h' hk⟩
  . exact hs.elim
 | .or i p q,pre,t,st,E,w,Z,B,hp,hE,h,hs=>by
  simp only[Q6]at hs;refine⟨?_,Cv hd hk0 hb0 hun hp hE h hs.2⟩;have hs:=hs.1;split at hs
  . rename_i o ho;obtain⟨hm,hs⟩:=B9 hs;refine⟨o,ho,I7 ?_ (VX (jI hty hsp hk0 hb0 (tl:=t||tails.contains i) h hE hm hs))⟩;rintro E' w' ⟨hu,ht',st',Z',B',h',hk⟩;exact⟨ht',Cv hd hk0 hb0 hun (fun _ hh=>by cases hh) (fun s hs=>(hu s (NP hd ho hs)).trans (hE s hs)) h' hk⟩
  . exact hs.elim
 | .al is js p,pre,t,st,E,w,Z,B,hp,hE,h,hs=>by
  simp only[Q6]at hs;obtain⟨hst,hs⟩:=B9 hs;simp only[Bool.and_eq_true,List.isEmpty_iff]at hst;obtain⟨hst,rfl⟩:=hst;obtain⟨f,X,hsem⟩:=lV (nw:=nw) hty hst h hs;refine⟨f,X,hsem.one,hsem.rel,fun l hl=> ?_⟩;obtain⟨F,f1,f2,st',Z',B',h',hk'⟩:=hsem.fin l hl;exact⟨F,f1,f2,Cv hd hk0 hb0 hun (fun _ hh=>by cases hh) (fun _ hh=>(by cases hh)) h' hk'⟩
theorem C0.marked {st:St} {E:G3} {w:World} {Z:Nat->Prop} {B:Nat->Value} (h:C0 za w0 st E w Z B):C0 {za with k0:=st.nx,b0:=w.heap.size} w0 st E w Z B:=
 ⟨h.ext,h.zlt,h.slots,h.locs,h.disj,h.refs,h.refl,h.fresh,h.bone,h.zin,h.nms,h.bfix,⟨Nat.le_refl _,fun k b hk hl=>by
  have:st.L k= .none:=h.fresh k hk;rw[this]at hl;exact hl.elim⟩,h.frs,h.frf⟩
theorem C0.unmark {k0 b0:Nat} (hb0:za.b0=0) {st:St} {E:G3} {w:World} {Z:Nat->Prop} {B:Nat->Value} (h:C0 {za with k0:=k0,b0:=b0} w0 st E w Z B):C0 za w0 st E w Z B:=
 ⟨h.ext,h.zlt,h.slots,h.locs,h.disj,h.refs,h.refl,h.fresh,h.bone,h.zin,h.nms,h.bfix,⟨by rw[hb0];exact Nat.zero_le _,fun k b _ _=>by rw[hb0];exact Nat.zero_le _⟩,h.frs,h.frf⟩
end
end Go.Vc
