/- Part. -/
import Derived.WalkKit
import Derived.ProofKit
import Derived.OpenShut
import Derived.Carry
import Derived.ChangeSlices
import Derived.ChangeSame
import Derived.Test.YtomjbooonannkaaGreatKED
set_option linter.all false
namespace Go.Vc
open Go Go.RowKit Go.Gw
section
variable {za:Zn} {w0:World} {cx:Cx} {sp:F3} {an:An}
theorem nX {A:CL} {st st1:St} {p:A.den} {E:G3} {w:World} {Z:Nat->Prop} {B:Nat->Value} (hb0:za.b0=0) (h:C0 za w0 st E w Z B) (hg:gath A st=some (st1,p)):∃Z',C0 za w0 st1 E w Z' B:=by
 simp only[Vc.gath,Option.bind_eq_bind,bind_some]at hg;obtain⟨cs0,_,cs,_,tl,_,p',_,hg⟩:=hg;obtain⟨_,hg⟩:=D7 hg;cases hg;obtain⟨Z0,h0⟩:=h.plugL hb0 (l:=A.rowL);exact C0.settleSh h0
theorem C0.mvB (hb0:za.b0=0) {st:St} {E:G3} {w:World} {Z:Nat->Prop} {B:Nat->Value} (h:C0 za w0 st E w Z B) (q:Nat):∃B',C0 za w0 (Vc.mvB st q) E w Z B':=by
 unfold Vc.mvB;split
 . rename_i k hq;split
   . rename_i T cs hk;cases hnm:Nat.ble st.nm k with
     |false=>exact⟨B,h⟩
     |true=>
      have hnm:=Nat.le_of_ble_eq_true hnm;have hkn:k<st.nx:=by
       by_cases hlt:k<st.nx
       . exact hlt
       . rw[h.fresh k (by omega)]at hk;cases hk
      have hl:=h.locs k;have hrl:=h.refl k;have hup:up za w0 k=up za w0 st.nx:=by
       funext b;have:=h.nms;refine propext ⟨fun hh=> ?_,fun hh=> ?_⟩<;>(rcases hh with hh|hh<;>first|exact .inl ⟨by omega,hh.2⟩ | (exfalso;omega))
      have hfo:∀b,A4 w (B k) (.box T cs) b->A4 w (B k) (st.L k) b:=fun b hb=>by rw[hk];exact hb
      rw[hk]at hl hrl;have hd:=h.drop k;have hnx:(st.setL k .none).nx=st.nx:=rfl;have h1:=hd.new (v:=B k) (lc:= .box T cs) (by
       rw[hnx, <-hup];obtain⟨b,vs,e1,e2,e3,e4,e5⟩:=hl;exact⟨b,vs,by rw[A9];exact e1,e2,e3,e4,e5.mono (n:=st.nx) (fun _=>id) (fun _ _=>rfl) (fun q hq=>C1 _ _ _ _ (Nat.ne_of_lt hq)) hrl⟩) (fun k' b hb hb'=>by
       rw[St.L_setL]at hb';split at hb'
       . exact hb'.elim
       . rename_i hne;exact h.disj k k' b (Ne.symm hne) (hfo b hb) hb') (Xn.le (Nat.le_succ _) hrl) (h.bone k) (fun b _ _=>by rw[hb0];exact Nat.zero_le _)
      refine⟨_,h1.setSame q ?_ ?_⟩
      . have hs:=h.slots q;rw[hq]at hs;obtain⟨v,vs',e,h2,h3⟩:=(show Cf w Z B [.box k 0] [E q]from hs);cases e;exact⟨_,_,rfl,(by
         obtain⟨b,e1,e2⟩:=h2;exact⟨b,by rw[hnx,A9];exact e1,e2⟩),h3⟩
      . intro c hc;cases List.mem_singleton.1 hc;exact Nat.lt_succ_self _
   . exact⟨B,h⟩
 . exact⟨B,h⟩
theorem C0.mvBs (hb0:za.b0=0):∀(qs:List Nat) {st:St} {E:G3} {w:World} {Z:Nat->Prop} {B:Nat->Value},C0 za w0 st E w Z B->∃B',C0 za w0 (qs.foldl Vc.mvB st) E w Z B'
 | [],_,_,_,_,B,h=>⟨B,h⟩
 |q::qs,_,_,_,_,_,h=>by
  obtain⟨B',h'⟩:=C0.mvB hb0 h q;exact C0.mvBs hb0 qs h'
def post (za:Zn) (w0:World) (k:K):Exit->G3->World->Prop:=fun e E w=>Nx za w0 (k.at e) E w
variable (hty:G9 cx.P cx.tys=true) (hsp:Ll cx.P sp)
include hty hsp in
theorem Pg (hb0:za.b0=0) {n:Nat} :∀ {c:Code} {k:K} {st:St} {E:G3} {w:World} {Z:Nat->Prop} {B:Nat->Value},C0 za w0 st E w Z B->Cu cx sp an c k st->Gw.Wp cx.P n c (post za w0 k) E w:=by
 intro c
 induction c with
 |skip=>intro k st E w Z B h hs _ a hr;exact wp_skip ⟨E,hr,st,Z,B,h,hs⟩
 |label l=>intro k st E w Z B h hs _ a hr;exact wp_label ⟨E,hr,st,Z,B,h,hs⟩
 |exit i=>intro k st E w Z B h hs _ a hr;exact wp_exit ⟨E,hr,st,Z,B,h,hs⟩
 |ret=>intro k st E w Z B h hs _ a hr;exact wp_ret ⟨E,hr,st,Z,B,h,hs⟩
 |region id ops draw=>
  intro k st E w Z B h hs hok a hr;simp only[V3]at hok;simp only[Cu]at hs;have hops:ops=ops.toList.toArray:=by simp
  cases draw with
  |false=>
   simp only[cond_false]at hs;rw[hops];refine wp_region ?_;have:=EC (P:=cx.P) (Q:=post za w0 k) hok ops.toList 0 (by simp) a E w hr (VU hb0 hty hsp h hs);simpa[List.range_eq_range']using this
  |true=>
   simp only[cond_true]at hs;split at hs
   . rename_i heads tails nw p0 _;generalize A3v ops.toList heads tails nw p0=p at hs;obtain⟨hp,hs⟩:=B9 hs;simp only[Bool.and_eq_true]at hp;obtain⟨⟨hp,hm⟩,hkd⟩:=hp;simp only[A3p,Bool.and_eq_true]at hp;refine wp_mono (Q:=AT n (post za w0 {k with n:=mvs an id k.n})) ?_ (fun e a' w' hq=> ?_)
     rotate_left
     . obtain⟨E',hr',st',Z',B',h',hq⟩:=hq;cases e with
       |normal=>
        change mvs an id k.n st' at hq;cases hf:Ah id an.mv with
        |none=>simp only[mvs,hf]at hq;exact⟨E',hr',st',Z',B',h',hq⟩
        |some qs=>
         simp only[mvs,hf]at hq;obtain⟨B2,h2⟩:=C0.mvBs hb0 qs h';exact⟨E',hr',_,Z',B2,h2,hq⟩
       |exit i=>exact⟨E',hr',st',Z',B',h',hq⟩
       |ret=>exact⟨E',hr',st',Z',B',h',hq⟩
       | _=>exact hq.elim
     rw[hops];refine wp_region_any hm (SN (S:=fun _=>True) (tails:=tails) _ _ _ _ ?_);have hnone:I2 tails (Array.replicate ops.toList.length false)=false:=by
      unfold I2;rw[List.any_eq_false];intro x _;simp only[Array.getD_eq_getD_getElem?,Array.getElem?_replicate];split<;>simp
     have h1:=h.more (Z':=Z) (w':=w.drew) (R2.refl w).drew (fun _ h=>h) (fun _=> .inl);have fin:∀b0,OQ cx.P (RW nw b0 (Tm E (kpO an id))) ops.toList tails (Nx za w0 (mvs an id k.n)) p false E w.drew->X7 cx.P ops.toList.toArray (AT n (post za w0 {k with n:=mvs an id k.n})) (RW nw b0 (Tm E (kpO an id)) w.drew) tails ops.toList.length (Array.replicate ops.toList.length false) a w.drew:=fun b0 hd=>
      nJ (P:=cx.P) (R:=RW nw b0 (Tm E (kpO an id))) (RW.refl nw _) (fun a b=>a.trans b) (Q:=post za w0 {k with n:=mvs an id k.n}) hok hp.1.1 hp.1.2 (fun c E w hh=>by obtain⟨_,_,_,_,hh⟩:=hh;exact hh) p ops.toList.length _ none hp.2 ⟨aH _ _,fun ht=>by rw[hnone]at ht;cases ht⟩ false hnone.symm a E w.drew hr (fun _ hh=>by cases hh) hd
     cases nw with
     |true=>
      have:=fin _ (Cv (za0:=za) (nw:=true) hty hsp (n0:=st.nx) hkd (fun _=>rfl) (fun hh=>by cases hh) (fun h=>h.unmark hb0) (fun _ _=>rfl) (fun _ _=>rfl) h1.marked hs);simpa using Jd (S':=fun _=>True) (fun _ _=>trivial) _ _ _ _ this
     |false=>
      have:=fin _ (Cv (za0:=za) (nw:=false) hty hsp (n0:=st.nx) hkd (fun hh=>by cases hh) (fun _=>hb0) (fun h=>h) (fun hh=>by cases hh) (fun _ _=>rfl) h1 hs);simpa using Jd (S':=fun _=>True) (fun _ _=>trivial) _ _ _ _ this
   . exact hs.elim
 |seq a b iha ihb=>
  intro k st E w Z B h hs hok act hr;simp only[V3,Bool.and_eq_true]at hok;simp only[Cu]at hs;split at hs
  . rename_i A _;obtain⟨J,h1,h2⟩:=hs;have h1':=KG (k':= {n:=fun st'=>C3 st st'/\IW A st J st',x:=k.x,r:=k.r}) h1 (fun e st' ev hh=>by
     cases e with
     |normal=>exact⟨ev,hh⟩
     |exit i=>exact hh
     |ret=>exact hh
     | _=>exact hh)
    refine wp_seq (wp_mono (iha h h1' hok.1 act hr) ?_);rintro e a' w' ⟨E',hr',st',Z',B',h',hq⟩;cases e with
    |normal=>
     obtain⟨p,hw,hJ,Z2,B2,h3⟩:=TO hb0 h' hq.2 h.pure hq.1;exact ihb h3 (h2 p hw hJ) hok.2 a' hr'
    |exit i=>exact⟨E',hr',st',Z',B',h',hq⟩
    |ret=>exact⟨E',hr',st',Z',B',h',hq⟩
    | _=>exact hq.elim
  . refine wp_seq (wp_mono (iha h hs hok.1 act hr) ?_);rintro e a' w' ⟨E',hr',st',Z',B',h',hq⟩;cases e with
    |normal=>exact ihb h' hq hok.2 a' hr'
    |exit i=>exact⟨E',hr',st',Z',B',h',hq⟩
    |ret=>exact⟨E',hr',st',Z',B',h',hq⟩
    | _=>exact hq.elim
 |cond c x y ihx ihy=>
  intro k st E w Z B h hs hok act hr;simp only[V3,Bool.and_eq_true]at hok;simp only[Cu]at hs;split at hs
  . rename_i e he;obtain⟨s,hs1,hs2⟩:=bind_some.1 he;have hv:=Lq (h.ev (D5 E) hs1).1 hs2;refine wp_cond (t:=e) (by rw[hr.ev];exact hv) ?_;cases e with
    |true=>exact ihx h (hs.1 rfl) hok.1 act hr
    |false=>exact ihy h (hs.2 rfl) hok.2 act hr
  . exact hs.elim
 |block id c ih=>
  intro k st E w Z B h hs hok act hr;refine wp_block (wp_mono (ih h hs hok act hr) ?_);rintro e a' w' ⟨E',hr',st',Z',B',h',hq⟩;cases e with
  |normal=>exact⟨E',hr',st',Z',B',h',hq⟩
  |ret=>exact⟨E',hr',st',Z',B',h',hq⟩
  |exit j=>
   simp only[Exit.inBlock];simp only[K.at]at hq;by_cases hj:j=id
   . subst hj;simp only[if_true];simp at hq;exact⟨E',hr',st',Z',B',h',hq⟩
   . simp only[hj,if_false];rw[E6 hj]at hq;exact⟨E',hr',st',Z',B',h',hq⟩
  | _=>exact hq.elim
 |loop c ih=>
  intro k st E w Z B h hs hok act hr;simp only[V3]at hok;simp only[Cu]at hs;split at hs
  . rename_i A _;unfold A4a at hs;split at hs
    . rename_i st1 p0 hg;obtain⟨hb,hs⟩:=B9 hs;simp only[Bool.and_eq_true,List.all_eq_true]at hb;obtain⟨I,μ,h0,h1⟩:=hs;obtain⟨Z1,hr1⟩:=nX hb0 h hg;obtain⟨hwf,Z2,B2,h2⟩:=iD hb0 h hg hr1.pure (fun _ _=>rfl) (fun _ _=>rfl) (fun y hy=>Wk (hb.1 y hy)) rfl;refine wp_loop_ghost (fun m a w=>∃p E',μ p=m/\Gw.C6 n a E'/\A.wf p/\I p/\∃Z B,C0 za w0 (reflect A st1 p) E' w Z B) (μ p0) ⟨p0,E,rfl,hr,hwf,h0,Z2,B2,h2⟩ ?_;rintro m a w ⟨p,E',hmu,hrep,hw,hI,Z3,B3,h3⟩;have h4:=KG (k':= {n:=fun st'=>C3 (reflect A st1 p) st'/\IW A st1 (fun p'=>I p'/\μ p'<μ p) st',x:=k.x,r:=k.r}) (h1 p hw hI) (fun e st' ev hh=>by
       cases e with
       |normal=>exact⟨ev,hh⟩
       |exit i=>exact hh
       |ret=>exact hh
       | _=>exact hh)
      refine wp_mono (ih h3 h4 hok a hrep) ?_;rintro e a' w' ⟨E'',hr',st',Z',B',h',hq⟩;cases e with
      |normal=>
       obtain⟨p',hw',hJ,Z5,B5,h5⟩:=TO hb0 h' hq.2 hr1.pure ((C3.told A st1 p).trans hq.1);exact⟨μ p',by have:=hJ.2;omega,p',E'',rfl,hr',hw',hJ.1,Z5,B5,h5⟩
      |exit j=>exact⟨E'',hr',st',Z',B',h',hq⟩
      |ret=>exact⟨E'',hr',st',Z',B',h',hq⟩
      | _=>exact hq.elim
    . exact hs.elim
  . exact hs.elim
 | _=>intro k st E w Z B h hs;exact hs.elim
end
abbrev Jk (α:Type):List α:= []
def Xo (cx:Cx) (st:St):List ResultVar->Option (List SV)
 | []=>some []
 | .tmp t::r=>match st.S t with
  | .one s=>(Xo cx st r).map (s:: ·)
  | _=>none
 | .cell a T::r=>do
  let ti<-cx.ti T
  match st.S a with
  | .one ⟨false,[.box k 0]⟩=>match st.L k with
   | .box _ cs=>bif Nat.beq cs.length ti.ty.size then(Xo cx st r).map (⟨ti.agg,cs⟩:: ·)else none
   | _=>none
  | _=>none
def settleR:St->List RT->List SV->St
 |st, .val _ _::rs,s::ss=>settleR (settle st s.cs) rs ss
 |st, .own _ _::rs,_::ss=>settleR st rs ss
 |st, .obox _ _::rs,s::ss=>settleR (match c1 s with
  |some (.box k 0)=>(match st.L k with
   | .box _ cs=>settle st cs
   | _=>st)
  | _=>st) rs ss
 |st, .rows _ _ _::rs,_::ss=>settleR st rs ss
 |st,_,_=>st
def CF (st:St):(rs:List RT)->List SV->Option (Ef rs)
 | [],[]=>some ()
 | .val a t::rs,s::ss=>(Gq a t s).bind fun x=>(CF st rs ss).map fun y=>(x,y)
 | .own t e::rs,s::ss=>((c1 s).bind (KD st t e)).bind fun x=>(CF st rs ss).map fun y=>(x,y)
 | .obox T t::rs,s::ss=>((TR s).bind fun k=>bif Nat.ble st.nm k then aE st T t k else none).bind fun x=>(CF st rs ss).map fun y=>(x,y)
 | .rows t e e'::rs,s::ss=>((Rx s).bind fun k=>bif Nat.ble st.nm k then rowsAt st t e e' k else none).bind fun x=>(CF st rs ss).map fun y=>(x,y)
 | _,_=>none
def Bp:List RT->List SV->List Nat
 | .own _ _::rs,⟨false,[.row k]⟩::ss=>k::Bp rs ss
 | .obox _ _::rs,⟨false,[.box k 0]⟩::ss=>k::Bp rs ss
 | .rows _ _ _::rs,⟨false,[.row k]⟩::ss=>k::Bp rs ss
 | _::rs,_::ss=>Bp rs ss
 | _,_=> []
def settleM:St->List AM->Nat->St
 |st, .box _ _::r,j=>settleM (match st.L j with| .box _ cs=>settle st cs| _=>st) r (j+1)
 |st, .row _ _::r,j=>settleM st r (j+1)
 |st, .val _ _::r,j=>settleM st r j
 |st, .fn _ _ _::r,j=>settleM st r j
 |st, .rows _ _ _::r,j=>settleM st r (j+1)
 |st,[],_=>st
def TD (st:St):(as:List AM)->Nat->Option (Rr as)
 | [],_=>some ()
 | .row t e::r,j=>(GX st t e j).bind fun x=>(TD st r (j+1)).map fun y=>(x,y)
 | .box T t::r,j=>(aE st T t j).bind fun x=>(TD st r (j+1)).map fun y=>(x,y)
 | .val _ _::r,j=>TD st r j
 | .fn _ _ _::r,j=>TD st r j
 | .rows t e e'::r,j=>(rowsAt st t e e' j).bind fun x=>(TD st r (j+1)).map fun y=>(x,y)
def A3n:AM->Bool
 | .row t _=>Lt t
 | .rows t _ _=>Lt t
 | .box _ t=>Lt t
 | _=>true
def A4s (s:A8) (x:A2 s.args) (r:Ef s.res) (o:Rr s.args):Prop:=bif O7 s.args then s.post x r/\s.mpost x r o else s.post x r
def fin (cx:Cx) (s:A8) (vars:List ResultVar) (x:A2 s.args) (st:St):Prop:=
 match Xo cx st vars with
 |some ss=>match Xo cx (settleM (settleR st s.res ss) s.args 0) vars with
  |some ss1=>match CF (settleM (settleR st s.res ss) s.args 0) s.res ss1,TD (settleM (settleR st s.res ss) s.args 0) s.args 0 with
   |some r,some o=>bif(Xe (Bp s.res ss1)&&Mn s.res)&&(s.shared|| (s.res.all hY&&s.args.all A3n))then A4s s x r o else False
   | _,_=>False
  |none=>False
 |none=>False
def Gl (P:Program):(as:List AM)->A2 as->Nat->Nat->List (Nat×Nat×DV)
 | [],_,_,_=> []
 | .val a t::r,x,i,j=>(i,1, .one ⟨a,explode t x.1⟩)::Gl P r x.2 (i+1) j
 | .row _ _::r,x,i,j=>(i,1, .one ⟨false,[.row j]⟩)::Gl P r x.2 (i+1) (j+1)
 | .box _ _::r,x,i,j=>(i,1, .one ⟨false,[.box j 0]⟩)::Gl P r x.2 (i+1) (j+1)
 | .rows _ _ _::r,x,i,j=>(i,1, .one ⟨false,[.row j]⟩)::Gl P r x.2 (i+1) (j+1)
 | .fn as' ra' r'::r,x,i,j=>(i,1, .one ⟨false,[.fv P as' ra' r' x.1.1 x.1.2]⟩)::Gl P r x.2 (i+1) j
def Dq:(as:List AM)->A2 as->Nat->List (Nat×Nat×LC)
 | [],_,_=> []
 | .val _ _::r,x,j=>Dq r x.2 j
 | .fn _ _ _::r,x,j=>Dq r x.2 j
 | .row t e::r,x,j=>(j,1, .row t e x.1)::Dq r x.2 (j+1)
 | .box T t::r,x,j=>(j,1, .box T (explode t x.1))::Dq r x.2 (j+1)
 | .rows t e e'::r,x,j=>(j,1, .rows t e e' x.1 [] none)::Dq r x.2 (j+1)
def Jj:List AM->Nat
 | []=>0
 | .row _ _::r=>Jj r+1
 | .box _ _::r=>Jj r+1
 | .rows _ _ _::r=>Jj r+1
 | .val _ _::r=>Jj r
 | .fn _ _ _::r=>Jj r
def PK (P:Program) (as:List AM) (x:A2 as):St:=⟨Gl P as x 0 0,Dq as x 0,Jj as,1,Jj as,[]⟩
def A5y (cx:Cx) (sp:F3) (an:An) (s:A8) (vars:List ResultVar) (c:Code) (x:A2 s.args):Prop:=
 Cu cx sp an c ⟨fin cx s vars x,fun _ _=>False,fin cx s vars x⟩ (PK cx.P s.args x)
section
variable {za:Zn} {w0 w:World} {Z:Nat->Prop} {B:Nat->Value} {st:St} {E:G3} {cx:Cx} {sp:F3} {an:An}
def TE (tmps:Array Value):ResultVar->Sem Value
 | .tmp t=>pure (tmps.getD t undef)
 | .cell a t=>do loadVar t (<-asAddr (tmps.getD a undef))
theorem Xp (hty:G9 cx.P cx.tys=true) (h:C0 za w0 st E w Z B) {tmps:Array Value} (ht:∀t,tmps.getD t undef=E t):∀ {vars:List ResultVar} {ss:List SV},Xo cx st vars=some ss->∃vs,(vars.mapM (TE tmps)).run cx.P w= .ok vs w/\Oj w Z B ss vs
 | [],ss,hs=>by cases hs;exact⟨[],rfl,rfl⟩
 | .tmp t::r,ss,hs=>by
  simp only[Xo]at hs;split at hs
  . rename_i s hd;simp only[Option.map_eq_some_iff]at hs;obtain⟨ss',hs',rfl⟩:=hs;obtain⟨vs,h1,h2⟩:=Xp hty h ht hs';have hsl:=h.slots t;rw[hd]at hsl;refine⟨E t::vs, ?_,E t,vs,rfl,hsl,h2⟩;rw[List.mapM_cons];simp only[TE,ht,Sem.run_bind,Sem.run_pure,Result.andThen_ok,h1]
  . cases hs
 | .cell a T::r,ss,hs=>by
  simp only[Xo,Option.bind_eq_bind,bind_some]at hs;obtain⟨ti,hti,hs⟩:=hs;split at hs
  . rename_i k hd;split at hs
    . rename_i T' cs hk;obtain⟨hb,hs⟩:=D7 hs;simp only[Option.map_eq_some_iff]at hs;obtain⟨ss',hs',rfl⟩:=hs;obtain⟨vs,h1,h2⟩:=Xp hty h ht hs';have hlen:=Nat.eq_of_beq_eq_true hb;have hsl:=h.slots a;rw[hd]at hsl;obtain⟨_,_,e1,⟨b,e2,e3⟩,_⟩:=hsl;cases e1;have hL:=h.locs k;rw[hk]at hL;obtain⟨b',us,e4,_,_,hblk,hcs⟩:=hL;rw[e2]at e4;cases e4;have hul:us.toList.length=ti.ty.size:=by rw[<-hlen,hcs.len]
      rcases(K9 (B4 hty hti)).2.1 with⟨ha,hag⟩ | ⟨ha,hsc,hs1⟩
      . refine⟨.agg us.toList.toArray::vs, ?_,_,vs,rfl,by rw[ha];exact⟨us.toList,rfl,hcs⟩,h2⟩;obtain⟨g1,g2⟩:=Qn (P:=cx.P) (w:=w) hag;have g3:=run_loadCells_list (P:=cx.P) (w:=w) ⟨b,0,none⟩ us.toList hblk.cellsAt;rw[hul]at g3;unfold loadCells at g3;rw[List.mapM_cons];simp[TE,ht,e3,asAddr,loadVar,g1,g2,g3,h1,go_sem]
      . rw[hs1]at hul
        match hus:us.toList,hul with
        | [u],_=>
         rw[hus]at hcs;have hcell:w.cell? ⟨b,0,none⟩=some u:=by
          have:=hblk.cellsAt 0 u (by rw[hus];rfl);rwa[L4]at this
         refine⟨u::vs, ?_,u,vs,rfl,by rw[ha];exact hcs,h2⟩;have g1:=Dn (P:=cx.P) (w:=w) hsc;rw[List.mapM_cons];simp[TE,ht,e3,asAddr,loadVar,g1,hcell,h1,go_sem]
    . cases hs
  . cases hs
theorem C0.settleR:∀ {rs:List RT} {ss:List SV} {st:St} {Z:Nat->Prop},C0 za w0 st E w Z B->∃Z',C0 za w0 (settleR st rs ss) E w Z' B
 | .val _ _::rs,s::ss,st,Z,h=>by
  obtain⟨Z1,h1⟩:=h.settle s.cs;exact C0.settleR (rs:=rs) (ss:=ss) h1
 | .own _ _::rs,_::ss,st,Z,h=>C0.settleR (rs:=rs) (ss:=ss) h
 | .obox _ _::rs,s::ss,st,Z,h=>by
  simp only[Vc.settleR];split
  . split
    . obtain⟨Z1,h1⟩:=h.settle _;exact C0.settleR (rs:=rs) (ss:=ss) h1
    . exact C0.settleR (rs:=rs) (ss:=ss) h
  . exact C0.settleR (rs:=rs) (ss:=ss) h
 | [],_,st,Z,h=>⟨Z,h⟩
 | .val _ _:: _,[],st,Z,h=>⟨Z,h⟩
 | .own _ _:: _,[],st,Z,h=>⟨Z,h⟩
 | .obox _ _:: _,[],st,Z,h=>⟨Z,h⟩
 | .rows _ _ _::rs,_::ss,st,Z,h=>C0.settleR (rs:=rs) (ss:=ss) h
 | .rows _ _ _:: _,[],st,Z,h=>⟨Z,h⟩
theorem Ml (h:C0 za w0 st E w Z B) {Zn:Nat->Prop} (hzn:∀b,Zn b->Z b):∀ {rs:List RT} {ss:List SV} {vs:List Value} {r:Ef rs},((∀b,Z b->Zn b)\/rs.all hY=true)->Oj w Z B ss vs->CF st rs ss=some r->(Bp rs ss).Nodup->Mn rs=true->
 Qw w0.heap.size w Zn rs vs r/\∀u∈W3 rs vs,∀b,root u=some b->∃k∈Bp rs ss,A4 w (B k) (st.L k) b
 | [],[],vs,_,_,hr,_,_,_=>⟨hr,fun u hu=>by simp[W3]at hu⟩
 | [],_:: _,_,_,_,_,hp,_,_=>by cases hp
 | .val _ _:: _,[],_,_,_,_,hp,_,_=>by cases hp
 | .own _ _:: _,[],_,_,_,_,hp,_,_=>by cases hp
 | .obox _ _:: _,[],_,_,_,_,hp,_,_=>by cases hp
 | .rows _ _ _:: _,[],_,_,_,_,hp,_,_=>by cases hp
 | .rows t e0 e1::rs,s::ss,_,r,hf,⟨v,vs',e,h1,h2⟩,hp,hn,hrf=>by
  simp only[CF,bind_some,Option.map_eq_some_iff]at hp;obtain⟨l,⟨q,hq,hl⟩,y,hy,rfl⟩:=hp;subst e;obtain⟨hnm,hl⟩:=D7 hl;have hqn:=Nat.le_of_ble_eq_true hnm;have hcs:s=⟨false,[.row q]⟩:=by
   unfold Rx at hq;split at hq
   . cases hq;rfl
   . cases hq
  subst hcs;obtain⟨_,_,e2,hvq,_⟩:=h1;cases e2;have hvq:v=B q:=hvq;subst hvq;obtain⟨al,hqL⟩:=Y3 hl;have hL:=h.locs q;rw[hqL]at hL;have hR:=hL.rowsR;have hfq:∀b,A4 w (B q) (.rows t e0 e1 l [] none) b->A4 w (B q) (st.L q) b:=fun b hb=>by rw[hqL];exact(V6 fun _ _=>rfl).1 hb
  simp only[Mn,Av,Qi,Bool.and_eq_true,Bool.not_true,Bool.false_or,Bool.not_eq_true']at hrf;obtain⟨⟨r1,r2⟩,r3⟩:=hrf;have hid:Bp (.rows t e0 e1::rs) (⟨false,[.row q]⟩::ss)=q::Bp rs ss:=rfl;rw[hid]at hn⊢;have hn':=List.nodup_cons.1 hn;obtain⟨g1,g2⟩:=Ml h hzn (hf.imp id fun hh=>by simp only[List.all_cons,Bool.and_eq_true]at hh;exact hh.2) h2 hy hn'.2 r3;have hRn:Bt w Zn t e0 e1 (B q) l:=by
   obtain⟨xs,o1,o2,o3,o4⟩:=hR;refine⟨xs,o1,fun i a x ha hx=>(o2 i a x ha hx).imp fun ys hy=>⟨hy.1, ?_⟩,o3,o4⟩;rcases hf with hf|hf
   . exact hy.2.mono fun _ _=>C6.mono hf (fun _ _=>rfl)
   . simp only[List.all_cons,Bool.and_eq_true]at hf;exact hy.2.mono fun _ _ hh=>C6.flat hf.1 hh
  refine⟨⟨B q,vs',rfl,⟨hRn,fun b hb=> ?_⟩,fun _=>⟨⟨r1,fun _=>r2⟩,fun b hb u hu=>by rw[Tu r2]at hu;cases hu⟩,g1⟩,fun u hu b hb=> ?_⟩
  . obtain⟨a1,a2,a3⟩:=(h.locs q).root (hfq b hb);refine⟨?_,fun hz=>a3 (hzn b hz),a2⟩;rcases a1 with a1|a1
    . exact a1.2
    . have:=h.nms.1;omega
  . simp only[W3,List.mem_cons]at hu;rcases hu with rfl|hu
    . exact⟨q,by simp,hfq b (.inl hb)⟩
    . obtain⟨k,hk,r⟩:=g2 u hu b hb;exact⟨k,List.mem_cons_of_mem _ hk,r⟩
 | .val a t::rs,s::ss,_,r,hf,⟨v,vs',e,h1,h2⟩,hp,hn,hrf=>by
  simp only[Mn,Bool.and_eq_true]at hrf;obtain⟨hr1,hr2⟩:=hrf;simp only[CF,bind_some,Option.map_eq_some_iff]at hp;obtain⟨x,hx,y,hy,rfl⟩:=hp;have hid:Bp (.val a t::rs) (s::ss)=Bp rs ss:=by
   obtain⟨sa,sc⟩:=s;simp only[Bp]
  rw[hid]at hn⊢;obtain⟨g1,g2⟩:=Ml h hzn (hf.imp id fun hh=>by simp only[List.all_cons,Bool.and_eq_true]at hh;exact hh.2) h2 hy hn hr2;subst e;refine⟨⟨v,vs',rfl, ?_,fun hh=>(by cases hh),g1⟩,g2⟩;have hrep:=Ax h1 hx;rcases hf with hf|hf
  . exact hrep.mono hf (fun _ _=>rfl)
  . simp only[List.all_cons,Bool.and_eq_true]at hf;cases a with
    |true=>obtain⟨cs,e,hrep⟩:=hrep;exact⟨cs,e,C6.flat hf.1 hrep⟩
    |false=>exact C6.flat (cs:= [v]) hf.1 hrep
 | .own t e0::rs,s::ss,_,r,hf,⟨v,vs',e,h1,h2⟩,hp,hn,hrf=>by
  simp only[Mn,Av,Qi,Bool.and_eq_true,Bool.not_true,Bool.false_or,Bool.not_false,Bool.true_or,Bool.and_true,Bool.not_eq_true']at hrf;obtain⟨hr1,hr2⟩:=hrf;simp only[CF,bind_some,Option.map_eq_some_iff]at hp;obtain⟨l,⟨c,hc,hl⟩,y,hy,rfl⟩:=hp;subst e;have hcs:s=⟨false,[c]⟩:=by
   unfold c1 at hc;split at hc
   . cases hc;rfl
   . cases hc
  subst hcs;obtain⟨_,_,e1,hrc,_⟩:=h1;cases e1;obtain⟨xs,o1,o2,o3,o4⟩:=KE h hrc hl;have hro:=E5 o1;have hEach:G4 (C6 t w Zn) xs l:=by
   rcases hf with hf|hf
   . exact o2.mono fun _ _=>C6.mono hf (fun _ _=>rfl)
   . simp only[List.all_cons,Bool.and_eq_true]at hf;exact o2.mono fun _ _ hh=>C6.flat hf.1 hh
  have hf':(∀b,Z b->Zn b)\/rs.all hY=true:=hf.imp id fun hh=>by simp only[List.all_cons,Bool.and_eq_true]at hh;exact hh.2
  rcases o4 with⟨q,rfl,hlq,hvq⟩ | ⟨hnr,hnq⟩
  . have hid:Bp (.own t e0::rs) (⟨false,[.row q]⟩::ss)=q::Bp rs ss:=rfl;rw[hid]at hn⊢;have hn':=List.nodup_cons.1 hn;obtain⟨g1,g2⟩:=Ml h hzn hf' h2 hy hn'.2 hr2;refine⟨⟨v,vs',rfl,⟨xs,o1,hEach,fun b hb hz=>o3 b hb (hzn b hz)⟩,fun _=>⟨⟨hr1,fun hh=>(by cases hh)⟩,fun b hb u hu hub=> ?_⟩,g1⟩,fun u hu b hb=> ?_⟩
    . obtain⟨k,hk,hrk⟩:=g2 u hu b hub;have hqb:root (B q)=some b:=by rw[<-hvq];exact hb
      exact h.disj q k b (fun hh=>hn'.1 (hh▸hk)) (A4.of hlq hqb) hrk
    . simp only[W3,List.mem_cons]at hu;rcases hu with rfl|hu
      . exact⟨q,by simp,A4.of hlq (by rw[<-hvq];exact hb)⟩
      . obtain⟨k,hk,r⟩:=g2 u hu b hb;exact⟨k,List.mem_cons_of_mem _ hk,r⟩
  . have hid:Bp (.own t e0::rs) (⟨false,[c]⟩::ss)=Bp rs ss:=by cases c<;>first|rfl|exact absurd rfl (hnq _)
    rw[hid]at hn⊢;obtain⟨g1,g2⟩:=Ml h hzn hf' h2 hy hn hr2;have hno:∀b,root v≠some b:=fun b hb=>by rw[hnr]at hb;cases hb
    refine⟨⟨v,vs',rfl,⟨xs,o1,hEach,fun b hb=>absurd (hro.trans hb) (hno b)⟩,fun _=>⟨⟨hr1,fun hh=>(by cases hh)⟩,fun b hb=>absurd hb (hno b)⟩,g1⟩,fun u hu b hb=> ?_⟩;simp only[W3,List.mem_cons]at hu;rcases hu with rfl|hu
    . exact absurd hb (hno b)
    . exact g2 u hu b hb
 | .obox T t::rs,s::ss,_,r,hf,⟨v,vs',e,h1,h2⟩,hp,hn,hrf=>by
  simp only[Mn,Av,Qi,Bool.and_eq_true,Bool.not_true,Bool.false_or,Bool.not_false,Bool.true_or,Bool.and_true,Bool.not_eq_true']at hrf;obtain⟨hr1,hr2⟩:=hrf;simp only[CF,bind_some,Option.map_eq_some_iff]at hp;obtain⟨x,⟨q,hq,hx⟩,y,hy,rfl⟩:=hp;subst e;obtain⟨hnm,hx⟩:=D7 hx;have hcs:s=⟨false,[.box q 0]⟩:=by
   unfold TR at hq;split at hq
   . cases hq;rfl
   . cases hq
  subst hcs;obtain⟨_,_,e1,⟨b',e2,e3⟩,_⟩:=h1;cases e1;obtain⟨cs,hqL,hpk⟩:=Wl hx;have hL:=h.locs q;rw[hqL]at hL;obtain⟨g,us,d1,d2,d3,d4,d5⟩:=hL;rw[d1]at e2;cases e2;have hrep:=Fq d5 hpk;have hrep':C6 t w Zn us.toList x:=by
   rcases hf with hf|hf
   . exact C6.mono hf (fun _ _=>rfl) hrep
   . simp only[List.all_cons,Bool.and_eq_true]at hf;exact C6.flat hf.1 hrep
  have hf':(∀b,Z b->Zn b)\/rs.all hY=true:=hf.imp id fun hh=>by simp only[List.all_cons,Bool.and_eq_true]at hh;exact hh.2
  have hid:Bp (.obox T t::rs) (⟨false,[.box q 0]⟩::ss)=q::Bp rs ss:=rfl;rw[hid]at hn⊢;have hn':=List.nodup_cons.1 hn;obtain⟨g1,g2⟩:=Ml h hzn hf' h2 hy hn'.2 hr2;have hbase:w0.heap.size<=b':=by
   rcases d2 with d2|d2
   . exact d2.2
   . have:=h.nms.1;have:=Nat.le_of_ble_eq_true hnm;omega
  have hfq:∀c,root (Value.pointer (some ⟨b',0,none⟩))=some c->A4 w (B q) (st.L q) c:=fun c hc=>by rw[hqL,d1];exact hc
  refine⟨⟨v,vs',rfl,⟨b',us,e3,hbase,fun hz=>d3 (hzn b' hz),d4,hrep'⟩,fun _=>⟨⟨hr1,fun hh=>(by cases hh)⟩,fun b hb u hu hub=> ?_⟩,g1⟩,fun u hu b hb=> ?_⟩
  . obtain⟨k,hk,hrk⟩:=g2 u hu b hub;rw[e3]at hb;exact h.disj q k b (fun hh=>hn'.1 (hh▸hk)) (hfq b hb) hrk
  . simp only[W3,List.mem_cons]at hu;rcases hu with rfl|hu
    . rw[e3]at hb;exact⟨q,by simp,hfq b hb⟩
    . obtain⟨k,hk,r⟩:=g2 u hu b hb;exact⟨k,List.mem_cons_of_mem _ hk,r⟩
theorem C0.settleM:∀ {as:List AM} {st:St} {j:Nat} {Z:Nat->Prop},C0 za w0 st E w Z B->∃Z',C0 za w0 (settleM st as j) E w Z' B
 | [],st,_,Z,h=>⟨Z,h⟩
 | .row _ _::r,st,j,Z,h=>C0.settleM (as:=r) h
 | .val _ _::r,st,j,Z,h=>C0.settleM (as:=r) h
 | .fn _ _ _::r,st,j,Z,h=>C0.settleM (as:=r) h
 | .rows _ _ _::r,st,j,Z,h=>C0.settleM (as:=r) h
 | .box _ _::r,st,j,Z,h=>by
  simp only[Vc.settleM];split
  . obtain⟨Z1,h1⟩:=h.settle _;exact C0.settleM (as:=r) h1
  . exact C0.settleM (as:=r) h
theorem Tj (h:C0 za w0 st E w Z B) {Zn:Nat->Prop} :∀ {as:List AM} {vs:List Value} {o:Rr as} {j:Nat},((∀b,Z b->Zn b)\/as.all A3n=true)->(∀m u,(D2 as vs)[m]? =some u->B (j+m)=u)->(∀m p,(P8 as vs)[m]? =some p->∀b,up za w0 (j+m) b->A4 w0 p.2 (mL p.1) b)->vs.length=as.length->TD st as j=some o->Wb w0 w Zn as vs o
 | [],_,_,_,_,_,_,_,_=>trivial
 |a::r,[],_,_,_,_,_,hl,_=>by simp at hl
 | .val _ _::r,v::vs,o,j,hf,hB,hU,hl,ho=>Tj (as:=r) h (hf.imp id fun hh=>by simp only[List.all_cons,Bool.and_eq_true]at hh;exact hh.2) hB hU (by simpa using hl) ho
 | .fn _ _ _::r,v::vs,o,j,hf,hB,hU,hl,ho=>Tj (as:=r) h (hf.imp id fun hh=>by simp only[List.all_cons,Bool.and_eq_true]at hh;exact hh.2) hB hU (by simpa using hl) ho
 | .row t e::r,v::vs,o,j,hf,hB,hU,hl,ho=>by
  simp only[TD,bind_some,Option.map_eq_some_iff]at ho;obtain⟨x,hx,y,hy,rfl⟩:=ho;have hBj:B j=v:=hB 0 v (by simp[D2,N0]);have hL:=h.locs j;rw[Ih hx]at hL;obtain⟨xs,g1,g2,_⟩:=hL;rw[hBj]at g1;refine⟨⟨xs,g1, ?_⟩,Tj (as:=r) h (hf.imp id fun hh=>by simp only[List.all_cons,Bool.and_eq_true]at hh;exact hh.2) (fun m u hm=>by rw[show j+1+m=j+(m+1)from by omega];exact hB (m+1) u (by simpa[D2,N0]using hm)) (fun m p hm=>by rw[show j+1+m=j+(m+1)from by omega];exact hU (m+1) p (by simpa[P8,N0]using hm)) (by simpa using hl) hy⟩;rcases hf with hf|hf
  . exact g2.mono fun _ _=>C6.mono hf (fun _ _=>rfl)
  . simp only[List.all_cons,Bool.and_eq_true]at hf;exact g2.mono fun _ _ hh=>C6.flat hf.1 hh
 | .box T t::r,v::vs,o,j,hf,hB,hU,hl,ho=>by
  simp only[TD,bind_some,Option.map_eq_some_iff]at ho;obtain⟨x,hx,y,hy,rfl⟩:=ho;have hBj:B j=v:=hB 0 v (by simp[D2,N0]);obtain⟨cs,hc,hp⟩:=Wl hx;have hL:=h.locs j;rw[hc]at hL;obtain⟨b,us,g1,_,_,g4,g5⟩:=hL;rw[hBj]at g1;refine⟨⟨b,us,g1,g4, ?_⟩,Tj (as:=r) h (hf.imp id fun hh=>by simp only[List.all_cons,Bool.and_eq_true]at hh;exact hh.2) (fun m u hm=>by rw[show j+1+m=j+(m+1)from by omega];exact hB (m+1) u (by simpa[D2,N0]using hm)) (fun m p hm=>by rw[show j+1+m=j+(m+1)from by omega];exact hU (m+1) p (by simpa[P8,N0]using hm)) (by simpa using hl) hy⟩;have:=Fq g5 hp;rcases hf with hf|hf
  . exact C6.mono hf (fun _ _=>rfl) this
  . simp only[List.all_cons,Bool.and_eq_true]at hf;exact C6.flat hf.1 this
 | .rows t e e'::r,v::vs,o,j,hf,hB,hU,hl,ho=>by
  simp only[TD,bind_some,Option.map_eq_some_iff]at ho;obtain⟨x,hx,y,hy,rfl⟩:=ho;have hBj:B j=v:=hB 0 v (by simp[D2,N0]);have hL:=h.locs j;obtain⟨al,ha⟩:=Y3 hx;rw[ha]at hL;have hR:=hL.rowsR;rw[hBj]at hR;refine⟨⟨?_,fun b hb=> ?_⟩,Tj (as:=r) h (hf.imp id fun hh=>by simp only[List.all_cons,Bool.and_eq_true]at hh;exact hh.2) (fun m u hm=>by rw[show j+1+m=j+(m+1)from by omega];exact hB (m+1) u (by simpa[D2,N0]using hm)) (fun m p hm=>by rw[show j+1+m=j+(m+1)from by omega];exact hU (m+1) p (by simpa[P8,N0]using hm)) (by simpa using hl) hy⟩
  . rcases hf with hf|hf
    . exact hR.mono hf
    . simp only[List.all_cons,Bool.and_eq_true]at hf;obtain⟨xs,h1,h3,h4,h5⟩:=hR;exact⟨xs,h1,fun i l x hl hx=>(h3 i l x hl hx).imp fun ys hy=>⟨hy.1,hy.2.mono fun _ _ hh=>C6.flat hf.1 hh⟩,h4,h5⟩
  . have hb':A4 w (B j) (st.L j) b:=by rw[ha,hBj];exact(V6 fun _ _=>rfl).1 hb
    exact hU 0 (.rows t e e',v) (by simp[P8,N0]) b ((h.locs j).root hb').1
variable {P:Program}
theorem Hd {n:Nat} :∀ {as:List AM} {vs:List Value} {x:A2 as} {i j s:Nat},Ag P w Z as vs x->i<=s->(∀m u,(D2 as vs)[m]? =some u->B (j+m)=u)->j+Jj as<=n->RD w Z B E (find (0, .dead) s (Gl P as x i j)).2 ((vs[s-i]?).getD undef)/\GV n (find (0, .dead) s (Gl P as x i j)).2
 | [],_,_,_,_,_,_,_,_,_=>⟨trivial,trivial⟩
 |a::r,_,x,i,j,s,⟨v,vs',e,h1,h2⟩,hi,hB,hn=>by
  subst e;by_cases his:i=s
  . subst his;cases a with
    |val a t=>
     simp only[Gl,find,Nat.beq_refl,cond_true,Nat.sub_self];exact⟨X3.explode h1,D8⟩
    |row t e=>
     simp only[Gl,find,Nat.beq_refl,cond_true,Nat.sub_self];have hBj:B j=v:=hB 0 v (by simp[D2,N0]);exact⟨⟨v,[],rfl,hBj.symm,rfl⟩,fun c hc=>by simp at hc;subst hc;simp only[Jj]at hn;show j<n;omega⟩
    |box T t=>
     simp only[Gl,find,Nat.beq_refl,cond_true,Nat.sub_self];have hBj:B j=v:=hB 0 v (by simp[D2,N0]);obtain⟨b,us,g1,_⟩:=h1;exact⟨⟨v,[],rfl,⟨b,hBj.trans g1,g1⟩,rfl⟩,fun c hc=>by simp at hc;subst hc;simp only[Jj]at hn;show j<n;omega⟩
    |rows t e e'=>
     simp only[Gl,find,Nat.beq_refl,cond_true,Nat.sub_self];have hBj:B j=v:=hB 0 v (by simp[D2,N0]);exact⟨⟨v,[],rfl,hBj.symm,rfl⟩,fun c hc=>by simp at hc;subst hc;simp only[Jj]at hn;show j<n;omega⟩
    |fn as' r'=>
     simp only[Gl,find,Nat.beq_refl,cond_true,Nat.sub_self];exact⟨⟨v,[],rfl,h1,rfl⟩,fun c hc=>by simp at hc;subst hc;trivial⟩
  . have he:s-i=(s-(i+1))+1:=by omega
    rw[he];cases a with
    |val a t=>
     simp only[Gl,find,E6 his,cond_false,List.getElem?_cons_succ];exact Hd (i:=i+1) (s:=s) h2 (by omega) hB hn
    |fn as' r'=>
     simp only[Gl,find,E6 his,cond_false,List.getElem?_cons_succ];exact Hd (i:=i+1) (s:=s) h2 (by omega) hB hn
    |row t e=>
     simp only[Gl,find,E6 his,cond_false,List.getElem?_cons_succ];exact Hd (i:=i+1) (s:=s) h2 (by omega) (fun m u hm=>by rw[show j+1+m=j+(m+1)from by omega];exact hB (m+1) u (by simpa[D2,N0]using hm)) (by simp only[Jj]at hn;omega)
    |box t e=>
     simp only[Gl,find,E6 his,cond_false,List.getElem?_cons_succ];exact Hd (i:=i+1) (s:=s) h2 (by omega) (fun m u hm=>by rw[show j+1+m=j+(m+1)from by omega];exact hB (m+1) u (by simpa[D2,N0]using hm)) (by simp only[Jj]at hn;omega)
    |rows t e e'=>
     simp only[Gl,find,E6 his,cond_false,List.getElem?_cons_succ];exact Hd (i:=i+1) (s:=s) h2 (by omega) (fun m u hm=>by rw[show j+1+m=j+(m+1)from by omega];exact hB (m+1) u (by simpa[D2,N0]using hm)) (by simp only[Jj]at hn;omega)
theorem eW {n:Nat} {U:Nat->Nat->Prop} :∀ {as:List AM} {vs:List Value} {x:A2 as} {j k:Nat},Ag P w Z as vs x->(∀m p,(P8 as vs)[m]? =some p->B (j+m)=p.2/\∀b,A4 w p.2 (mL p.1) b->U (j+m) b)->
 RL (U k) w Z B k (find (0, .none) k (Dq as x j)).2/\Xn n (find (0, .none) k (Dq as x j)).2/\(live (find (0, .none) k (Dq as x j)).2->j<=k/\∃p,(P8 as vs)[k-j]? =some p/\∀b,A4 w (B k) (find (0, .none) k (Dq as x j)).2 b->A4 w p.2 (mL p.1) b):=by
 intro as
 induction as with
 |nil=>intro _ _ _ _ _ _;exact⟨trivial,trivial,fun h=>h.elim⟩
 |cons a r ih=>
  intro vs x j k h hB;obtain⟨v,vs',e,h1,h2⟩:=h;subst e;have hrest:N0 a=true->j≠k->RL (U k) w Z B k (find (0, .none) k (Dq r x.2 (j+1))).2/\Xn n (find (0, .none) k (Dq r x.2 (j+1))).2/\(live (find (0, .none) k (Dq r x.2 (j+1))).2->j<=k/\∃p,(P8 (a::r) (v::vs'))[k-j]? =some p/\∀b,A4 w (B k) (find (0, .none) k (Dq r x.2 (j+1))).2 b->A4 w p.2 (mL p.1) b):=fun hm hjk=>by
   obtain⟨q1,q2,q3⟩:=ih (vs:=vs') (x:=x.2) (j:=j+1) (k:=k) h2 (fun m p hp=>by rw[show j+1+m=j+(m+1)from by omega];exact hB (m+1) p (by simpa[P8,hm]using hp));refine⟨q1,q2,fun hl=>⟨by have:=(q3 hl).1;omega, ?_⟩⟩;obtain⟨q4,p,q5,q6⟩:=q3 hl;refine⟨p, ?_,q6⟩;rw[show k-j=(k-(j+1))+1 from by omega];simpa[P8,hm]using q5
  cases a with
  |val a t=>exact ih (x:=x.2) h2 hB
  |fn a t=>exact ih (x:=x.2) h2 hB
  |row t e0=>
   simp only[Dq,find];by_cases hjk:j=k
   . subst hjk;simp only[Nat.beq_refl,cond_true];obtain⟨hBj,hUj⟩:=hB 0 (.row t e0,v) (by simp[P8,N0]);obtain⟨xs,g1,g2,g3⟩:=h1;have hBj:B j=v:=hBj;refine⟨⟨xs,by rw[hBj];exact g1,g2,fun b hb=> ?_⟩,trivial,fun _=>⟨Nat.le_refl _,(.row t e0,v),by simp[P8,N0],fun b hb=>by rw[hBj]at hb;exact hb⟩⟩;rw[hBj]at hb;exact⟨hUj b ((E5 g1).trans hb),g3 b hb⟩
   . simp only[E6 hjk,cond_false];exact hrest rfl hjk
  |box T t=>
   simp only[Dq,find];by_cases hjk:j=k
   . subst hjk;simp only[Nat.beq_refl,cond_true];obtain⟨hBj,hUj⟩:=hB 0 (.box T t,v) (by simp[P8,N0]);obtain⟨b,us,g1,g2,g3,g4⟩:=h1;have hBj:B j=v:=hBj;exact⟨⟨b,us,hBj.trans g1,hUj b (by rw[g1];rfl),g2,g3,O2 g4⟩,D8,fun _=>⟨Nat.le_refl _,(.box T t,v),by simp[P8,N0],fun b hb=>by rw[hBj]at hb;exact hb⟩⟩
   . simp only[E6 hjk,cond_false];exact hrest rfl hjk
  |rows t e0 e1=>
   simp only[Dq,find];by_cases hjk:j=k
   . subst hjk;simp only[Nat.beq_refl,cond_true];obtain⟨hBj,hUj⟩:=hB 0 (.rows t e0 e1,v) (by simp[P8,N0]);obtain⟨g1,g2⟩:=h1;have hBj:B j=v:=hBj;refine⟨Bt.rl (by rw[hBj];exact g1) fun b hb=> ?_,fun p hp=>(by cases hp),fun _=>⟨Nat.le_refl _,(.rows t e0 e1,v),by simp[P8,N0],fun b hb=>by rw[hBj]at hb;exact(V6 fun _ _=>rfl).1 hb⟩⟩;rw[hBj]at hb;exact⟨hUj b ((V6 fun _ _=>rfl).1 hb),g2 b hb⟩
   . simp only[E6 hjk,cond_false];exact hrest rfl hjk
theorem Ag.len:∀ {as:List AM} {vs:List Value} {x:A2 as},Ag P w Z as vs x->vs.length=as.length
 | [],_,_,h=>by rw[show _= _ from h];rfl
 | _:: _,_,_,⟨v,vs',e,_,h2⟩=>by rw[e,List.length_cons,List.length_cons,Ag.len h2]
theorem S8:∀ {as:List AM} {vs:List Value},vs.length=as.length->(D2 as vs).length=Jj as
 | [],vs,_=>by cases vs<;>rfl
 |a::r,[],h=>by simp at h
 | .val _ _::r,v::vs,h=>S8 (as:=r) (by simpa using h)
 | .fn _ _ _::r,v::vs,h=>S8 (as:=r) (by simpa using h)
 | .row _ _::r,v::vs,h=>by simp only[D2,N0,cond_true,List.length_cons,Jj];rw[S8 (as:=r) (by simpa using h)]
 | .box _ _::r,v::vs,h=>by simp only[D2,N0,cond_true,List.length_cons,Jj];rw[S8 (as:=r) (by simpa using h)]
 | .rows _ _ _::r,v::vs,h=>by simp only[D2,N0,cond_true,List.length_cons,Jj];rw[S8 (as:=r) (by simpa using h)]
theorem Ma:∀(as:List AM) (vs:List Value),D2 as vs=(P8 as vs).map (·.2)
 | [],vs=>by cases vs<;>rfl
 | _:: _,[]=>rfl
 |a::r,v::vs=>by
  simp only[D2,P8];cases N0 a
  . exact Ma r vs
  . simp only[cond_true,List.map_cons,Ma r vs]
theorem Dis.get:∀ {l:List (AM×Value)} {m m' b:Nat} {u u':AM×Value},Dis w l->m<m'->l[m]? =some u->l[m']? =some u'->A4 w u.2 (mL u.1) b->¬A4 w u'.2 (mL u'.1) b
 | [],_,_,_,_,_,_,_,h,_,_=>by simp at h
 |v::l,0,m'+1,b,u,u',hd,hm,h,h',hb=>by
  simp at h h';subst h;exact hd.1 b hb u' (List.mem_of_getElem? h')
 |v::l,m+1,m'+1,b,u,u',hd,hm,h,h',hb=>by
  simp at h h';exact Dis.get hd.2 (by omega) h h' hb
 |v::l,_,0,_,_,_,_,hm,_,_,_=>by omega
def QA (as:List AM) (vs:List Value):Nat->Value:=fun j=>((D2 as vs)[j]?).getD (.bool false)
theorem Zs:∀ {as:List AM} {vs:List Value} {x:A2 as},Ag P w Z as vs x->∀u∈D2 as vs,u.oneCell'=true
 | [],vs,_,_,u,hu=>by cases vs<;>cases hu
 | .val _ _::r,_,_,⟨v,vs',e,_,h2⟩,u,hu=>by subst e;exact Zs (as:=r) h2 u hu
 | .fn _ _ _::r,_,_,⟨v,vs',e,_,h2⟩,u,hu=>by subst e;exact Zs (as:=r) h2 u hu
 | .row t e0::r,_,_,⟨v,vs',e,⟨xs,g,_⟩,h2⟩,u,hu=>by
  subst e;simp only[D2,N0,cond_true,List.mem_cons]at hu;rcases hu with rfl|hu
  . rcases g.2 with⟨hv,_⟩ | ⟨_,_,_,hv,_⟩<;>rw[hv]<;>rfl
  . exact Zs (as:=r) h2 u hu
 | .rows t e0 e1::r,_,_,⟨v,vs',e,⟨⟨xs,g,_⟩,_⟩,h2⟩,u,hu=>by
  subst e;simp only[D2,N0,cond_true,List.mem_cons]at hu;rcases hu with rfl|hu
  . rcases g.2 with⟨hv,_⟩ | ⟨_,_,_,hv,_⟩<;>rw[hv]<;>rfl
  . exact Zs (as:=r) h2 u hu
 | .box t e0::r,_,_,⟨v,vs',e,⟨b,us,g,_⟩,h2⟩,u,hu=>by
  subst e;simp only[D2,N0,cond_true,List.mem_cons]at hu;rcases hu with rfl|hu
  . rw[g];rfl
  . exact Zs (as:=r) h2 u hu
theorem He:∀ {as:List AM} {x:A2 as} {j k:Nat},¬live (find (0, .none) k (Dq as x j)).2->(find (0, .none) k (Dq as x j)).2= .none
 | [],_,_,_,_=>rfl
 | .val _ _::r,x,j,k,h=>He (as:=r) (x:=x.2) (j:=j) h
 | .fn _ _ _::r,x,j,k,h=>He (as:=r) (x:=x.2) (j:=j) h
 | .row t e0::r,x,j,k,h=>by
  simp only[Dq,find]at h⊢;cases hb:Nat.beq j k with
  |true=>rw[hb]at h;exact absurd trivial h
  |false=>rw[hb]at h;exact He (as:=r) h
 | .rows t e0 e1::r,x,j,k,h=>by
  simp only[Dq,find]at h⊢;cases hb:Nat.beq j k with
  |true=>rw[hb]at h;exact absurd trivial h
  |false=>rw[hb]at h;exact He (as:=r) h
 | .box T t::r,x,j,k,h=>by
  simp only[Dq,find]at h⊢;cases hb:Nat.beq j k with
  |true=>rw[hb]at h;exact absurd trivial h
  |false=>rw[hb]at h;exact He (as:=r) h
def A7b (w:World) (as:List AM) (vs:List Value):Nat->Nat->Prop:=fun k b=>∃p:AM×Value,(P8 as vs)[k]? =some p/\A4 w p.2 (mL p.1) b
def zn0 (w:World) (Z:Nat->Prop) (as:List AM) (vs:List Value):Zn:=⟨Z,TH w as vs,Jj as,QA as vs,0,0,A7b w as vs,fun _ _ ⟨p,hp,hb⟩=>⟨p,List.mem_of_getElem? hp,hb⟩,[]⟩
theorem iG {as:List AM} {vs:List Value} {x:A2 as} (hz:∀b,Z b->b<w.heap.size) (h:Ag P w Z as vs x) (hd:Dis w (P8 as vs)):C0 (zn0 w Z as vs) w (PK P as x) (KW vs) w Z (QA as vs):=by
 have hlen:=S8 (Ag.len h);have hB:∀m u,(D2 as vs)[m]? =some u->QA as vs (0+m)=u:=fun m u hm=>by simp only[QA,Nat.zero_add,hm,Option.getD_some]
 have hBp:∀(m:Nat) (p:AM×Value),(P8 as vs)[m]? =some p->(D2 as vs)[m]? =some p.2:=fun m p hm=>by rw[Ma,List.getElem?_map,hm];rfl
 have hT:=fun k=>eW (P:=P) (w:=w) (Z:=Z) (B:=QA as vs) (n:=Jj as) (U:=fun k b=>up (zn0 w Z as vs) w k b) (j:=0) (k:=k) h (fun m p hm=>⟨hB m p.2 (hBp m p hm),fun b hb=> .inr ⟨by have:=BV (hBp m p hm);simp only[Nat.zero_add];show m<Jj as;omega,p,by simpa using hm,hb⟩⟩)
 have hS:=fun s=>Hd (P:=P) (w:=w) (Z:=Z) (B:=QA as vs) (E:=KW vs) (n:=Jj as) (i:=0) (j:=0) (s:=s) h (Nat.zero_le _) hB (by omega)
 refine⟨Ae.of (R2.refl w),hz,fun s=>(hS s).1,fun k=>(hT k).1,fun k k' b hne l1 l2=> ?_,fun s=>(hS s).2,fun k=>(hT k).2.1,fun k hk=> ?_,fun k=> ?_,fun b hb=> .inl hb,⟨rfl,Nat.le_refl _⟩,fun _ _=>rfl,⟨Nat.zero_le _,fun _ _ _ _=>Nat.zero_le _⟩,trivial,fun f hf=>(by cases hf)⟩
 . obtain⟨_,p,a1,f1⟩:=(hT k).2.2 l1.live;obtain⟨_,p',a2,f2⟩:=(hT k').2.2 l2.live;simp only[Nat.sub_zero]at a1 a2;rcases Nat.lt_or_ge k k' with hlt|hge
   . exact hd.get hlt a1 a2 (f1 b l1) (f2 b l2)
   . exact hd.get (by omega:k'<k) a2 a1 (f2 b l2) (f1 b l1)
 . by_cases hl:live ((PK P as x).L k)
   . obtain⟨_,p,a1,_⟩:=(hT k).2.2 hl;simp only[Nat.sub_zero]at a1;have:=BV (hBp k p a1);have hk:Jj as<=k:=hk;omega
   . exact He hl
 . simp only[QA];cases hm:(D2 as vs)[k]? with
   |none=>rfl
   |some u=>exact Zs h u (List.mem_of_getElem? hm)
theorem oW {f:FuncId} {fn:Func} {c:Code} {s:A8} (hf:cx.P.funcs[f]? =some fn) (hb:fn.body=some c) (hn:s.args.length<=fn.ntmps) (hok:V3 fn.ntmps c=true) (hty:G9 cx.P cx.tys=true) (hsp:Ll cx.P sp)
 (hv:∀x,awf s.args x->s.pre x->A5y cx sp an s fn.results.toList c x):B6 cx.P f s:=by
 intro w Z vs x hz hre hdis hpre;have hlen:vs.length=s.args.length:=hre.len;have hsem:=hv x hre.awf hpre;generalize hza:zn0 w Z s.args vs=za;have hinit:=iG hz hre hdis;rw[hza]at hinit;refine Wm hf hb (by rw[hlen];exact hn) hok (fun E w'=>Nx za w (fin cx s fn.results.toList x) E w') ?_ ⟨fun hok' a hr=> ?_⟩
 . rintro E w' tmps ht ⟨st,Z',B',h,hfin⟩;unfold fin at hfin;split at hfin
   . rename_i ss hss;split at hfin
     . rename_i ss1 hss1;split at hfin
       . rename_i r o hr ho;obtain⟨hnd,hpost⟩:=B9 hfin;simp only[Bool.and_eq_true]at hnd;obtain⟨Z0,h0⟩:=C0.settleR (rs:=s.res) (ss:=ss) h;obtain⟨Z1,h1⟩:=C0.settleM (as:=s.args) (j:=0) h0;obtain⟨us,g1,g2⟩:=Xp hty h1 ht hss1;have hres:(results fn tmps).run cx.P w'= .ok (Yb us) w':=by
          have hm:(fn.results.mapM (TE tmps)).run cx.P w'= .ok us.toArray w':=by
           rw[Array.mapM_eq_mapM_toList];simp[g1]
          have e:results fn tmps=(do let vs<-fn.results.mapM (TE tmps);pure (if h:vs.size=1 then vs[0]else .tuple vs)):=by
           unfold results;congr 1
          rw[e];simp only[Sem.run_bind,hm,Result.andThen_ok,Sem.run_pure]
          match us with
          | []=>rfl
          | [u]=>rfl
          |u::u'::r=>rfl
         have hpost':s.post x r/\(O7 s.args=true->s.mpost x r o):=by
          unfold A4s at hpost;cases hm:O7 s.args with
          |true=>simp only[hm,cond_true]at hpost;exact⟨hpost.1,fun _=>hpost.2⟩
          |false=>simp only[hm,cond_false]at hpost;exact⟨hpost,fun hh=>by cases hh⟩
         refine⟨_,hres, ?_,r,o,us,(fun b=>s.shared=true/\Z1 b),hpost'.1,hpost'.2,rfl,fun b hb=> ?_, ?_, ?_⟩
         . have:=h.ext;rw[<-hza]at this;exact this
         . rcases h1.zin b hb.2 with hh|hh
           . rw[<-hza]at hh;exact .inr ⟨hb.1,hh⟩
           . exact .inl ⟨hh,h1.zlt b hb.2⟩
         . refine(Ml h1 (Zn:=fun b=>s.shared=true/\Z1 b) (fun b hb=>hb.2) ?_ g2 hr (Cl hnd.1.1) hnd.1.2).1;cases hsh:s.shared with
           |true=>exact .inl fun b hb=>⟨rfl,hb⟩
           |false=>rw[hsh]at hnd;simp only[Bool.false_or,Bool.and_eq_true]at hnd;exact .inr hnd.2.1
         . refine Tj (Zn:=fun b=>s.shared=true/\Z1 b) h1 (j:=0) ?_ (fun m u hm=> ?_) (fun m p hm b hu=> ?_) hlen ho
           . cases hsh:s.shared with
             |true=>exact .inl fun b hb=>⟨rfl,hb⟩
             |false=>rw[hsh]at hnd;simp only[Bool.false_or,Bool.and_eq_true]at hnd;exact .inr hnd.2.2
           . have hlt:=BV hm;rw[S8 hlen]at hlt;have:=h1.bfix m (by rw[<-hza];exact hlt);rw[Nat.zero_add,this, <-hza];show QA s.args vs m=u;simp only[QA,hm,Option.getD_some]
           . rw[<-hza,Nat.zero_add]at hu;rcases hu with⟨hu,_⟩ | ⟨_,p',hp',hb⟩
             . have hlt:=BV (show(D2 s.args vs)[m]? =some p.2 by rw[Ma,List.getElem?_map,hm];rfl);rw[S8 hlen]at hlt;have hu:Jj s.args<=m:=hu;omega
             . rw[hm]at hp';cases hp';exact hb
       . exact hfin.elim
     . exact hfin.elim
   . exact hfin.elim
 . refine wp_mono (Pg hty hsp (by rw[<-hza];rfl) hinit hsem hok' a hr) ?_;rintro e a' w' ⟨E',hr',st',Z',B',h',hq⟩;refine⟨E',hr', ?_⟩;cases e with
   |normal=>exact⟨st',Z',B',h',hq⟩
   |ret=>exact⟨st',Z',B',h',hq⟩
   | _=>exact hq.elim
theorem oX {f:FuncId} {fn:Func} {c:Code} {s:A8} {vc:A2 s.args->Prop} (hf:cx.P.funcs[f]? =some fn) (hb:fn.body=some c) (hn:s.args.length<=fn.ntmps) (hok:V3 fn.ntmps c=true) (hty:G9 cx.P cx.tys=true) (hsp:Ll cx.P sp)
 (he:∀x,A5y cx sp an s fn.results.toList c x=vc x) (hv:∀x,awf s.args x->s.pre x->vc x):B6 cx.P f s:=
 oW hf hb hn hok hty hsp fun x hw hp=>by rw[he];exact hv x hw hp
def A7w (P:Program) (tys:List (Nat×TI)) (sp:F3) (an:An) (s:A8) (fn:Func) (x:A2 s.args):Prop:=A5y ⟨P,tys⟩ sp an s fn.results.toList (fn.body.getD .skip) x
theorem oY {P:Program} {tys:List (Nat×TI)} {sp:F3} {an:An} {f:FuncId} {fn:Func} {s:A8} {vc:A2 s.args->Prop} (hf:P.funcs[f]? =some fn) (hb:fn.body.isSome=true) (hn:Nat.ble s.args.length fn.ntmps=true) (hok:V3 fn.ntmps (fn.body.getD .skip)=true) (hty:G9 P tys=true) (hsp:Ll P sp)
 (he:∀x,A7w P tys sp an s fn x=vc x) (hv:∀x,awf s.args x->s.pre x->vc x):B6 P f s:=by
 cases hbb:fn.body with
 |none=>rw[hbb]at hb;cases hb
 |some c=>
  have hc:fn.body.getD .skip=c:=by rw[hbb];rfl
  refine oX (cx:=⟨P,tys⟩) (an:=an) (c:=c) hf hbb (Nat.le_of_ble_eq_true hn) (by rw[<-hc];exact hok) hty hsp (fun x=> ?_) hv;rw[<-he x, <-hc];rfl
def Zx (ct:Nat):Nat->List SV->List (Nat×Nat×DV)
 | _,[]=> []
 |i,s::ss=>(i,ct, .one s)::Zx ct (i+1) ss
def YS (st:St) (ss:List SV):St:=⟨Zx (st.ct+1) 0 ss,st.lc,st.nx,st.ct+1,st.nm,st.sl::st.fr⟩
def fW (cx:Cx) (vars:List ResultVar) (b:Nat) (k:St->List SV->Prop) (st:St):Prop:=
 match st.fr with
 |f::fr=>(match Xo cx st vars with
  |some ss=>k ⟨f,st.lc,max st.nx b,st.ct,st.nm,fr⟩ ss
  |none=>False)
 | []=>False
def JG (cx:Cx) (ans:List (Nat×F3×An)) (vars:List ResultVar) (c:Code) (n d:Nat) (st:St) (ss:List SV) (k:St->List SV->Prop):Prop:=
 match Ah d ans with
 |some (sp,an)=>bif Nat.ble ss.length n then Cu cx sp an c ⟨fW cx vars an.bump k,fun _ _=>False,fW cx vars an.bump k⟩ (YS st ss)else False
 |none=>False
theorem VH {vars:List ResultVar} {b:Nat} {k k':St->List SV->Prop} {ss:List SV} {st':St} (ev:C3 (YS st ss) st') (h:fW cx vars b k st') (hk:∀st' ss',C3 st st'->k st' ss'->k' st' ss'):fW cx vars b k' st':=by
 unfold fW at h⊢;cases hf:st'.fr with
 |nil=>rw[hf]at h;exact h
 |cons f fr=>
  rw[hf]at h;simp only at h⊢;split at h
  . have e:=ev.f;rw[hf]at e;have e:P0 (st.ct+1) st.sl f/\Af (st.ct+1) st.fr fr:=e;refine hk _ _ ⟨Nat.le_trans (Nat.le_succ _) ev.ct,fun s h0 h1=> ?_,fun q h0 h1=>ev.l q h0 (Nat.le_succ_of_le h1),e.2.le (Nat.le_succ _)⟩ h;exact P0.find s e.1 (Nat.le_succ_of_le h1)
  . exact h
theorem oF (ans:List (Nat×F3×An)) (vars:List ResultVar) (c:Code) (n:Nat) {st:St} {d:Nat} {ss:List SV} {k k':St->List SV->Prop} (h:JG cx ans vars c n d st ss k) (hk:∀st' ss',C3 st st'->k st' ss'->k' st' ss'):JG cx ans vars c n d st ss k':=by
 unfold JG at h⊢;split at h
 . obtain⟨hb,h⟩:=B9 h;simp only[hb,cond_true];refine KG h fun e st' ev hh=> ?_
   cases e with
   |normal=>exact VH ev hh hk
   |ret=>exact VH ev hh hk
   | _=>exact hh
 . exact h
def Jw (cx:Cx) (ans:List (Nat×F3×An)) (vars:List ResultVar) (c:Code) (n:Nat):Inl:= {run:=JG cx ans vars c n,step:=oF ans vars c n}
theorem GZ {ct s:Nat} :∀ {ss:List SV} {i:Nat},(find (0, .dead) s (Zx ct i ss)).2=if i<=s then(match ss[s-i]? with|some v=> .one v|none=> .dead)else .dead
 | [],i=>by simp[Zx,find]
 |v::ss,i=>by
  simp only[Zx,find];cases hb:Nat.beq i s with
  |true=>
   have:=Nat.eq_of_beq_eq_true hb;subst this;simp
  |false=>
   have hne:i≠s:=Nat.ne_of_beq_eq_false hb;simp only[cond_false,GZ (ss:=ss) (i:=i+1)];by_cases h1:i+1<=s
   . rw[if_pos h1,if_pos (by omega),show s-i=(s-(i+1))+1 from by omega,List.getElem?_cons_succ]
   . rw[if_neg h1,if_neg (by omega)]
theorem Oj.len {w:World} {Z:Nat->Prop} {B:Nat->Value} :∀ {ss:List SV} {vs:List Value},Oj w Z B ss vs->vs.length=ss.length
 | [],_,h=>by rw[show _= _ from h];rfl
 | _:: _,_,⟨v,vs',e,_,h2⟩=>by rw[e,List.length_cons,List.length_cons,Oj.len h2]
theorem KB (h:C0 za w0 st E w Z B):∀ {vars:List ResultVar} {ss:List SV},Xo cx st vars=some ss->∀s∈ss,Mm st.nx s
 | [],_,hs=>by cases hs;intro s hs;cases hs
 | .tmp t::r,ss,hs=>by
  simp only[Xo]at hs;split at hs
  . rename_i s1 hs1;simp only[Option.map_eq_some_iff]at hs;obtain⟨ss',hs',rfl⟩:=hs;intro s hm;rcases List.mem_cons.1 hm with rfl|hm
    . have:=h.refs t;rw[hs1]at this;exact this
    . exact KB h hs' s hm
  . cases hs
 | .cell a t::r,ss,hs=>by
  simp only[Xo,Option.bind_eq_bind,bind_some]at hs;obtain⟨ti,_,hs⟩:=hs;split at hs
  . rename_i k _;split at hs
    . rename_i T cs hk;obtain⟨_,hs⟩:=D7 hs;simp only[Option.map_eq_some_iff]at hs;obtain⟨ss',hs',rfl⟩:=hs;intro s hm;rcases List.mem_cons.1 hm with rfl|hm
      . have:=h.refl k;rw[hk]at this;exact this
      . exact KB h hs' s hm
    . cases hs
  . cases hs
def gU (P:Program) (ans:List (Nat×F3×An)):Prop:=∀x∈ans,Ll P x.2.1
theorem TZ {α:Type} {d:Nat} {x:α} :∀ {l:List (Nat×α)},Ah d l=some x->(d,x)∈l
 | [],h=>by cases h
 | (t,y)::l,h=>by
  simp only[Ah]at h;cases hb:Nat.beq t d with
  |true=>
   rw[hb]at h;have:=Nat.eq_of_beq_eq_true hb;subst this;cases h;simp
  |false=>rw[hb]at h;exact List.mem_cons_of_mem _ (TZ h)
theorem Ev {f:FuncId} {fn:Func} {c:Code} {ans:List (Nat×F3×An)} (hf:cx.P.funcs[f]? =some fn) (hb:fn.body=some c) (hok:V3 fn.ntmps c=true) (hty:G9 cx.P cx.tys=true) (hsp:gU cx.P ans):mS cx.P f (Jw cx ans fn.results.toList c fn.ntmps):=by
 refine {go:= ?_};intro za w0 st E w Z B d ss vs k hb0 h hrs href hs;have hs:JG cx ans fn.results.toList c fn.ntmps d st ss k:=hs;unfold JG at hs;split at hs
 . rename_i sp an hfo;have hsp:=hsp _ (TZ hfo);simp only at hsp;obtain⟨hle,hs⟩:=B9 hs;have hle:=Nat.le_of_ble_eq_true hle;have hlen:=hrs.len;have hS:∀s,(YS st ss).S s=match ss[s]? with|some v=> .one v|none=> .dead:=fun s=>by
    show(find (0, .dead) s (Zx (st.ct+1) 0 ss)).2= _;rw[GZ,if_pos (Nat.zero_le _)];rfl
   have h1:C0 {za with es:=E::za.es} w0 (YS st ss) (KW vs) w Z B:=by
    refine⟨h.ext,h.zlt,fun s=> ?_,h.locs,h.disj,fun s=> ?_,h.refl,h.fresh,h.bone,h.zin,h.nms,h.bfix,h.mrk,⟨h.slots,h.frs⟩,fun g hg s=> ?_⟩
    . rw[hS];cases hv:ss[s]? with
      |none=>trivial
      |some v=>
       obtain⟨u,h3,h4⟩:=hrs.get hv;show RS w Z B v (KW vs s);simp only[KW,h3,Option.getD_some];exact h4
    . rw[hS];cases hv:ss[s]? with
      |none=>trivial
      |some v=>exact href v (List.mem_of_getElem? hv)
    . rcases List.mem_cons.1 hg with rfl|hg
      . exact h.refs s
      . exact h.frf g hg s
   refine Wm hf hb (by rw[hlen];exact hle) hok (fun E' w'=>Nx {za with es:=E::za.es} w0 (fW cx fn.results.toList an.bump k) E' w') ?_ ⟨fun hok' a hr=> ?_⟩
   . rintro E' w' tmps ht ⟨st',Z',B',h',hp⟩;unfold fW at hp;have hfr:=h'.frs;have hff:=h'.frf;cases hfe:st'.fr with
     |nil=>rw[hfe]at hp;exact hp.elim
     |cons fl fr=>
      rw[hfe]at hp hfr hff;simp only at hp;obtain⟨hf1,hf2⟩:=hfr;split at hp
      . rename_i ss' hss;obtain⟨us,g1,g2⟩:=Xp hty h' ht hss;have hres:(results fn tmps).run cx.P w'= .ok (Yb us) w':=by
         have hm:(fn.results.mapM (TE tmps)).run cx.P w'= .ok us.toArray w':=by
          rw[Array.mapM_eq_mapM_toList];simp[g1]
         have e:results fn tmps=(do let vs<-fn.results.mapM (TE tmps);pure (if h:vs.size=1 then vs[0]else .tuple vs)):=by
          unfold results;congr 1
         rw[e];simp only[Sem.run_bind,hm,Result.andThen_ok,Sem.run_pure]
         match us with
         | []=>rfl
         | [u]=>rfl
         |u::u'::r=>rfl
        have hb:=Nat.le_max_left st'.nx an.bump;exact⟨_,hres,⟨fl,st'.lc,max st'.nx an.bump,st'.ct,st'.nm,fr⟩,Z',B',ss',us,⟨h'.ext,h'.zlt,hf1,h'.locs,h'.disj,fun s=>(hff fl (by simp) s).le hb,fun q=>(h'.refl q).le hb,fun q hq=>h'.fresh q (Nat.le_trans hb hq),h'.bone,h'.zin,⟨h'.nms.1,Nat.le_trans h'.nms.2 hb⟩,h'.bfix,h'.mrk,hf2,fun g hg s=>(hff g (by simp[hg]) s).le hb⟩,rfl,g2,fun s hs c hc=>(KB h' hss s hs c hc).le hb,hp⟩
      . exact hp.elim
   . refine wp_mono (Pg hty hsp (by exact hb0) h1 hs hok' a hr) ?_;rintro e a' w' ⟨E',hr',st',Z',B',h',hq⟩;refine⟨E',hr', ?_⟩;cases e with
     |normal=>exact⟨st',Z',B',h',hq⟩
     |ret=>exact⟨st',Z',B',h',hq⟩
     | _=>exact hq.elim
 . exact hs.elim
def V8 (run:Inl):A8:= {args:= [],res:= [],pre:=fun _=>False,post:=fun _ _=>True,inl:=some run}
end
end Go.Vc
namespace Go.Proofs.YtomjbooonannkaaGreat
abbrev Ln:=Int×Int
def A6 (s:List Int) (i:Int):Int:=s.getD i.toNat 0
def Lw (n:Int) (l:Ln):Prop:=0<=l.1/\l.1<n/\0<=l.2/\l.2<n
instance (n:Int) (l:Ln):Decidable (Lw n l):=by unfold Lw;infer_instance
def F2 (n:Int) (ls:List Ln):Prop:=0<=n/\n<=16384/\∀l∈ls,Lw n l
def M6 (n:Int) (ls:List Ln):Int:=if n<0\/16384<n then 3 else if∀l∈ls,Lw n l then 0 else 12
def UF (s:List Int):Prop:=∀i:Nat,i<s.length->0<=A6 s i/\A6 s i<=i
def GW (s:List Int):Nat->Int->Int
 |0,b=>b
 |k+1,b=>if A6 s b=b then b else GW s k (A6 s b)
def root (s:List Int) (b:Int):Int:=GW s b.toNat b
def ES (n:Int):List Int:=(List.range n.toNat).map Int.ofNat
def Y0 (L:List Int) (l:Ln):List Int:=L.map fun x=>if x=max (A6 L l.1) (A6 L l.2)then min (A6 L l.1) (A6 L l.2)else x
def D1 (n:Int) (ls:List Ln):List Int:=ls.foldl Y0 (ES n)
def CZ (L:List Int):Nat:=((List.range L.length).filter fun(b:Nat)=>decide (A6 L (b:Int)=(b:Int))).length
def NX (ls:List Ln) (g:Nat->Bool):List Ln:=((List.range ls.length).filter fun i=> !(g i)).map fun i=>ls.getD i (0,0)
def sep (n:Int) (ls:List Ln) (g:Nat->Bool):Bool:=decide (CZ (D1 n ls)<CZ (D1 n (NX ls g)))
def adj (N:List (List Ln)) (i:Int) (l:Ln):List (List Ln):=
 let N1:=N.set l.1.toNat (N.getD l.1.toNat []++ [(i,l.2)])
 N1.set l.2.toNat (N1.getD l.2.toNat []++ [(i,l.1)])
def I8 (n:Int) (ls:List Ln):Nat->List Int×List Int×List (List Ln)
 |0=>(ES n,[],List.replicate n.toNat [])
 |k+1=>
  let p:=I8 n ls k
  let l:=ls.getD k (0,0)
  if A6 p.1 l.1=A6 p.1 l.2 then p else(Y0 p.1 l,p.2.1++ [(k:Int)],adj p.2.2 k l)
def B8 (n:Int) (ls:List Ln):List Int:=(I8 n ls ls.length).2.1
def Y1 (n:Int) (ls:List Ln):List (List Ln):=(I8 n ls ls.length).2.2
def mB (m:List (Int×Bool)) (i:Int):Bool:=(Go.Vc.V9 (.int .i64) i m).getD false
def Eb (n:Int) (ls:List Ln):List Int:=((List.range ls.length).filter fun i=>sep n ls (fun j=>j==i)).map Int.ofNat
def eU (p:Int->Bool) (l:List Int):Int:=match l.findIdx? p with
 |some i=>(i:Int)
 |none=> -1
end Go.Proofs.YtomjbooonannkaaGreat
namespace Go.Proofs.YtomjbooonannkaaGreat
open Go.Vc Go.Gw
abbrev FrV:=Int×Int
abbrev J4:=ByteArray×List Int×Int
abbrev C9:=ByteArray×Int×Int×FrV×FrV×FrV×Int×Int×List Int
abbrev Lk:=Int×Int
abbrev C7:=ByteArray×Int×Int×Int×List Lk×Int×Int×Int×Int×Int×Int×Int×Int×Int×Int×Int×Int×Int×List Int×Int×Int×Int
abbrev C5:=ByteArray×Int×Int×Int×Int×Int×Int×FrV
abbrev I9:=ByteArray×Int×List Int×List Int×List Int
abbrev I3:=Int×Int×Int
abbrev G6:=ByteArray×List Int×Bool×List I3
abbrev A5:=Int×List Int×List J4×List C9×List C7×List C5×List I9×List G6
abbrev F5:=A5×(Int×Int×Int)×Int
def dS:ByteArray:=⟨#[]⟩
def nG:J4:=(dS,[],0)
def DD:C9:=(dS,0,0,(0,0),(0,0),(0,0),0,0,[])
def mK:C7:=(dS,0,0,0,[],0,0,0,0,0,0,0,0,0,0,0,0,0,[],0,0,0)
def dSt:C5:=(dS,0,0,0,0,0,0,0,0)
def dTi:I9:=(dS,0,[],[],[])
def dV:G6:=(dS,[],false,[])
noncomputable def D6 (e:Int) (p:Prop) (c:Int):Int:=open Classical in if e=0/\¬p then c else e
noncomputable def Tg (e:Int):List (Prop×Int)->Int
 | []=>e
 | (p,c)::l=>Tg (D6 e p c) l
def D3 (lo hi n:Int):Prop:=lo<=n/\n<=hi
def Sz (l:List Int):Prop:=l.Pairwise (· < ·)
def Rh (f:FrV):Prop:=1<=f.2/\f.2<=1048576/\ -1048576<=f.1/\f.1<=1048576
def sC:ByteArray:=⟨#[99,111,114,114,101,99,116,105,118,101]⟩
def mN (b:Int):Prop:=97<=b/\b<=122\/48<=b/\b<=57\/b=95
def Xc (s:ByteArray):Prop:=1<=s.data.toList.length/\s.data.toList.length<=16/\s≠sC/\97<=M9 s 0/\M9 s 0<=122/\∀i:Nat,i<s.data.toList.length->mN (M9 s i)
noncomputable def Ai (H:Int) (l:List Int) (lo hi e:Int):Int:=Tg e [((l.length:Int)=H,4),(∀n∈l,D3 lo hi n,3)]
noncomputable def Gk (H:Int) (l:List Int) (e:Int):Int:=Tg e [(∀n∈l,D3 0 (IntKind.i64.wrap (H-1)) n,3),(Sz l,11)]
noncomputable def N3 (N:List ByteArray) (i:Nat) (e:Int):Int:=Tg e [(Xc (N.getD i dS),9),(∀k,k<i->N.getD k dS≠N.getD i dS,10)]
def GD (c:A5):List ByteArray:=c.2.2.1.map (·.1)
def DK (c:A5):List ByteArray:=c.2.2.2.1.map (·.1)
def DO (c:A5):List ByteArray:=c.2.2.2.2.1.map (·.1)
def DL (c:A5):List ByteArray:=c.2.2.2.2.2.1.map (·.1)
def DN (c:A5):List ByteArray:=c.2.2.2.2.2.2.1.map (·.1)
def ET (c:A5):List ByteArray:=c.2.2.2.2.2.2.2.map (·.1)
def T6 (c:A5) (b:Int):Prop:=D3 0 ((c.2.2.1.length:Int)-1) b
noncomputable def Bs (c:A5) (e:Int):Int:=Tg (Ai c.1 c.2.1 0 1048576 (D6 e (D3 1 24 c.1) 3)) [(D3 1 32 c.2.2.1.length,8),((c.2.2.2.1.length:Int)<=64,8),((c.2.2.2.2.1.length:Int)<=16,8),((c.2.2.2.2.2.1.length:Int)<=8,8),((c.2.2.2.2.2.2.1.length:Int)<=8,8),((c.2.2.2.2.2.2.2.length:Int)<=64,8)]
noncomputable def IY (c:A5) (i:Nat) (e:Int):Int:=D6 (Ai c.1 (c.2.2.1.getD i nG).2.1 0 1048576 (N3 (GD c) i e)) (D3 0 1048576 (c.2.2.1.getD i nG).2.2) 3
noncomputable def PQ (c:A5) (l:C9) (e:Int):Int:=Gk c.1 l.2.2.2.2.2.2.2.2 (Tg e [(T6 c l.2.1,12),(T6 c l.2.2.1,12),(l.2.2.1≠l.2.1,1),(Rh l.2.2.2.1/\0<l.2.2.2.1.1,3),(Rh l.2.2.2.2.1/\l.2.2.2.2.1.1<=0,3),(Rh l.2.2.2.2.2.1/\0<=l.2.2.2.2.2.1.1,3),(D3 0 1048576 l.2.2.2.2.2.2.1,3),(D3 l.2.2.2.2.2.2.1 1048576 l.2.2.2.2.2.2.2.1,3)])
noncomputable def Ia (c:A5) (i:Nat) (e:Int):Int:=PQ c (c.2.2.2.1.getD i DD) (N3 (DK c) i e)
def HF (l:List Lk):Int:=(l.map (·.1)).sum
noncomputable def MM (l:List Lk) (lo hi e:Int):Int:=Tg e [((l.length:Int)<=8,8),(∀s∈l,D3 1 1048576 s.1/\D3 (-1048576) 1048576 s.2,3),(l.Pairwise fun a b=>a.2<=b.2,11),(HF l=IntKind.i64.wrap (hi-lo),4)]
noncomputable def WA (c:A5) (u:C7) (e:Int):Int:=
 Tg (Gk c.1 u.2.2.2.2.2.2.2.2.2.2.2.2.2.2.2.2.2.2.1 (Tg (MM u.2.2.2.2.1 u.2.2.1 u.2.2.2.1 (Tg e [(T6 c u.2.1,12),(D3 0 1048576 u.2.2.1,3),(D3 u.2.2.1 1048576 u.2.2.2.1,3)]))
  [(D3 0 1048576 u.2.2.2.2.2.1,3),(D3 0 1048576 u.2.2.2.2.2.2.1,3),(D3 0 1048576 u.2.2.2.2.2.2.2.1,3),(D3 u.2.2.1 u.2.2.2.1 u.2.2.2.2.2.2.2.2.1,3),(D3 u.2.2.1 u.2.2.2.1 u.2.2.2.2.2.2.2.2.2.1,3),(D3 0 24 u.2.2.2.2.2.2.2.2.2.2.1,3),(D3 0 24 u.2.2.2.2.2.2.2.2.2.2.2.1,3),(D3 0 24 u.2.2.2.2.2.2.2.2.2.2.2.2.1,3),(D3 0 1048576 u.2.2.2.2.2.2.2.2.2.2.2.2.2.1,3),(D3 0 1048576 u.2.2.2.2.2.2.2.2.2.2.2.2.2.2.1,3),(D3 0 24 u.2.2.2.2.2.2.2.2.2.2.2.2.2.2.2.1,3),(D3 0 1048576 u.2.2.2.2.2.2.2.2.2.2.2.2.2.2.2.2.1,3),(D3 0 1048576 u.2.2.2.2.2.2.2.2.2.2.2.2.2.2.2.2.2.1,3)]))
  [((u.2.2.2.2.2.2.2.2.2.2.2.2.2.2.2.2.2.2.2.1=0\/u.2.2.2.2.2.2.2.2.2.2.2.2.2.2.2.2.2.2.2.1=1)\/u.2.2.2.2.2.2.2.2.2.2.2.2.2.2.2.2.2.2.2.1=2,12),(u.2.2.2.2.2.2.2.2.2.2.2.2.2.2.2.2.2.2.2.1≠1\/u.2.2.2.2.2.2.2.2.2.2.2.2.1≠0,16),(D3 1 48 u.2.2.2.2.2.2.2.2.2.2.2.2.2.2.2.2.2.2.2.2.1,3),(u.2.2.2.2.2.2.2.2.2.2.2.2.2.2.2.2.2.2.2.1≠1\/u.2.2.2.2.2.2.2.2.2.2.2.2.2.2.2.2.2.2.2.2.1<=u.2.2.2.2.2.2.2.2.2.2.2.2.1,3),(if u.2.2.2.2.2.2.2.2.2.2.2.2.2.2.2.2.2.2.2.1=2 then D3 u.2.2.1 u.2.2.2.1 u.2.2.2.2.2.2.2.2.2.2.2.2.2.2.2.2.2.2.2.2.2 else D3 0 0 u.2.2.2.2.2.2.2.2.2.2.2.2.2.2.2.2.2.2.2.2.2,3)]
noncomputable def Gr (c:A5) (i:Nat) (e:Int):Int:=WA c (c.2.2.2.2.1.getD i mK) (N3 (DO c) i e)
noncomputable def KJ (c:A5) (s:C5) (e:Int):Int:=Tg e [(T6 c s.2.1,12),(D3 0 1048576 s.2.2.1,3),(D3 0 s.2.2.1 s.2.2.2.1,3),(D3 0 s.2.2.1 s.2.2.2.2.1,3),(D3 0 1048576 s.2.2.2.2.2.1,3),(D3 0 1048576 s.2.2.2.2.2.2.1,3),((Rh s.2.2.2.2.2.2.2/\0<s.2.2.2.2.2.2.2.1)/\s.2.2.2.2.2.2.2.1<=s.2.2.2.2.2.2.2.2,3)]
noncomputable def V5 (c:A5) (i:Nat) (e:Int):Int:=KJ c (c.2.2.2.2.2.1.getD i dSt) (N3 (DL c) i e)
noncomputable def mA (c:A5) (t:I9) (e:Int):Int:=Ai c.1 t.2.2.2.2 (-1048576) 1048576 (Ai c.1 t.2.2.2.1 0 1048576 (Ai c.1 t.2.2.1 0 1048576 (D6 e (T6 c t.2.1) 12)))
noncomputable def Xy (c:A5) (i:Nat) (e:Int):Int:=mA c (c.2.2.2.2.2.2.1.getD i dTi) (N3 (DN c) i e)
noncomputable def Wx (c:A5) (o:G6) (e:Int):Int:=Tg e [((o.2.2.2.length:Int)=0\/o.2.2.1=true,16),((o.2.2.2.length:Int)<=16,8),(∀m∈o.2.2.2,D3 0 ((c.2.2.2.2.1.length:Int)-1) m.1,12),(Sz (o.2.2.2.map (·.1)),11),(∀m∈o.2.2.2,D3 0 1048576 m.2.1/\D3 0 1048576 m.2.2,3)]
noncomputable def A2k (c:A5) (o:G6) (e:Int):Int:=Wx c o (Tg e [((o.2.1.length:Int)=1\/(o.2.1.length:Int)=2,4),(∀l∈o.2.1,D3 0 ((c.2.2.2.1.length:Int)-1) l,12),(Sz o.2.1,11)])
noncomputable def Vp (c:A5) (i:Nat) (e:Int):Int:=A2k c (c.2.2.2.2.2.2.2.getD i dV) (N3 (ET c) i e)
noncomputable def F8 (n:Nat) (f:Nat->Int->Int) (e:Int):Int:=(List.range n).foldl (fun e i=>f i e) e
def M4 (c:A5) (h:Int):List Int:=((List.range c.2.2.2.1.length).filter fun i=>decide (h∉(c.2.2.2.1.getD i DD).2.2.2.2.2.2.2.2)).map Int.ofNat
def Au (c:A5) (i:Int):Ln:=((c.2.2.2.1.getD i.toNat DD).2.1,(c.2.2.2.1.getD i.toNat DD).2.2.1)
def kU (c:A5) (l g:List Int):Nat:=CZ (D1 (c.2.2.1.length:Int) ((l.filter fun i=>decide (i∉g)).map (Au c)))
noncomputable def JI (c:A5) (h:Nat) (e:Int):Int:=F8 c.2.2.2.2.2.2.2.length (fun i e=>D6 e (kU c (M4 c h) (c.2.2.2.2.2.2.2.getD i dV).2.1=kU c (M4 c h) []) 13) e
noncomputable def BW (c:A5):Int:=F8 c.2.2.2.2.2.2.2.length (Vp c) (F8 c.2.2.2.2.2.2.1.length (Xy c) (F8 c.2.2.2.2.2.1.length (V5 c) (F8 c.2.2.2.2.1.length (Gr c) (F8 c.2.2.2.1.length (Ia c) (F8 c.2.2.1.length (IY c) (Bs c 0))))))
noncomputable def L3 (c:A5):Int:=F8 c.1.toNat (JI c) (BW c)
def dgA:ByteArray:=⟨#[48,49,50,51,52,53,54,55,56,57,97,98,99,100,101,102]⟩
def KT (i:Int):ByteArray:=dgA.extract i.toNat (i.toNat+1)
def P7 (k o:F5) (e:Int):Prop:=o.1=k.1/\o.2.1.2.1=k.2.1.2.1/\o.2.2=e
def Ph (s:ByteArray):Prop:=s.data.toList.length<=1000000
structure Bq (c:A5):Prop where
 b:c.2.2.1.length<=1000
 l:c.2.2.2.1.length<=1000
 u:c.2.2.2.2.1.length<=1000
 s:c.2.2.2.2.2.1.length<=1000
 t:c.2.2.2.2.2.2.1.length<=1000
 o:c.2.2.2.2.2.2.2.length<=1000
 m:∀o∈c.2.2.2.2.2.2.2,o.2.2.2.length<=100000
 nb:∀x∈c.2.2.1,Ph x.1
 nl:∀x∈c.2.2.2.1,Ph x.1
 nu:∀x∈c.2.2.2.2.1,Ph x.1
 ns:∀x∈c.2.2.2.2.2.1,Ph x.1
 nt:∀x∈c.2.2.2.2.2.2.1,Ph x.1
 no:∀x∈c.2.2.2.2.2.2.2,Ph x.1
def TF (c:A5):Prop:=c.2.2.1.length<=32/\∀l∈c.2.2.2.1,T6 c l.2.1/\T6 c l.2.2.1
def bA (H:Int) (a:List Int):Prop:=(a.length=0\/a.length=1)/\∀n∈a,0<=n/\n<H
def sLi:ByteArray:=⟨#[108]⟩
def sUn:ByteArray:=⟨#[117]⟩
def UH (i f t H:Int) (l:C9):Prop:=l.1=sLi++KT i/\l.2.1=f/\l.2.2.1=t/\∀c:A5,c.1=H->T6 c f->T6 c t->t≠f->PQ c l 0=0
def KV (i B H:Int) (u:C7):Prop:=u.1=sUn++KT i/\∀c:A5,c.1=H->(c.2.2.1.length:Int)=B->WA c u 0=0
theorem cZ {α:Type} (x y:α):sel true x y=x:=rfl
theorem VS {α:Type} (x y:α):sel false x y=y:=rfl
theorem Q9 (a b:Bool):sel a true b=(a||b):=by cases a<;>rfl
theorem J5 (a b:Bool):sel a b false=(a&&b):=by cases a<;>rfl
theorem wr {a:Int} (h1: -9223372036854775808<=a) (h2:a<=9223372036854775807):IntKind.i64.wrap a=a:=IntWalk.i64_in _ ⟨h1,h2⟩
theorem S6 {α:Type} {d:α} {l:List α} {i:Int} (h0:0<=i) (h1:i<(l.length:Int)):gx d l i∈l:=List.mem_of_getElem? (S5 h0 h1)
theorem E7 {α:Type} {d:α} {l:List α} {i:Int} (h0:0<=i) (h1:i<(l.length:Int)):gx d l i=l.getD i.toNat d:=by
 have:=S5 (d:=d) h0 h1;rw[List.getD_eq_getElem?_getD,this];rfl
theorem Ch {α:Type} {d:α} {l:List α} {q:α->Prop} {i:Int} (h0:0<=i) (h1:i<(l.length:Int)) (hb:∀x∈l.take i.toNat,q x) (hq:q (gx d l i)):∀x∈l.take (i+1).toNat,q x:=by
 intro x hx;rw[show(i+1).toNat=i.toNat+1 from by omega,List.take_add_one,S5 (d:=d) h0 h1]at hx;simp at hx;rcases hx with hx|rfl
 . exact hb x hx
 . exact hq
theorem G5 {α:Type} {l:List α} {i:Int} (h:(l.length:Int)<=i):l.take i.toNat=l:=List.take_of_length_le (by omega)
end Go.Proofs.YtomjbooonannkaaGreat
namespace Go.Proofs.YtomjbooonannkaaGreat
theorem M3 {s:List Int} {k:Nat} {v i:Int} (hk:k<s.length):A6 (s.set k v) i=if i.toNat=k then v else A6 s i:=by
 unfold A6;simp only[List.getD_eq_getElem?_getD,List.getElem?_set];by_cases h:k=i.toNat
 . subst h;simp[hk]
 . rw[if_neg h,if_neg (fun hh=>h hh.symm)]
theorem UF.le {s:List Int} (h:UF s) {b:Int} (h0:0<=b) (h1:b<(s.length:Int)):0<=A6 s b/\A6 s b<=b:=by
 have:=h b.toNat (by omega);rw[show((b.toNat:Nat):Int)=b from by omega]at this;exact this
theorem Tz {s:List Int} (h:UF s):∀(k:Nat) (b:Int),0<=b->b<(s.length:Int)->b.toNat<=k->GW s k b=GW s b.toNat b
 |0,b,h0,h1,hk=>by rw[show b.toNat=0 from by omega]
 |k+1,b,h0,h1,hk=>by
  obtain⟨a0,a1⟩:=h.le h0 h1;by_cases hb:A6 s b=b
  . simp only[GW,if_pos hb];cases hm:b.toNat with
    |zero=>rfl
    |succ m=>simp only[GW,if_pos hb]
  . simp only[GW,if_neg hb];have hlt:A6 s b<b:=by omega
    rw[Tz h k (A6 s b) a0 (by omega) (by omega)];cases hm:b.toNat with
    |zero=>omega
    |succ m=>
     simp only[GW,if_neg hb];rw[Tz h m (A6 s b) a0 (by omega) (by omega)]
theorem jE {s:List Int} (h:UF s) {b:Int} (h0:0<=b) (h1:b<(s.length:Int)):root s b=if A6 s b=b then b else root s (A6 s b):=by
 obtain⟨a0,a1⟩:=h.le h0 h1;unfold root;rw[<-Tz h (b.toNat+1) b h0 h1 (by omega)];simp only[GW];split
 . rfl
 . exact Tz h _ _ a0 (by omega) (by omega)
theorem Cn {s:List Int} (h:UF s) {b:Int} (h0:0<=b) (h1:b<(s.length:Int)) (hb:A6 s b=b):root s b=b:=by rw[jE h h0 h1,if_pos hb]
theorem Dm {s:List Int} (h:UF s) {b:Int} (h0:0<=b) (h1:b<(s.length:Int)):root s (A6 s b)=root s b:=by
 by_cases hb:A6 s b=b
 . rw[hb]
 . rw[jE h h0 h1,if_neg hb]
theorem QU {s:List Int} (h:UF s) {q:Int->Prop} (h1:∀b,0<=b->b<(s.length:Int)->A6 s b=b->q b) (h2:∀b,0<=b->b<(s.length:Int)->A6 s b<b->0<=A6 s b->q (A6 s b)->q b):∀b,0<=b->b<(s.length:Int)->q b:=by
 have key:∀(k:Nat) (b:Int),b.toNat<=k->0<=b->b<(s.length:Int)->q b:=by
  intro k
  induction k with
  |zero=>
   intro b hk h0 hl;obtain⟨a0,a1⟩:=h.le h0 hl;exact h1 b h0 hl (by omega)
  |succ k ih=>
   intro b hk h0 hl;obtain⟨a0,a1⟩:=h.le h0 hl;by_cases hb:A6 s b=b
   . exact h1 b h0 hl hb
   . exact h2 b h0 hl (by omega) a0 (ih _ (by omega) a0 (by omega))
 exact fun b h0 hl=>key b.toNat b (Nat.le_refl _) h0 hl
theorem YW {s:List Int} (h:UF s) {b:Int} (h0:0<=b) (h1:b<(s.length:Int)):0<=root s b/\root s b<=b/\A6 s (root s b)=root s b:=by
 refine QU h (q:=fun b=>0<=root s b/\root s b<=b/\A6 s (root s b)=root s b) (fun b h0 h1 hb=> ?_) (fun b h0 h1 hb hn hq=> ?_) b h0 h1
 . rw[Cn h h0 h1 hb];exact⟨h0,Int.le_refl _,hb⟩
 . rw[Dm h h0 h1]at hq;exact⟨hq.1,by omega,hq.2.2⟩
theorem lN {s s':List Int} (h:UF s) (h':UF s') (hl:s'.length=s.length) (hr:∀i:Int,0<=i->i<(s.length:Int)->root s (A6 s' i)=root s i) (hf:∀i:Int,0<=i->i<(s.length:Int)->A6 s' i=i->A6 s i=i):∀i:Int,0<=i->i<(s.length:Int)->root s' i=root s i:=by
 intro i h0 h1;refine QU h' (q:=fun i=>root s' i=root s i) (fun b h0 h1 hb=> ?_) (fun b h0 h1 hb hn hq=> ?_) i h0 (by omega)
 . rw[Cn h' h0 h1 hb,Cn h h0 (by omega) (hf b h0 (by omega) hb)]
 . rw[<-Dm h' h0 h1,hq,hr b h0 (by omega)]
theorem halve {s:List Int} (h:UF s) {b:Int} (h0:0<=b) (h1:b<(s.length:Int)):UF (s.set b.toNat (A6 s (A6 s b)))/\∀i:Int,0<=i->i<(s.length:Int)->root (s.set b.toNat (A6 s (A6 s b))) i=root s i:=by
 have hb:b.toNat<s.length:=by omega
 obtain⟨a0,a1⟩:=h.le h0 h1;obtain⟨c0,c1⟩:=h.le a0 (by omega:A6 s b<(s.length:Int));have hu:UF (s.set b.toNat (A6 s (A6 s b))):=fun i hi=>by
  rw[List.length_set]at hi;rw[M3 hb];split
  . rename_i e;rw[show((i:Nat):Int)=b from by omega];omega
  . exact h i hi
 refine⟨hu,lN h hu (by rw[List.length_set]) (fun i i0 i1=> ?_) (fun i i0 i1=> ?_)⟩
 . rw[M3 hb];split
   . rw[show i=b from by omega,Dm h a0 (by omega),Dm h h0 h1]
   . exact Dm h i0 i1
 . rw[M3 hb];split
   . intro e;have:i=b:=by omega
     subst this;omega
   . exact id
theorem oM {s:List Int} (h:UF s) {m M:Int} (m0:0<=m) (mM:m<=M) (hM:M<(s.length:Int)) (fm:A6 s m=m) (fM:A6 s M=M):
 UF (s.set M.toNat m)/\∀i:Int,0<=i->i<(s.length:Int)->root (s.set M.toNat m) i=if root s i=M then m else root s i:=by
 have hk:M.toNat<s.length:=by omega
 have hu:UF (s.set M.toNat m):=fun i hi=>by
  rw[List.length_set]at hi;rw[M3 hk];split
  . omega
  . exact h i hi
 have hl:(s.set M.toNat m).length=s.length:=List.length_set;refine⟨hu,fun i h0 h1=> ?_⟩;refine QU hu (q:=fun i=>root (s.set M.toNat m) i=if root s i=M then m else root s i) (fun b h0 h1 hb=> ?_) (fun b h0 h1 hb hn hq=> ?_) i h0 (by omega)
 . rw[Cn hu h0 h1 hb];rw[M3 hk]at hb;split at hb
   . have e:b=M:=by omega
     rw[e,Cn h (by omega) (by omega) fM,if_pos rfl];omega
   . rename_i hne;rw[Cn h h0 (by omega) hb,if_neg (by omega)]
 . rw[<-Dm hu h0 h1,hq];rw[M3 hk]at hb⊢;split at hb
   . rename_i e;have e:b=M:=by omega
     have e2:b.toNat=M.toNat:=by omega
     rw[if_pos e2,e,Cn h (by omega) (by omega) fM,Cn h m0 (by omega) fm,if_pos rfl];split<;>rfl
   . rename_i hne;rw[if_neg hne,Dm h h0 (by omega)]
end Go.Proofs.YtomjbooonannkaaGreat
namespace Go.Proofs.YtomjbooonannkaaGreat
open Go.Vc Go.Gw
theorem NR {n:Int} {ls:List Ln} :M6 n ls=0↔F2 n ls:=by
 unfold M6 F2;split
 . constructor
   . intro h;omega
   . intro h;omega
 . split
   . rename_i h1 h2;exact⟨fun _=>⟨by omega,by omega,h2⟩,fun _=>rfl⟩
   . rename_i h1 h2;exact⟨fun h=>by omega,fun h=>absurd h.2.2 h2⟩
variable {e c:Int} {p q:Prop}
theorem N4 (h:e≠0) (p:Prop) (c:Int):D6 e p c=e:=by unfold D6;rw[if_neg fun hh=>h hh.1]
theorem Fj (h:p) (e c:Int):D6 e p c=e:=by unfold D6;rw[if_neg fun hh=>hh.2 h]
theorem KU (h:¬p) (c:Int):D6 0 p c=c:=by unfold D6;rw[if_pos ⟨rfl,h⟩]
theorem C2 (h:e=0->(p↔q)) (c:Int):D6 e p c=D6 e q c:=by
 by_cases he:e=0
 . rw[show p=q from propext (h he)]
 . rw[N4 he,N4 he]
theorem Dh (hc:c≠0) (e:Int) (p q:Prop):D6 (D6 e p c) q c=D6 e (p/\q) c:=by
 by_cases he:e=0
 . subst he;by_cases hp:p
   . rw[Fj hp];exact C2 (fun _=>by simp[hp]) c
   . rw[KU hp,N4 hc,KU fun h=>hp h.1]
 . rw[N4 he,N4 he,N4 he]
theorem aQ (h:D6 e p c≠0) (hq:q->p):D6 e p c=D6 e q c:=by
 by_cases he:e=0
 . subst he;by_cases hp:p
   . exact absurd (Fj hp 0 c) h
   . rw[KU hp,KU fun hh=>hp (hq hh)]
 . rw[N4 he,N4 he]
theorem N6 (hc:c≠0):D6 e p c=0↔e=0/\p:=by
 by_cases he:e=0
 . subst he;by_cases hp:p
   . rw[Fj hp];simp[hp]
   . rw[KU hp];simp[hp,hc]
 . rw[N4 he];simp[he]
theorem Cj (h:e≠0):∀l:List (Prop×Int),Tg e l=e
 | []=>rfl
 | (p,c)::l=>by show Tg (D6 e p c) l=e;rw[N4 h];exact Cj h l
theorem M7 (n:Nat) (f:Nat->Int->Int) (e:Int):F8 (n+1) f e=f n (F8 n f e):=by
 unfold F8;rw[List.range_succ,List.foldl_append];rfl
theorem Hw {α:Type} {l:List α} {i:Int} {P:α->Prop} {d:α} (i0:0<=i) (hi:i<(l.length:Int)):(∀n∈l.take (i+1).toNat,P n)↔(∀n∈l.take i.toNat,P n)/\P (gx d l i):=by
 have e:l.take (i+1).toNat=l.take i.toNat++ [gx d l i]:=by
  rw[show(i+1).toNat=i.toNat+1 from by omega,List.take_add_one,List.getElem?_eq_getElem (by omega)];unfold gx;rw[List.getD_eq_getElem?_getD,List.getElem?_eq_getElem (show i.toNat<l.length by omega)];rfl
 rw[e];simp only[List.mem_append,List.mem_singleton];exact⟨fun h=>⟨fun n hn=>h n (.inl hn),h _ (.inr rfl)⟩,fun h n hn=>hn.elim (h.1 n) fun hh=>hh▸h.2⟩
theorem ZQ {α:Type} {l:List α} {P:α->Prop} (k:Nat) (h:∀n∈l,P n):∀n∈l.take k,P n:=fun n hn=>h n (List.mem_of_mem_take hn)
abbrev dZ:=Int×Int×List Int×List J4×List C9×List C7×List C5×List I9×List G6×Int×Int×Int×Int×Unit
def Tq (p:dZ):A5:=(p.2.1,p.2.2.1,p.2.2.2.1,p.2.2.2.2.1,p.2.2.2.2.2.1,p.2.2.2.2.2.2.1,p.2.2.2.2.2.2.2.1,p.2.2.2.2.2.2.2.2.1)
def lpX (p:dZ):Int:=p.2.2.2.2.2.2.2.2.2.2.1
def Ad (p:dZ):Int:=p.2.2.2.2.2.2.2.2.2.2.2.2.1
theorem Bu {k:F5} {e:Int} {Q:F5×Unit->Prop} {W:F5->Prop} (h:∀w:Int×Int×Int,w.2.1=k.2.1.2.1->Q ((k.1,w,e),())):∀(_:Unit) (o:F5×Unit),True->W o.1/\True->True->P7 k o.1 e->Q o:=by
 rintro _ ⟨⟨c,w,e'⟩,_⟩ _ _ _ ⟨h1,h2,h3⟩;have h1:c=k.1:=h1;have h3:e'=e:=h3;subst h1 h3;exact h w h2
theorem V2 {c:A5} {w0:Int×Int×Int} {e0 e:Int} {Q:F5×Unit->Prop} {W:F5->Prop} (h:∀w:Int×Int×Int,w.2.1=w0.2.1->Q ((c,w,e),())):∀(_:Unit) (o:F5×Unit),True->W o.1/\True->True->P7 (c,w0,e0) o.1 e->Q o:=Bu (k:=(c,w0,e0)) h
end Go.Proofs.YtomjbooonannkaaGreat
namespace Go.Proofs.YtomjbooonannkaaGreat
def Ht (ls:List Ln) (e:Int):Ln:=ls.getD e.toNat (0,0)
def Aj (l:Ln) (u v:Int):Prop:=l=(u,v)\/l=(v,u)
def M1 (up:List Ln) (b:Int):Ln:=up.getD b.toNat (0,0)
def A8b (n:Int) (ls:List Ln) (order:List Int) (up:List Ln) (k:Nat) (b:Int):Prop:=
 0<=b/\b<n/\((M1 up b=(-1,b)/\A6 (D1 n ls) b=b)\/((M1 up b).1∈B8 n ls/\Aj (Ht ls (M1 up b).1) b (M1 up b).2/\∃j,j<k/\order[j]? =some (M1 up b).2))
structure KC (n:Int) (ls:List Ln) (order:List Int) (up:List Ln):Prop where
 len:order.length=n.toNat
 nod:order.Nodup
 all:∀b,0<=b->b<n->b∈order
 ulen:up.length=n.toNat
 at':∀(k:Nat) (b:Int),order[k]? =some b->A8b n ls order up k b
def nv:List Int->Nat
 | []=>0
 |a::l=>a.toNat+4294967296*nv l
def nc (n:Nat):List Int:=if h:n=0 then []else((n%4294967296:Nat):Int)::nc (n/4294967296)
termination_by n
decreasing_by omega
def kX (x:Int):Prop:=0<=x/\x<=4294967295
def Ov (l:List Int):Prop:=∀x∈l,kX x
theorem Fo:nc 0= []:=by rw[nc];rfl
theorem JN {n:Nat} (h:n≠0):nc n=((n%4294967296:Nat):Int)::nc (n/4294967296):=by rw[nc];simp[h]
theorem Xf (n:Nat):nv (nc n)=n:=by
 induction n using Nat.strongRecOn with
 | _ n ih=>
  by_cases h:n=0
  . subst h;rw[Fo];rfl
  . rw[JN h];simp only[nv,ih (n/4294967296) (by omega)];omega
theorem GC (n:Nat):Ov (nc n):=by
 induction n using Nat.strongRecOn with
 | _ n ih=>
  by_cases h:n=0
  . subst h;rw[Fo];intro x hx;cases hx
  . rw[JN h];intro x hx;rcases List.mem_cons.1 hx with rfl|hx
    . unfold kX;omega
    . exact ih (n/4294967296) (by omega) x hx
theorem fI {n:Nat} :nc n= []↔n=0:=by
 constructor
 . intro h;by_cases h0:n=0
   . exact h0
   . rw[JN h0]at h;cases h
 . rintro rfl;exact Fo
theorem iS (a:Int) (m:Nat) (ha:kX a) (h:a≠0\/m≠0):nc (a.toNat+4294967296*m)=a::nc m:=by
 unfold kX at ha;rw[JN (by omega)];congr 1
 . omega
 . congr 1;omega
theorem Zu (a b:List Int):nv (a++b)=nv a+4294967296^a.length*nv b:=by
 induction a with
 |nil=>simp[nv]
 |cons x a ih=>
  simp only[List.cons_append,nv,ih,List.length_cons,Nat.pow_succ];rw[Nat.mul_add, <-Nat.add_assoc, <-Nat.mul_assoc,Nat.mul_comm 4294967296 (4294967296^a.length)]
theorem pK (n:Nat):nv (List.replicate n 0)=0:=by
 induction n with
 |zero=>rfl
 |succ n ih=>simp[List.replicate_succ,nv,ih]
theorem PN {a:Int} {l:List Int} :Ov (a::l)↔kX a/\Ov l:=by simp[Ov]
theorem iX {l:List Int} (h:Ov l):nv l<4294967296^l.length:=by
 induction l with
 |nil=>simp[nv]
 |cons a l ih=>
  rw[PN]at h;have:=ih h.2;have h1:=h.1;unfold kX at h1;simp only[nv,List.length_cons,Nat.pow_succ];omega
theorem A7q {l:List Int} (h:Ov l) (hl:∀x,l.getLast? =some x->x≠0):nc (nv l)=l:=by
 induction l with
 |nil=>exact Fo
 |cons a l ih=>
  rw[PN]at h;simp only[nv];cases l with
  |nil=>
   have:=hl a rfl;rw[iS a _ h.1 (.inl this)];simp only[nv,Fo]
  |cons b l=>
   have ih:=ih h.2 (fun x hx=>hl x (by rw[List.getLast?_cons_cons];exact hx));have hn:nv (b::l)≠0:=by
    intro h0;rw[h0,Fo]at ih;cases ih
   rw[iS a _ h.1 (.inr hn),ih]
theorem iT {l:List Int} (h:Ov l) {n:Nat} (hn:n<=l.length) (hz:∀i x,n<=i->l[i]? =some x->x=0) (hl:n=0\/∃x,l[n-1]? =some x/\x≠0):l.take n=nc (nv l):=by
 have e:nv l=nv (l.take n):=by
  conv=>lhs;rw[<-List.take_append_drop n l]
  rw[Zu];have:l.drop n=List.replicate (l.length-n) 0:=by
   apply List.ext_getElem?;intro i;rw[List.getElem?_drop];by_cases hi:n+i<l.length
   . rw[List.getElem?_eq_getElem hi,List.getElem?_replicate,if_pos (by omega)];rw[hz (n+i) l[n+i] (by omega) (List.getElem?_eq_getElem hi)]
   . rw[List.getElem?_eq_none (by omega),List.getElem?_eq_none (by simp;omega)]
  rw[this,pK];simp
 rw[e]
 symm
 apply A7q
 . intro x hx;exact h x (List.mem_of_mem_take hx)
 . intro x hx;rw[List.getLast?_eq_getElem?,List.length_take,Nat.min_eq_left hn]at hx;rcases hl with h0| ⟨y,hy,hy0⟩
   . subst h0;simp at hx
   . rw[List.getElem?_take_of_lt (by
      rcases Nat.eq_zero_or_pos n with h0|h0
      . subst h0;simp at hx
      . omega),hy]at hx
     cases hx;exact hy0
theorem QC {n k:Nat} (h:n<4294967296^k):(nc n).length<=k:=by
 induction k generalizing n with
 |zero=>have:n=0:=by simpa using h
        subst this;rw[Fo];exact Nat.le_refl _
 |succ k ih=>
  by_cases h0:n=0
  . subst h0;rw[Fo];exact Nat.zero_le _
  . rw[JN h0,List.length_cons];have:n/4294967296<4294967296^k:=by
     rw[Nat.div_lt_iff_lt_mul (by decide)];rw[Nat.pow_succ]at h;exact h
    have:=ih this;omega
theorem A7p {n k:Nat} (h:k<(nc n).length):4294967296^k<=n:=by
 rcases Nat.lt_or_ge n (4294967296^k)with h1|h1
 . have:=QC h1;omega
 . exact h1
theorem A2g {m n:Nat} (h:m<=n):(nc m).length<=(nc n).length:=by
 apply QC;have:=iX (GC n);rw[Xf]at this;omega
theorem lG (n:Nat):n<4294967296^(nc n).length:=by
 have:=iX (GC n);rwa[Xf]at this
abbrev SY:=Bool×List Int
abbrev CN:=SY×List Int
def AU (a b:Nat):Int:=if a<b then -1 else if b<a then 1 else 0
def Qf (a b:Int):Int:=if a<b then -1 else if b<a then 1 else 0
def iv (x:SY):Int:=if x.1=true then -(nv x.2:Int)else(nv x.2:Int)
def ic (v:Int):SY:=(decide (v<0),nc v.natAbs)
def KF (x:CN):Int:=if nv x.2=0 then 0 else(iv x.1).sign
def rv (x:CN):Rat:=mkRat (iv x.1) (nv x.2)
def rc (q:Rat):CN:=(ic q.num,nc q.den)
def V4 (x:CN):Prop:=nv x.1.2<2147483648/\nv x.2<2147483648
instance (x:CN):Decidable (V4 x):=by unfold V4;infer_instance
def GE (x:CN):Int:=if nv x.2=0 then 0 else iv x.1
def FP (x:CN):Int:=if nv x.2=0 then 1 else(nv x.2:Int)
def zi:SY:=(false,[])
def zr:CN:=((false,[]),[])
def ri (k:Int):CN:=(ic k,[1])
def ME (a b:SY):Rat:=Rat.divInt (iv a) (iv b)
abbrev VQ (l:List Int):Prop:=l.length<=1000000000
abbrev sV2 (l:List Int):Prop:=l.length<=100000000
def sV3 (x:CN):Prop:=x.1.2.length<=1000000/\x.2.length<=1000000
abbrev LV:=Int×CN
def Ko (l:List LV):Prop:=l.Pairwise fun a b=>a.1<b.1
instance (l:List LV):Decidable (Ko l):=by unfold Ko;infer_instance
def Xg (ok:LV×LV×Unit->Prop) (φ:LV×LV×Unit->Int):Prop:=(∀a b,ok (a,b,()))/\(∀a b c,¬φ (a,b,())<0->¬φ (b,c,())<0->¬φ (a,c,())<0)/\(∀a b,φ (a,b,())<0->¬φ (b,a,())<0)
def Se (φ:LV×LV×Unit->Int) (l:List LV):Prop:=l.Pairwise fun a b=>¬φ (b,a,())<0
def CK (x:CN):Prop:=sV3 x/\nv x.2<=1
def A0t (v:List LV) (n:Int):Prop:=Ko v/\∀e∈v,0<=e.1/\e.1<n/\KF e.2≠0
instance (v:List LV) (n:Int):Decidable (A0t v n):=by unfold A0t;infer_instance
def dY (L:List Int):Prop:=∀i:Int,0<=i->i<(L.length:Int)->0<=A6 L i/\A6 L i<=i/\A6 L (A6 L i)=A6 L i
theorem Bl (L:List Int) (l:Ln):(Y0 L l).length=L.length:=by simp[Y0]
theorem Hs {L:List Int} {i:Int} (h0:0<=i) (h1:i<(L.length:Int)):L[i.toNat]? =some (A6 L i):=by
 have:i.toNat<L.length:=by omega
 unfold A6;rw[List.getD_eq_getElem?_getD,List.getElem?_eq_getElem this];rfl
theorem V7 {L:List Int} {l:Ln} {i:Int} (h0:0<=i) (h1:i<(L.length:Int)):A6 (Y0 L l) i=if A6 L i=max (A6 L l.1) (A6 L l.2)then min (A6 L l.1) (A6 L l.2)else A6 L i:=by
 have h2:=Hs (L:=Y0 L l) h0 (by rw[Bl];exact h1);unfold Y0 at h2;rw[List.getElem?_map,Hs h0 h1]at h2;simp only[Option.map_some,Option.some.injEq]at h2;exact h2.symm
theorem FY {L:List Int} {l:Ln} (h:A6 L l.1=A6 L l.2):Y0 L l=L:=by
 unfold Y0;rw[h]
 conv=>rhs;rw[<-List.map_id L]
 apply List.map_congr_left;intro x _;simp only[id];split
 . omega
 . rfl
theorem Di (n:Int):(ES n).length=n.toNat:=by simp[ES]
theorem Kq {n i:Int} (h0:0<=i) (h1:i<n):A6 (ES n) i=i:=by
 have h2:=Hs (L:=ES n) h0 (by rw[Di];omega);unfold ES at h2;rw[List.getElem?_map,List.getElem?_range (by omega)]at h2;simp only[Option.map_some,Option.some.injEq]at h2;rw[show A6 (ES n) i= _ from h2.symm];show((i.toNat:Nat):Int)=i;omega
theorem iL (n:Int):dY (ES n):=fun i h0 h1=>by
 rw[Di]at h1;rw[Kq h0 (by omega),Kq h0 (by omega)];omega
theorem dY.join {L:List Int} {l:Ln} (h:dY L) (hl:Lw L.length l):dY (Y0 L l):=fun i h0 h1=>by
 rw[Bl]at h1;obtain⟨a0,a1,b0,b1⟩:=hl;obtain⟨p0,p1,p2⟩:=h _ a0 a1;obtain⟨q0,q1,q2⟩:=h _ b0 b1;obtain⟨r0,r1,r2⟩:=h i h0 h1;rw[V7 h0 h1];have hm:A6 L (min (A6 L l.1) (A6 L l.2))=min (A6 L l.1) (A6 L l.2):=by
  rcases(by omega:min (A6 L l.1) (A6 L l.2)=A6 L l.1\/min (A6 L l.1) (A6 L l.2)=A6 L l.2)with e|e<;>rw[e]<;>assumption
 split
 . rename_i e;refine⟨by omega,by omega, ?_⟩;rw[V7 (by omega) (by omega),hm];split<;>rfl
 . rename_i e;refine⟨r0,r1, ?_⟩;rw[V7 r0 (by omega),r2,if_neg e]
theorem Tc (L:List Int):CZ L=((List.range L.length).filter fun(b:Nat)=>decide (A6 L (b:Int)=(b:Int))).length:=rfl
theorem ON {L:List Int} {l:Ln} (h:dY L) (hl:Lw L.length l) (hne:A6 L l.1≠A6 L l.2):CZ (Y0 L l)+1=CZ L:=by
 obtain⟨a0,a1,b0,b1⟩:=hl;obtain⟨p0,p1,p2⟩:=h _ a0 a1;obtain⟨q0,q1,q2⟩:=h _ b0 b1;have hM:A6 L (max (A6 L l.1) (A6 L l.2))=max (A6 L l.1) (A6 L l.2):=by
  rcases(by omega:max (A6 L l.1) (A6 L l.2)=A6 L l.1\/max (A6 L l.1) (A6 L l.2)=A6 L l.2)with e|e<;>rw[e]<;>assumption
 generalize hMe:max (A6 L l.1) (A6 L l.2)=M at hM;have hM0:0<=M:=by omega
 have hM1:M<(L.length:Int):=by omega
 rw[Tc,Tc,Bl];have hnd:((List.range L.length).filter fun(b:Nat)=>decide (A6 L (b:Int)=(b:Int))).Nodup:=List.nodup_range.filter _;have hmem:M.toNat∈(List.range L.length).filter fun(b:Nat)=>decide (A6 L (b:Int)=(b:Int)):=by
  rw[List.mem_filter,List.mem_range];refine⟨by omega, ?_⟩;rw[show((M.toNat:Nat):Int)=M from by omega];exact decide_eq_true hM
 have e:((List.range L.length).filter fun(b:Nat)=>decide (A6 (Y0 L l) (b:Int)=(b:Int)))=((List.range L.length).filter fun(b:Nat)=>decide (A6 L (b:Int)=(b:Int))).erase M.toNat:=by
  rw[hnd.erase_eq_filter,List.filter_filter];apply List.filter_congr;intro b hb;rw[List.mem_range]at hb;rw[V7 (by omega) (by omega),hMe];rw[Bool.eq_iff_iff];simp only[decide_eq_true_eq,Bool.and_eq_true,bne_iff_ne,ne_eq];obtain⟨r0,r1,r2⟩:=h (b:Int) (by omega) (by omega);split
  . rename_i eb;omega
  . rename_i eb;constructor
    . intro hh;exact⟨by intro hc;omega,hh⟩
    . intro hh;exact hh.2
 rw[e,List.length_erase_of_mem hmem];have:=List.length_pos_of_mem hmem;omega
theorem XF (n:Int):CZ (ES n)=n.toNat:=by
 rw[Tc,Di];have:(List.range n.toNat).filter (fun(b:Nat)=>decide (A6 (ES n) (b:Int)=(b:Int)))=List.range n.toNat:=List.filter_eq_self.2 fun b hb=>by
  rw[List.mem_range]at hb;rw[Kq (by omega) (by omega)];exact decide_eq_true rfl
 rw[this,List.length_range]
theorem Lg (n:Int) (ls:List Ln) (l:Ln):D1 n (ls++ [l])=Y0 (D1 n ls) l:=by simp[D1,List.foldl_append]
theorem L5 (n:Int) (ls:List Ln):(D1 n ls).length=n.toNat:=by
 unfold D1;have:∀(ls:List Ln) (L:List Int),(ls.foldl Y0 L).length=L.length:=by
  intro ls
  induction ls with
  |nil=>intro L;rfl
  |cons l ls ih=>intro L;rw[List.foldl_cons,ih,Bl]
 rw[this,Di]
theorem T7 {n:Int} {ls:List Ln} (hn:0<=n) (h:∀l∈ls,Lw n l):dY (D1 n ls):=by
 unfold D1;have:∀(ls:List Ln) (L:List Int),L.length=n.toNat->(∀l∈ls,Lw n l)->dY L->dY (ls.foldl Y0 L):=by
  intro ls
  induction ls with
  |nil=>intro L _ _ h;exact h
  |cons l ls ih=>
   intro L hl hb h;rw[List.foldl_cons];refine ih _ (by rw[Bl];exact hl) (fun x hx=>hb x (by simp[hx])) (h.join ?_);have:=hb l (by simp);rw[hl,show((n.toNat:Nat):Int)=n from by omega];exact this
 exact this ls _ (Di n) h (iL n)
theorem Zz {α:Type} {l:List α} {j:Nat} {d:α} (h:j<l.length):l.take (j+1)=l.take j++ [l.getD j d]:=by
 rw[List.take_add_one,List.getElem?_eq_getElem h,List.getD_eq_getElem?_getD,List.getElem?_eq_getElem h];rfl
theorem A1g (N:List (List Ln)) (i:Int) (l:Ln):(adj N i l).length=N.length:=by simp[adj]
theorem Cw {n:Int} {ls:List Ln} (hn:F2 n ls):∀k:Nat,k<=ls.length->(I8 n ls k).1=D1 n (ls.take k)/\(I8 n ls k).2.1.length+CZ (I8 n ls k).1=n.toNat/\(I8 n ls k).2.2.length=n.toNat/\∀r∈(I8 n ls k).2.2,r.length<=2*(I8 n ls k).2.1.length
 |0,_=>by
  refine⟨rfl, ?_,by simp[I8],fun r hr=> ?_⟩
  . simp[I8,XF]
  . simp only[I8,List.mem_replicate]at hr;rw[hr.2];simp
 |k+1,hk=>by
  obtain⟨h1,h2,h3,h4⟩:=Cw hn k (by omega);have hlt:k<ls.length:=hk;have hlb:=T7 (ls:=ls.take k) hn.1 (fun l hl=>hn.2.2 l (List.mem_of_mem_take hl));have hin:Lw n (ls.getD k (0,0)):=hn.2.2 _ (by rw[List.getD_eq_getElem?_getD,List.getElem?_eq_getElem hlt];exact List.getElem_mem hlt);simp only[I8];rw[h1]at h2⊢;split
  . rename_i e;refine⟨?_, ?_,h3,h4⟩
    . rw[h1,Zz (d:=((0:Int),(0:Int))) hlt,Lg,FY e]
    . rw[h1];exact h2
  . rename_i e;have hin2:Lw ((D1 n (ls.take k)).length:Int) (ls.getD k (0,0)):=by
     rw[L5,show((n.toNat:Nat):Int)=n from by have:=hn.1;omega];exact hin
    have hc:=ON hlb hin2 e;refine⟨by rw[Zz (d:=((0:Int),(0:Int))) hlt,Lg], ?_,by rw[A1g];exact h3,fun r hr=> ?_⟩
    . simp only[List.length_append,List.length_singleton];omega
    . simp only[List.length_append,List.length_singleton];simp only[adj]at hr;have hg:∀(N:List (List Ln)) (i m:Nat),(∀r∈N,r.length<=m)->(N.getD i []).length<=m:=fun N i m hN=>by
       rw[List.getD_eq_getElem?_getD];cases hi:N[i]? with
       |none=>simp
       |some r=>exact hN r (List.mem_of_getElem? hi)
      have hs:∀(N:List (List Ln)) (i m:Nat) (x:Ln),(∀r∈N,r.length<=m)->∀r∈N.set i (N.getD i []++ [x]),r.length<=m+1:=fun N i m x hN r hr=>by
       rcases List.mem_or_eq_of_mem_set hr with hr|hr
       . have:=hN r hr;omega
       . rw[hr,List.length_append,List.length_singleton];have:=hg N i m hN;omega
      have:=hs _ _ _ _ (hs _ _ _ _ h4) r hr;omega
theorem Zm {n:Int} {ls:List Ln} (hn:F2 n ls) {k:Nat} (hk:k<=ls.length):(I8 n ls k).2.1.length<=16384:=by
 have:=(Cw hn k hk).2.1;have:=hn.1;have:=hn.2.1;omega
theorem fA {L:List Int} {l:Ln} {u v:Int} (u0:0<=u) (u1:u<(L.length:Int)) (v0:0<=v) (v1:v<(L.length:Int)) (h:A6 L u=A6 L v):A6 (Y0 L l) u=A6 (Y0 L l) v:=by
 rw[V7 u0 u1,V7 v0 v1,h]
theorem kV {L:List Int} {l:Ln} (hl:Lw L.length l):A6 (Y0 L l) l.1=A6 (Y0 L l) l.2:=by
 obtain⟨a0,a1,b0,b1⟩:=hl;rw[V7 a0 a1,V7 b0 b1];split<;>split<;>omega
theorem PG {n:Int} (hn:0<=n) {u v:Int} (u0:0<=u) (u1:u<n) (v0:0<=v) (v1:v<n):∀(ls:List Ln) (L:List Int),L.length=n.toNat->A6 L u=A6 L v->A6 (ls.foldl Y0 L) u=A6 (ls.foldl Y0 L) v
 | [],_,_,h=>h
 |l::ls,L,hL,h=>by
  rw[List.foldl_cons];exact PG hn u0 u1 v0 v1 ls _ (by rw[Bl];exact hL) (fA u0 (by omega) v0 (by omega) h)
theorem UE {n:Int} (hn:0<=n) {l:Ln} :∀(ls:List Ln) (L:List Int),L.length=n.toNat->(∀l∈ls,Lw n l)->l∈ls->A6 (ls.foldl Y0 L) l.1=A6 (ls.foldl Y0 L) l.2
 | [],_,_,_,h=>by cases h
 |x::ls,L,hL,hb,h=>by
  rw[List.foldl_cons];have hx:=hb x (by simp);rcases List.mem_cons.1 h with rfl|h
  . obtain⟨a0,a1,b0,b1⟩:=hx;exact PG hn a0 a1 b0 b1 ls _ (by rw[Bl];exact hL) (kV (by rw[hL];exact⟨a0,by omega,b0,by omega⟩))
  . exact UE hn ls _ (by rw[Bl];exact hL) (fun y hy=>hb y (by simp[hy])) h
theorem P2 {n:Int} {ls:List Ln} (hn:0<=n) (hb:∀l∈ls,Lw n l) {l:Ln} (h:l∈ls):A6 (D1 n ls) l.1=A6 (D1 n ls) l.2:=UE hn ls _ (Di n) hb h
theorem UD {α:Type} {n:Int} (hn:0<=n) {f:Int->α} :∀(ls:List Ln) (L:List Int),L.length=n.toNat->dY L->(∀l∈ls,Lw n l/\f l.1=f l.2)->(∀i:Int,0<=i->i<n->f (A6 L i)=f i)->∀i:Int,0<=i->i<n->f (A6 (ls.foldl Y0 L) i)=f i
 | [],_,_,_,_,h=>h
 |l::ls,L,hL,hlab,hb,h=>by
  rw[List.foldl_cons];obtain⟨⟨a0,a1,b0,b1⟩,hl⟩:=hb l (by simp);have hin:Lw (L.length:Int) l:=by rw[hL];exact⟨a0,by omega,b0,by omega⟩
  refine UD hn ls _ (by rw[Bl];exact hL) (hlab.join hin) (fun y hy=>hb y (by simp[hy])) fun i i0 i1=> ?_
  rw[V7 i0 (by omega)];split
  . rename_i e;have ea:=h _ a0 a1;have eb:=h _ b0 b1;have ei:=h i i0 i1;rcases(by omega:min (A6 L l.1) (A6 L l.2)=A6 L l.1\/min (A6 L l.1) (A6 L l.2)=A6 L l.2)with e1|e1<;>
    rcases(by omega:max (A6 L l.1) (A6 L l.2)=A6 L l.1\/max (A6 L l.1) (A6 L l.2)=A6 L l.2)with e2|e2
    . rw[e1, <-ei,e,e2]
    . rw[e1, <-ei,e,e2,ea,eb,hl]
    . rw[e1, <-ei,e,e2,ea,eb,hl]
    . rw[e1, <-ei,e,e2]
  . exact h i i0 i1
theorem Lf {α:Type} {n:Int} {ls:List Ln} (hn:0<=n) (hb:∀l∈ls,Lw n l) {f:Int->α} (hf:∀l∈ls,f l.1=f l.2):∀i:Int,0<=i->i<n->f (A6 (D1 n ls) i)=f i:=
 UD hn ls _ (Di n) (iL n) (fun l hl=>⟨hb l hl,hf l hl⟩) fun i i0 i1=>by rw[Kq i0 i1]
def CM (A B:List Int):Prop:=A.length=B.length/\∀i:Int,0<=i->i<(A.length:Int)->A6 B (A6 A i)=A6 B i
theorem TV {A B:List Int} (hA:dY A) (hB:dY B) (h1:CM A B) (h2:CM B A):A=B:=by
 apply List.ext_getElem?;intro j;by_cases hj:j<A.length
 . have g1:=Hs (L:=A) (i:=(j:Int)) (by omega) (by omega);have g2:=Hs (L:=B) (i:=(j:Int)) (by omega) (by have:=h1.1;omega);rw[Int.toNat_natCast]at g1 g2;rw[g1,g2];obtain⟨a0,a1,a2⟩:=hA j (by omega) (by omega);obtain⟨b0,b1,b2⟩:=hB j (by omega) (by have:=h1.1;omega);have e1:=h1.2 j (by omega) (by omega);have e2:=h2.2 j (by omega) (by have:=h1.1;omega);obtain⟨_,c1,_⟩:=hB (A6 A j) a0 (by have:=h1.1;omega);obtain⟨_,d1,_⟩:=hA (A6 B j) b0 (by omega);congr 1;omega
 . rw[List.getElem?_eq_none (by omega),List.getElem?_eq_none (by have:=h1.1;omega)]
theorem eJ {A B:List Int} (hA:dY A) (hB:dY B) (h:CM A B) {b:Int} (b0:0<=b) (b1:b<(A.length:Int)) (hb:A6 B b=b):A6 A b=b:=by
 obtain⟨a0,a1,a2⟩:=hA b b0 b1;have e:=h.2 b b0 b1;obtain⟨_,c1,_⟩:=hB (A6 A b) a0 (by have:=h.1;omega);omega
theorem DC {A B:List Int} (hA:dY A) (hB:dY B) (h:CM A B):CZ B<=CZ A:=by
 rw[Tc,Tc, <-h.1, <-List.countP_eq_length_filter, <-List.countP_eq_length_filter];refine List.countP_mono_left fun b hb hh=> ?_
 rw[List.mem_range]at hb;exact decide_eq_true (eJ hA hB h (by omega) (by omega) (of_decide_eq_true hh))
theorem Ou {n:Int} {ls ls':List Ln} (hn:0<=n) (hb:∀l∈ls',Lw n l) (hs:∀l∈ls,l∈ls'):CM (D1 n ls) (D1 n ls'):=by
 refine⟨by rw[L5,L5],fun i i0 i1=> ?_⟩;rw[L5]at i1;exact Lf hn (fun l hl=>hb l (hs l hl)) (f:=fun i=>A6 (D1 n ls') i) (fun l hl=>P2 hn hb (hs l hl)) i i0 (by omega)
def wo (ls:List Ln) (g:Nat->Bool) (k:Nat):List Ln:=((List.range k).filter fun i=> !(g i)).map fun i=>ls.getD i (0,0)
theorem gQ (ls:List Ln) (g:Nat->Bool):wo ls g ls.length=NX ls g:=rfl
theorem jS (ls:List Ln) (g:Nat->Bool) (k:Nat):wo ls g (k+1)=if g k=true then wo ls g k else wo ls g k++ [ls.getD k (0,0)]:=by
 unfold wo;rw[List.range_succ,List.filter_append,List.map_append];cases h:g k<;>simp[h]
theorem A0v {ls:List Ln} {g:Nat->Bool} {k:Nat} {l:Ln} :l∈wo ls g k↔∃i,i<k/\g i=false/\ls.getD i (0,0)=l:=by
 unfold wo;simp only[List.mem_map,List.mem_filter,List.mem_range,Bool.not_eq_true'];constructor
 . rintro⟨i,⟨h1,h2⟩,h3⟩;exact⟨i,h1,h2,h3⟩
 . rintro⟨i,h1,h2,h3⟩;exact⟨i,⟨h1,h2⟩,h3⟩
theorem JJ {ls:List Ln} {i:Nat} (h:i<ls.length):ls.getD i (0,0)∈ls:=by
 rw[List.getD_eq_getElem?_getD,List.getElem?_eq_getElem h];exact List.getElem_mem h
theorem A5k {ls:List Ln} {l:Ln} (h:l∈ls):∃i,i<ls.length/\ls.getD i (0,0)=l:=by
 obtain⟨i,hi,he⟩:=List.mem_iff_getElem.1 h;exact⟨i,hi,by rw[List.getD_eq_getElem?_getD,List.getElem?_eq_getElem hi];exact he⟩
theorem A6d {ls:List Ln} {g:Nat->Bool} {k:Nat} (hk:k<=ls.length):∀l∈wo ls g k,l∈ls:=fun l hl=>by
 obtain⟨i,hi,_,rfl⟩:=A0v.1 hl;exact JJ (by omega)
theorem A8c {n:Int} {ls:List Ln} {g:Nat->Bool} {k:Nat} (h:F2 n ls) (hk:k<=ls.length):F2 n (wo ls g k):=⟨h.1,h.2.1,fun l hl=>h.2.2 l (A6d hk l hl)⟩
theorem A4l (L:List Int):CZ L<=L.length:=by
 rw[Tc];have:=List.length_filter_le (fun(b:Nat)=>decide (A6 L (b:Int)=(b:Int))) (List.range L.length);rw[List.length_range]at this;exact this
theorem iF {n:Int} {L:List Int} {l:Ln} (hn:0<=n) (hL:L.length=n.toNat) (h:Lw n l):Lw (L.length:Int) l:=by
 rw[hL,show((n.toNat:Nat):Int)=n from by omega];exact h
def EI:List Int->Int
 | []=>0
 |a::r=>a+EI r
theorem RI:∀ {l:List Int} {k:Nat} {v:Int},k<l.length->EI (l.set k v)=EI l-l.getD k 0+v
 | [],_,_,h=>by simp at h
 |a::r,0,v,_=>by simp[EI];omega
 |a::r,k+1,v,h=>by
  have:=RI (l:=r) (k:=k) (v:=v) (by simpa using h);simp only[List.set_cons_succ,EI,this,List.getD_cons_succ];omega
theorem LG:∀ {l:List Int},(∀x∈l,0<=x)->0<=EI l
 | [],_=>Int.le_refl _
 |a::r,h=>by
  have h1:=h a (by simp);have h2:=LG (l:=r) fun x hx=>h x (by simp[hx])
  simp only[EI];omega
theorem YE {L:List Int} {x:Int} (h:x∈L):∃i:Int,0<=i/\i<(L.length:Int)/\A6 L i=x:=by
 obtain⟨i,hi,he⟩:=List.mem_iff_getElem.1 h;refine⟨i,by omega,by omega, ?_⟩;have:=Hs (L:=L) (i:=(i:Int)) (by omega) (by omega);rw[Int.toNat_natCast,List.getElem?_eq_getElem hi,he]at this;exact(Option.some.inj this).symm
theorem XZ {A B:List Int} (hl:A.length=B.length) (h:∀i:Int,0<=i->i<(A.length:Int)->A6 A i=A6 B i):A=B:=by
 apply List.ext_getElem?;intro j;by_cases hj:j<A.length
 . have g1:=Hs (L:=A) (i:=(j:Int)) (by omega) (by omega);have g2:=Hs (L:=B) (i:=(j:Int)) (by omega) (by omega);rw[Int.toNat_natCast]at g1 g2;rw[g1,g2,h j (by omega) (by omega)]
 . rw[List.getElem?_eq_none (by omega),List.getElem?_eq_none (by omega)]
theorem bQ {n:Int} {ls:List Ln} (hn:0<=n) (hb:∀l∈ls,Lw n l) {L:List Int} (hl:L.length=n.toNat) (h1:∀i:Int,0<=i->i<n->0<=A6 L i/\A6 L i<=i/\A6 (D1 n ls) (A6 L i)=A6 (D1 n ls) i) (h2:∀l∈ls,A6 L l.1=A6 L l.2):L=D1 n ls:=by
 refine XZ (by rw[hl,L5]) fun i i0 i1=> ?_
 rw[hl]at i1;have hlab:=T7 hn hb;have hlen:=L5 n ls;obtain⟨m0,m1,m2⟩:=hlab i i0 (by omega);have e1:=Lf hn hb (f:=fun j=>A6 L j) h2 i i0 (by omega);obtain⟨a0,a1,a2⟩:=h1 _ m0 (by omega);obtain⟨_,b1,_⟩:=hlab (A6 L (A6 (D1 n ls) i)) a0 (by omega);rw[m2]at a2;omega
theorem Ro {α:Type} [DecidableEq α]:∀ {a b:List α},a.Nodup->(∀x∈a,x∈b)->a.length<=b.length
 | [],_,_,_=>Nat.zero_le _
 |x::a,b,hn,hs=>by
  rw[List.nodup_cons]at hn;have h1:∀y∈a,y∈b.erase x:=fun y hy=>(List.mem_erase_of_ne fun e=>hn.1 (by rw[<-e];exact hy)).2 (hs y (by simp[hy]))
  have h2:=Ro hn.2 h1;rw[List.length_erase_of_mem (hs x (by simp))]at h2;have:=List.length_pos_of_mem (hs x (by simp));simp only[List.length_cons];omega
def pick (ls:List Ln) (f:List Int):List Ln:=f.map fun e=>Ht ls e
theorem Zq (ls:List Ln) (k:Nat):Ht ls (k:Int)=ls.getD k (0,0):=by simp[Ht]
theorem AA {n:Int} {ls:List Ln} :∀ {k:Nat} {e:Int},e∈(I8 n ls k).2.1->0<=e/\e<(k:Int)
 |0,e,h=>by simp[I8]at h
 |k+1,e,h=>by
  simp only[I8]at h;split at h
  . have:=AA h;omega
  . rcases List.mem_append.1 h with h|h
    . have:=AA h;omega
    . rw[List.mem_singleton]at h;omega
theorem Uh {n:Int} {ls:List Ln} :∀k:Nat,(I8 n ls k).2.1.Pairwise (· < ·)
 |0=>by simp[I8]
 |k+1=>by
  simp only[I8];split
  . exact Uh k
  . refine List.pairwise_append.2 ⟨Uh k,by simp,fun a ha b hb=> ?_⟩;rw[List.mem_singleton]at hb;have:=AA ha;omega
theorem K8 {n:Int} {ls:List Ln} {e:Int} (h:e∈B8 n ls):0<=e/\e<(ls.length:Int):=AA h
theorem Hr (n:Int) (ls:List Ln):(B8 n ls).Pairwise (· < ·):=Uh _
theorem Kr {ls:List Ln} {e:Int} (h0:0<=e) (h1:e<(ls.length:Int)):Ht ls e∈ls:=JJ (by omega)
theorem cN {n:Int} {ls:List Ln} :∀l∈pick ls (B8 n ls),l∈ls:=fun l hl=>by
 obtain⟨e,he,rfl⟩:=List.mem_map.1 hl;have:=K8 he;exact Kr this.1 this.2
theorem RP {n:Int} {ls:List Ln} :∀k:Nat,(I8 n ls k).1=D1 n (pick ls (I8 n ls k).2.1)
 |0=>by simp[I8,pick,D1]
 |k+1=>by
  have ih:=RP (n:=n) (ls:=ls) k;simp only[I8];split
  . exact ih
  . simp only[pick,List.map_append,List.map_cons,List.map_nil,Zq];rw[Lg,ih];rfl
theorem Wt {n:Int} {ls:List Ln} (hok:F2 n ls):D1 n (pick ls (B8 n ls))=D1 n ls:=by
 unfold B8;rw[<-RP,(Cw hok ls.length (Nat.le_refl _)).1,List.take_length]
theorem eR {n:Int} {ls:List Ln} (hok:F2 n ls):(B8 n ls).length+CZ (D1 n ls)=n.toNat:=by
 have:=Cw hok ls.length (Nat.le_refl _);rw[<-this.2.1,this.1,List.take_length];rfl
theorem EL {n:Int} {ls:List Ln} (hok:F2 n ls):∀ {k:Nat},k<=ls.length->∀ {e:Int},e∈(I8 n ls k).2.1->(Ht ls e).1≠(Ht ls e).2
 |0,_,e,h=>by simp[I8]at h
 |k+1,hk,e,h=>by
  simp only[I8]at h;split at h
  . exact EL hok (by omega) h
  . rename_i hne;rcases List.mem_append.1 h with h|h
    . exact EL hok (by omega) h
    . rw[List.mem_singleton]at h;subst h;rw[Zq];intro e;rw[e]at hne;exact hne rfl
theorem A1h {N:List (List Ln)} {i:Int} {l:Ln} {b:Int} (b0:0<=b) (hb:b<(N.length:Int)) (hl:Lw N.length l) (hne:l.1≠l.2) (w:Ln):w∈(adj N i l).getD b.toNat []↔w∈N.getD b.toNat []\/(w.1=i/\Aj l b w.2):=by
 obtain⟨a0,a1,c0,c1⟩:=hl;obtain⟨u,v⟩:=l;obtain⟨w1,w2⟩:=w;simp only at a0 a1 c0 c1 hne;simp only[adj,List.getD_eq_getElem?_getD,List.getElem?_set,List.length_set];have hjo:Aj (u,v) b w2↔(b=u/\w2=v)\/(b=v/\w2=u):=by
  unfold Aj;simp only[Prod.mk.injEq];constructor
  . rintro(⟨h1,h2⟩ | ⟨h1,h2⟩)
    . exact .inl ⟨h1.symm,h2.symm⟩
    . exact .inr ⟨h2.symm,h1.symm⟩
  . rintro(⟨h1,h2⟩ | ⟨h1,h2⟩)
    . exact .inl ⟨h1.symm,h2.symm⟩
    . exact .inr ⟨h2.symm,h1.symm⟩
 rw[hjo];by_cases h1:v.toNat=b.toNat
 . have h1':v=b:=by omega
   subst h1';rw[if_pos rfl,if_pos (by omega)];have hne':¬u.toNat=v.toNat:=by omega
   rw[if_neg hne'];simp only[Option.getD_some,List.mem_append,List.mem_singleton,Prod.mk.injEq];constructor
   . rintro(h| ⟨h,h'⟩)
     . exact .inl h
     . exact .inr ⟨h, .inr ⟨trivial,h'⟩⟩
   . rintro(h| ⟨h,h'|h'⟩)
     . exact .inl h
     . exact absurd h'.1.symm hne
     . exact .inr ⟨h,h'.2⟩
 . rw[if_neg h1];by_cases h2:u.toNat=b.toNat
   . have h2':u=b:=by omega
     subst h2';rw[if_pos rfl,if_pos (by omega)];simp only[Option.getD_some,List.mem_append,List.mem_singleton,Prod.mk.injEq];constructor
     . rintro(h| ⟨h,h'⟩)
       . exact .inl h
       . exact .inr ⟨h, .inl ⟨trivial,h'⟩⟩
     . rintro(h| ⟨h,h'|h'⟩)
       . exact .inl h
       . exact .inr ⟨h,h'.2⟩
       . exact absurd h'.1 hne
   . rw[if_neg h2];constructor
     . exact .inl
     . rintro(h| ⟨_,h'|h'⟩)
       . exact h
       . exact absurd (by rw[h'.1]) h2
       . exact absurd (by rw[h'.1]) h1
theorem oE {n:Int} {L:List (List Ln)} {l:Ln} (hn:0<=n) (hL:L.length=n.toNat) (h:Lw n l):Lw (L.length:Int) l:=by
 rw[hL,show((n.toNat:Nat):Int)=n from by omega];exact h
theorem RQ {n:Int} {ls:List Ln} (hok:F2 n ls) {b:Int} (b0:0<=b) (b1:b<n) (w:Ln):∀ {k:Nat},k<=ls.length->(w∈(I8 n ls k).2.2.getD b.toNat []↔w.1∈(I8 n ls k).2.1/\Aj (Ht ls w.1) b w.2)
 |0,_=>by
  simp only[I8,List.getD_eq_getElem?_getD,List.getElem?_replicate];split<;>simp
 |k+1,hk=>by
  have ih:=RQ hok b0 b1 w (k:=k) (by omega);have hlen:=(Cw hok k (by omega)).2.2.1;have hin:Lw n (ls.getD k (0,0)):=hok.2.2 _ (JJ (by omega));have n0:=hok.1;simp only[I8];split
  . exact ih
  . rename_i hne;rw[A1h b0 (by omega) (oE n0 hlen hin) (fun e=>hne (by rw[e])),ih,List.mem_append,List.mem_singleton];constructor
    . rintro(⟨h1,h2⟩ | ⟨h1,h2⟩)
      . exact⟨.inl h1,h2⟩
      . exact⟨.inr h1,by rw[h1,Zq];exact h2⟩
    . rintro⟨h1|h1,h2⟩
      . exact .inl ⟨h1,h2⟩
      . exact .inr ⟨h1,by rw[h1,Zq]at h2;exact h2⟩
theorem QD {n:Int} {ls:List Ln} (hok:F2 n ls) {b:Int} (b0:0<=b) (b1:b<n) {w:Ln} :w∈(Y1 n ls).getD b.toNat []↔w.1∈B8 n ls/\Aj (Ht ls w.1) b w.2:=RQ hok b0 b1 w (Nat.le_refl _)
theorem bZ {n:Int} {ls:List Ln} (hok:F2 n ls):(Y1 n ls).length=n.toNat:=(Cw hok ls.length (Nat.le_refl _)).2.2.1
theorem pF {n:Int} {ls:List Ln} (hok:F2 n ls) {b:Int} :((Y1 n ls).getD b.toNat []).length<=32768:=by
 have h:=(Cw hok ls.length (Nat.le_refl _)).2.2.2;have hf:=Zm hok (k:=ls.length) (Nat.le_refl _);rw[List.getD_eq_getElem?_getD];cases hi:(Y1 n ls)[b.toNat]? with
 |none=>simp
 |some r=>have:=h r (List.mem_of_getElem? hi);simp only[Option.getD_some];omega
theorem Lx {n:Int} {ls:List Ln} (hok:F2 n ls) {e u v:Int} (he:e∈B8 n ls) (h:Aj (Ht ls e) u v):0<=v/\v<n/\0<=u/\u<n:=by
 have hm:=K8 he;have hin:=hok.2.2 _ (Kr hm.1 hm.2);unfold Lw at hin;rcases h with h|h<;>rw[h]at hin<;>simp only at hin<;>omega
theorem DG {l:Ln} {u v:Int} (h:Aj l u v):Aj l v u:=h.symm
structure mI (n:Int) (ls:List Ln) (order:List Int) (up:List Ln) (seen:List Bool):Prop where
 slen:seen.length=n.toNat
 ulen:up.length=n.toNat
 nod:order.Nodup
 mem:∀b,0<=b->b<n->(seen.getD b.toNat false=true↔b∈order)
 at':∀(k:Nat) (b:Int),order[k]? =some b->A8b n ls order up k b
theorem mI.len {n:Int} {ls:List Ln} {order:List Int} {up:List Ln} {seen:List Bool} (h:mI n ls order up seen):order.length<=n.toNat:=by
 have h2:∀b∈order,b∈ES n:=fun b hb=>by
  obtain⟨k,hk⟩:=List.mem_iff_getElem?.1 hb;obtain⟨h1,h2,_⟩:=h.at' k b hk;unfold ES;rw[List.mem_map];exact⟨b.toNat,by rw[List.mem_range];omega,by show((b.toNat:Nat):Int)=b;omega⟩
 have:=Ro h.nod h2;rw[Di]at this;exact this
theorem A0e {s:List Bool} {v b:Int} (v0:0<=v) (b0:0<=b) (hv:v<(s.length:Int)):(s.set v.toNat true).getD b.toNat false=if b=v then true else s.getD b.toNat false:=by
 simp only[List.getD_eq_getElem?_getD,List.getElem?_set];by_cases h:b=v
 . subst h;rw[if_pos rfl,if_pos (by omega),if_pos rfl];rfl
 . rw[if_neg h,if_neg (by omega)]
theorem jQ {up:List Ln} {v b:Int} {l:Ln} (v0:0<=v) (b0:0<=b) (hv:v<(up.length:Int)):M1 (up.set v.toNat l) b=if b=v then l else M1 up b:=by
 unfold M1;simp only[List.getD_eq_getElem?_getD,List.getElem?_set];by_cases h:b=v
 . subst h;rw[if_pos rfl,if_pos (by omega),if_pos rfl];rfl
 . rw[if_neg h,if_neg (by omega)]
theorem mI.add {n:Int} {ls:List Ln} {order:List Int} {up:List Ln} {seen:List Bool} (h:mI n ls order up seen) {v:Int} {l:Ln} (v0:0<=v) (v1:v<n) (hv:v∉order)
 (hl:(l=(-1,v)/\A6 (D1 n ls) v=v)\/(l.1∈B8 n ls/\Aj (Ht ls l.1) v l.2/\l.2∈order)):mI n ls (order++ [v]) (up.set v.toNat l) (seen.set v.toNat true):=by
 have hs:=h.slen;have hu:=h.ulen;have hvu:v<(up.length:Int):=by omega
 refine⟨by rw[List.length_set];exact hs,by rw[List.length_set];exact hu, ?_,fun b b0 b1=> ?_,fun k b hk=> ?_⟩
 . rw[List.nodup_append];exact⟨h.nod,by simp,fun a ha b hb=>by rw[List.mem_singleton]at hb;subst hb;exact fun e=>hv (e▸ha)⟩
 . rw[A0e v0 b0 (by omega),List.mem_append,List.mem_singleton];by_cases e:b=v
   . rw[if_pos e];exact⟨fun _=> .inr e,fun _=>rfl⟩
   . rw[if_neg e,h.mem b b0 b1];exact⟨.inl,fun hh=>hh.resolve_right e⟩
 . have grow:∀j c,order[j]? =some c->(order++ [v])[j]? =some c:=fun j c hj=>by
    rw[List.getElem?_append_left (List.getElem?_eq_some_iff.1 hj).1];exact hj
   by_cases hlt:k<order.length
   . rw[List.getElem?_append_left hlt]at hk;obtain⟨b0,b1,h3⟩:=h.at' k b hk;have hne:b≠v:=fun e=>hv (e▸List.mem_of_getElem? hk)
     refine⟨b0,b1, ?_⟩;rw[jQ v0 b0 hvu,if_neg hne];rcases h3 with h3| ⟨h4,h5,j,hj,hj'⟩
     . exact .inl h3
     . exact .inr ⟨h4,h5,j,hj,grow j _ hj'⟩
   . rw[List.getElem?_append_right (by omega)]at hk;have hk0:k-order.length=0:=by
      obtain⟨hh,_⟩:=List.getElem?_eq_some_iff.1 hk;simp at hh;clear hk h;omega
     rw[hk0]at hk;simp at hk;subst hk;refine⟨v0,v1, ?_⟩;rw[jQ v0 v0 hvu,if_pos rfl];rcases hl with hl| ⟨h4,h5,h6⟩
     . exact .inl hl
     . obtain⟨j,hj⟩:=List.mem_iff_getElem?.1 h6;exact .inr ⟨h4,h5,j,by have:=(List.getElem?_eq_some_iff.1 hj).1;omega,grow j _ hj⟩
def WJ (N:List (List Ln)) (order:List Int) (k:Nat):Prop:=∀(j:Nat) (b:Int),j<k->order[j]? =some b->∀w∈N.getD b.toNat [],w.2∈order
theorem WJ.grow {N:List (List Ln)} {order:List Int} {k:Nat} (h:WJ N order k) (hk:k<=order.length) (v:Int):WJ N (order++ [v]) k:=fun j b hj hb w hw=>by
 rw[List.getElem?_append_left (by omega)]at hb;exact List.mem_append.2 (.inl (h j b hj hb w hw))
theorem fZ {n:Int} {ls:List Ln} (hok:F2 n ls) {order:List Int} (hs:WJ (Y1 n ls) order order.length) {v:Int} (v0:0<=v) (v1:v<n) (hv:v∉order) (hlt:∀b,0<=b->b<v->b∈order):A6 (D1 n ls) v=v:=by
 have hpb:∀l∈pick ls (B8 n ls),Lw n l:=fun l hl=>hok.2.2 l (cN l hl)
 have hf:=Lf hok.1 hpb (f:=fun b=>decide (b∈order)) (fun l hl=>by
  obtain⟨e,he,rfl⟩:=List.mem_map.1 hl;have hj:Aj (Ht ls e) (Ht ls e).1 (Ht ls e).2:= .inl rfl;have key:∀u w,Aj (Ht ls e) u w->u∈order->w∈order:=fun u w hj hu=>by
   obtain⟨_,_,u0,u1⟩:=Lx hok he hj;obtain⟨k,hk⟩:=List.mem_iff_getElem?.1 hu;exact hs k u (List.getElem?_eq_some_iff.1 hk).1 hk (e,w) ((QD hok u0 u1).2 ⟨he,hj⟩)
  rw[decide_eq_decide];exact⟨key _ _ hj,key _ _ (DG hj)⟩) v v0 v1
 rw[Wt hok,decide_eq_decide]at hf;obtain⟨a0,a1,_⟩:=T7 hok.1 hok.2.2 v v0 (by rw[L5];have:=hok.1;omega);rcases(by omega:A6 (D1 n ls) v<v\/A6 (D1 n ls) v=v)with h|h
 . exact absurd (hf.1 (hlt _ a0 h)) hv
 . exact h
theorem mI.done {n:Int} {ls:List Ln} {order:List Int} {up:List Ln} {seen:List Bool} (h:mI n ls order up seen) (hall:∀b,0<=b->b<n->b∈order):KC n ls order up:=by
 refine⟨?_,h.nod,hall,h.ulen,h.at'⟩;have h1:=h.len;have h2:(ES n).length<=order.length:=Ro (by
  unfold ES;exact List.Pairwise.map _ (fun a b hab e=>hab (Int.ofNat.inj e)) List.nodup_range) fun b hb=>by
   unfold ES at hb;rw[List.mem_map]at hb;obtain⟨i,hi,rfl⟩:=hb;rw[List.mem_range]at hi;exact hall _ (Int.natCast_nonneg i) (show(i:Int)<n by omega)
 rw[Di]at h2;omega
def LS (ls:List Ln) (e:Int):List Ln:=NX ls (fun j=>j==e.toNat)
theorem NY {ls:List Ln} {e:Int} {l:Ln} :l∈LS ls e↔∃i,i<ls.length/\i≠e.toNat/\ls.getD i (0,0)=l:=by
 unfold LS;rw[<-gQ,A0v];constructor
 . rintro⟨i,h1,h2,h3⟩;exact⟨i,h1,by simpa using h2,h3⟩
 . rintro⟨i,h1,h2,h3⟩;exact⟨i,h1,by simpa using h2,h3⟩
theorem ZE {ls:List Ln} {e:Int} :∀l∈LS ls e,l∈ls:=fun l hl=>by
 obtain⟨i,hi,_,rfl⟩:=NY.1 hl;exact JJ hi
theorem SL {ls:List Ln} {e d:Int} (e0:0<=e) (d0:0<=d) (d1:d<(ls.length:Int)) (h:d≠e):Ht ls d∈LS ls e:=NY.2 ⟨d.toNat,by omega,by omega,rfl⟩
theorem A2w {n:Int} {ls:List Ln} {i:Nat} :sep n ls (fun j=>j==i)=true↔CZ (D1 n ls)<CZ (D1 n (LS ls (i:Int))):=by
 unfold sep LS;rw[Int.toNat_natCast,decide_eq_true_eq]
theorem KQ {n:Int} {ls:List Ln} (hok:F2 n ls) (e:Int):∀l∈LS ls e,Lw n l:=fun l hl=>hok.2.2 l (ZE l hl)
theorem oP {n:Int} {ls:List Ln} (hok:F2 n ls) {e:Int} (e0:0<=e) (h:A6 (D1 n (LS ls e)) (Ht ls e).1=A6 (D1 n (LS ls e)) (Ht ls e).2):D1 n (LS ls e)=D1 n ls:=by
 have hb:=KQ hok e;refine TV (T7 hok.1 hb) (T7 hok.1 hok.2.2) (Ou hok.1 hok.2.2 ZE) ⟨by rw[L5,L5],fun i i0 i1=> ?_⟩;rw[L5]at i1;refine Lf hok.1 hok.2.2 (f:=fun i=>A6 (D1 n (LS ls e)) i) (fun l hl=> ?_) i i0 (by omega);obtain⟨j,hj,rfl⟩:=A5k hl;by_cases hje:j=e.toNat
 . subst hje;exact h
 . exact P2 hok.1 hb (NY.2 ⟨j,hj,hje,rfl⟩)
theorem A4k {n:Int} {ls:List Ln} (hn:0<=n) (hb:∀l∈ls,Lw n l):n.toNat<=CZ (D1 n ls)+ls.length:=by
 have key:∀k,k<=ls.length->n.toNat<=CZ (D1 n (ls.take k))+k:=by
  intro k
  induction k with
  |zero=>intro _;show n.toNat<=CZ (ES n)+0;rw[XF];omega
  |succ k ih=>
   intro hk;have ih:=ih (by omega);rw[Zz (d:=((0:Int),(0:Int))) (by omega),Lg];by_cases he:A6 (D1 n (ls.take k)) (ls.getD k (0,0)).1=A6 (D1 n (ls.take k)) (ls.getD k (0,0)).2
   . rw[FY he];omega
   . have:=ON (T7 (ls:=ls.take k) hn fun l hl=>hb l (List.mem_of_mem_take hl)) (iF hn (L5 _ _) (hb _ (JJ (by omega)))) he;omega
 have:=key ls.length (Nat.le_refl _);rwa[List.take_length]at this
def MF (n:Int) (ls:List Ln) (e:Int):List Ln:=pick ls ((B8 n ls).filter fun d=>decide (d≠e))
theorem FT {n:Int} {ls:List Ln} {e:Int} {l:Ln} :l∈MF n ls e↔∃d,d∈B8 n ls/\d≠e/\Ht ls d=l:=by
 unfold MF pick;simp only[List.mem_map,List.mem_filter,decide_eq_true_eq];constructor
 . rintro⟨d,⟨h1,h2⟩,h3⟩;exact⟨d,h1,h2,h3⟩
 . rintro⟨d,h1,h2,h3⟩;exact⟨d,⟨h1,h2⟩,h3⟩
theorem JF {n:Int} {ls:List Ln} (hok:F2 n ls) (e:Int):∀l∈MF n ls e,Lw n l:=fun l hl=>by
 obtain⟨d,hd,_,rfl⟩:=FT.1 hl;have:=K8 hd;exact hok.2.2 _ (Kr this.1 this.2)
theorem XN (n:Int) (ls:List Ln):(B8 n ls).Nodup:=(Hr n ls).imp fun h e=>by omega
theorem iA {n:Int} {ls:List Ln} (hok:F2 n ls) {e:Int} (he:e∈B8 n ls):CZ (D1 n ls)<CZ (D1 n (MF n ls e)):=by
 have h1:=A4k hok.1 (JF hok e);have h2:=eR hok;have h3:(MF n ls e).length+1=(B8 n ls).length:=by
  unfold MF pick;rw[List.length_map];have:(B8 n ls).filter (fun d=>decide (d≠e))=(B8 n ls).erase e:=by
   rw[(XN n ls).erase_eq_filter];apply List.filter_congr;intro a _;by_cases h:a=e<;>simp[h]
  rw[this,List.length_erase_of_mem he];have:=List.length_pos_of_mem he;omega
 omega
theorem kB {n:Int} {ls:List Ln} (hok:F2 n ls) {e:Int} (he:e∈B8 n ls) (h:∀j:Nat,j<ls.length->(j:Int)∉B8 n ls->A6 (D1 n (MF n ls e)) (ls.getD j (0,0)).1=A6 (D1 n (MF n ls e)) (ls.getD j (0,0)).2):CZ (D1 n ls)<CZ (D1 n (LS ls e)):=by
 have hm:=K8 he;have hc:CM (D1 n (LS ls e)) (D1 n (MF n ls e)):=by
  refine⟨by rw[L5,L5],fun i i0 i1=> ?_⟩;rw[L5]at i1;refine Lf hok.1 (KQ hok e) (f:=fun i=>A6 (D1 n (MF n ls e)) i) (fun l hl=> ?_) i i0 (by omega);obtain⟨j,hj,hje,rfl⟩:=NY.1 hl;by_cases hf:(j:Int)∈B8 n ls
  . exact P2 hok.1 (JF hok e) (FT.2 ⟨j,hf,by omega,Zq ls j⟩)
  . exact h j hj hf
 have:=DC (T7 hok.1 (KQ hok e)) (T7 hok.1 (JF hok e)) hc;have:=iA hok he;omega
theorem fR {n:Int} {ls:List Ln} (hok:F2 n ls) {e:Int} (e0:0<=e) (h:e∉B8 n ls):D1 n (LS ls e)=D1 n ls:=by
 have hb:=KQ hok e;refine TV (T7 hok.1 hb) (T7 hok.1 hok.2.2) (Ou hok.1 hok.2.2 ZE) ?_;rw[<-Wt hok];refine Ou hok.1 hb fun l hl=> ?_
 obtain⟨d,hd,rfl⟩:=List.mem_map.1 hl;have:=K8 hd;exact SL e0 this.1 this.2 fun e=>h (e▸hd)
structure EU (n:Int) (ls:List Ln) (up:List Ln) (dep:List Int):Prop where
 ulen:up.length=n.toNat
 dlen:dep.length=n.toNat
 at':∀v,0<=v->v<n->0<=A6 dep v/\((M1 up v=(-1,v)/\A6 (D1 n ls) v=v/\A6 dep v=0)\/((M1 up v).1∈B8 n ls/\Aj (Ht ls (M1 up v).1) v (M1 up v).2/\A6 dep v=A6 dep (M1 up v).2+1))
section
variable {n:Int} {ls:List Ln} {up:List Ln} {dep:List Int}
theorem EU.up_in (hok:F2 n ls) (h:EU n ls up dep) {v:Int} (v0:0<=v) (v1:v<n) (hr:0<=(M1 up v).1):(M1 up v).1∈B8 n ls/\Aj (Ht ls (M1 up v).1) v (M1 up v).2/\A6 dep v=A6 dep (M1 up v).2+1/\0<=(M1 up v).2/\(M1 up v).2<n:=by
 rcases(h.at' v v0 v1).2 with⟨h1,_⟩ | ⟨h1,h2,h3⟩
 . rw[h1]at hr;simp at hr
 . obtain⟨a,b,_⟩:=Lx hok h1 h2;exact⟨h1,h2,h3,a,b⟩
theorem EU.inj (hok:F2 n ls) (h:EU n ls up dep) {v w:Int} (v0:0<=v) (v1:v<n) (w0:0<=w) (w1:w<n) (hv:0<=(M1 up v).1) (he:(M1 up v).1=(M1 up w).1):v=w:=by
 obtain⟨a1,a2,a3,_⟩:=h.up_in hok v0 v1 hv;obtain⟨b1,b2,b3,_⟩:=h.up_in hok w0 w1 (he▸hv);rw[he]at a2;rcases a2 with a2|a2<;>rcases b2 with b2|b2
 . exact(Prod.mk.inj (a2.symm.trans b2)).1
 . obtain⟨e1,e2⟩:=Prod.mk.inj (a2.symm.trans b2);rw[e2]at a3;rw[<-e1]at b3;omega
 . obtain⟨e1,e2⟩:=Prod.mk.inj (a2.symm.trans b2);rw[e1]at a3;rw[<-e2]at b3;omega
 . exact(Prod.mk.inj (a2.symm.trans b2)).2
theorem Hf {α:Type} {l:Ln} {u v:Int} (h:Aj l u v) {f:Int->α} (hf:f l.1=f l.2):f u=f v:=by
 rcases h with h|h<;>rw[h]at hf
 . exact hf
 . exact hf.symm
theorem fB {α:Type} {l:Ln} {u v:Int} (h:Aj l u v) {f:Int->α} (hf:f u=f v):f l.1=f l.2:=by
 rcases h with h|h<;>rw[h]
 . exact hf
 . exact hf.symm
theorem EU.climb (hok:F2 n ls) (h:EU n ls up dep) {f:Int->Int} {a:Int} (hf:∀w,0<=w->w<n->w≠a->0<=(M1 up w).1->f w=f (M1 up w).2):∀(k:Nat) (v:Int),0<=v->v<n->v≠a->A6 dep v<=A6 dep a->(A6 dep v).toNat<=k->f v=f (A6 (D1 n ls) v)
 |k,v,v0,v1,hva,hd,hk=>by
  obtain⟨d0,h1|h1⟩:=h.at' v v0 v1
  . rw[h1.2.1]
  . have hm:=K8 h1.1;obtain⟨a1,a2,a3,a4,a5⟩:=h.up_in hok v0 v1 hm.1;have hL:=Hf a2 (f:=fun i=>A6 (D1 n ls) i) (P2 hok.1 hok.2.2 (Kr hm.1 hm.2));have d1:=(h.at' _ a4 a5).1;have hne:(M1 up v).2≠a:=fun e=>by rw[e]at a3;omega
    cases k with
    |zero=>omega
    |succ k=>
     rw[hf v v0 v1 hva hm.1,hL];exact EU.climb hok h hf k _ a4 a5 hne (by omega) (by omega)
def ZI (n:Int) (up:List Ln) (M:Int->Prop) (f:Int->Int):Prop:=∀w,0<=w->w<n->M w->f w=f (M1 up w).2
def Mv (top:List Int) (w:Int):Prop:=A6 top w≠w
structure AC (n:Int) (up:List Ln) (dep top:List Int):Prop where
 len:top.length=n.toNat
 rng:∀v,0<=v->v<n->0<=A6 top v/\A6 top v<n
 dec:∀v,0<=v->v<n->Mv top v->0<=(M1 up v).1/\A6 dep (A6 top v)<A6 dep v
 con:∀f,ZI n up (Mv top) f->∀v,0<=v->v<n->f (A6 top v)=f v
theorem AC.halve {top:List Int} (h:AC n up dep top) {c:Int} (c0:0<=c) (c1:c<n) (hc:Mv top c):AC n up dep (top.set c.toNat (A6 top (A6 top c)))/\∀v,0<=v->v<n->(Mv (top.set c.toNat (A6 top (A6 top c))) v↔Mv top v):=by
 have hk:c.toNat<top.length:=by rw[h.len];omega
 obtain⟨r0,r1⟩:=h.rng c c0 c1;obtain⟨s0,s1⟩:=h.rng _ r0 r1;obtain⟨d0,d1⟩:=h.dec c c0 c1 hc;have d2:A6 dep (A6 top (A6 top c))<A6 dep c:=by
  by_cases hm:Mv top (A6 top c)
  . have:=(h.dec _ r0 r1 hm).2;omega
  . unfold Mv at hm;rw[show A6 top (A6 top c)=A6 top c from Decidable.not_not.1 hm];exact d1
 have hmv:∀v,0<=v->v<n->(Mv (top.set c.toNat (A6 top (A6 top c))) v↔Mv top v):=fun v v0 v1=>by
  unfold Mv;rw[M3 hk];by_cases e:v.toNat=c.toNat
  . have e':v=c:=by omega
    subst e';rw[if_pos rfl];refine⟨fun _=>hc,fun _ e=> ?_⟩;rw[e]at d2;omega
  . rw[if_neg e]
 refine⟨⟨by rw[List.length_set];exact h.len,fun v v0 v1=> ?_,fun v v0 v1 hm=> ?_,fun f hf v v0 v1=> ?_⟩,hmv⟩
 . rw[M3 hk];split
   . exact⟨s0,s1⟩
   . exact h.rng v v0 v1
 . have hm':=(hmv v v0 v1).1 hm;refine⟨(h.dec v v0 v1 hm').1, ?_⟩;rw[M3 hk];split
   . rename_i e;rw[show v=c from by omega];exact d2
   . exact(h.dec v v0 v1 hm').2
 . have hf':ZI n up (Mv top) f:=fun w w0 w1 hw=>hf w w0 w1 ((hmv w w0 w1).2 hw)
   rw[M3 hk];split
   . rename_i e;rw[show v=c from by omega,h.con f hf' _ r0 r1,h.con f hf' c c0 c1]
   . exact h.con f hf' v v0 v1
theorem AC.mark (hok:F2 n ls) (hd:EU n ls up dep) {top:List Int} (h:AC n up dep top) {a:Int} (a0:0<=a) (a1:a<n) (hr:0<=(M1 up a).1):AC n up dep (top.set a.toNat (M1 up a).2)/\∀v,0<=v->v<n->(Mv (top.set a.toNat (M1 up a).2) v↔Mv top v\/v=a):=by
 have hk:a.toNat<top.length:=by rw[h.len];omega
 obtain⟨p1,p2,p3,p4,p5⟩:=hd.up_in hok a0 a1 hr;have hne:(M1 up a).2≠a:=fun e=>by rw[e]at p3;omega
 have hmv:∀v,0<=v->v<n->(Mv (top.set a.toNat (M1 up a).2) v↔Mv top v\/v=a):=fun v v0 v1=>by
  unfold Mv;rw[M3 hk];by_cases e:v.toNat=a.toNat
  . have e':v=a:=by omega
    subst e';rw[if_pos rfl];exact⟨fun _=> .inr rfl,fun _=>hne⟩
  . rw[if_neg e];exact⟨.inl,fun hh=>hh.resolve_right fun e'=>e (by rw[e'])⟩
 refine⟨⟨by rw[List.length_set];exact h.len,fun v v0 v1=> ?_,fun v v0 v1 hm=> ?_,fun f hf v v0 v1=> ?_⟩,hmv⟩
 . rw[M3 hk];split
   . exact⟨p4,p5⟩
   . exact h.rng v v0 v1
 . rw[M3 hk];by_cases e:v.toNat=a.toNat
   . rw[if_pos e,show v=a from by omega];exact⟨hr,by omega⟩
   . rw[if_neg e];exact h.dec v v0 v1 (((hmv v v0 v1).1 hm).resolve_right fun e'=>e (by rw[e']))
 . rw[M3 hk];split
   . rename_i e;rw[show v=a from by omega];exact(hf a a0 a1 ((hmv a a0 a1).2 (.inr rfl))).symm
   . exact h.con f (fun w w0 w1 hw=>hf w w0 w1 ((hmv w w0 w1).2 (.inl hw))) v v0 v1
def Mk (n:Int) (up:List Ln) (M:Int->Prop) (m:Int->Bool):Prop:=∀e,m e=true↔∃w,0<=w/\w<n/\M w/\(M1 up w).1=e
def Snd (n:Int) (ls:List Ln) (up:List Ln) (M:Int->Prop):Prop:=∀w,0<=w->w<n->M w->A6 (D1 n (LS ls (M1 up w).1)) w=A6 (D1 n (LS ls (M1 up w).1)) (M1 up w).2
def Cmp (n:Int) (ls:List Ln) (up:List Ln) (M:Int->Prop) (i:Nat):Prop:=∀j:Nat,j<i->(j:Int)∉B8 n ls->∀f,ZI n up M f->f (ls.getD j (0,0)).1=f (ls.getD j (0,0)).2
theorem ZI.sub {M M':Int->Prop} {f:Int->Int} (h:ZI n up M' f) (hs:∀v,0<=v->v<n->M v->M' v):ZI n up M f:=fun w w0 w1 hw=>h w w0 w1 (hs w w0 w1 hw)
theorem hX (hok:F2 n ls) (hd:EU n ls up dep) {M:Int->Prop} (hM:∀v,0<=v->v<n->M v->0<=(M1 up v).1) {e:Int} (e0:0<=e) (he:∀v,0<=v->v<n->M v->(M1 up v).1≠e):ZI n up M (fun i=>A6 (D1 n (LS ls e)) i):=fun w w0 w1 hw=>by
 obtain⟨p1,p2,_⟩:=hd.up_in hok w0 w1 (hM w w0 w1 hw);have hm:=K8 p1;exact Hf p2 (f:=fun i=>A6 (D1 n (LS ls e)) i) (P2 hok.1 (KQ hok e) (SL e0 hm.1 hm.2 (he w w0 w1 hw)))
theorem nE (hok:F2 n ls) (hd:EU n ls up dep) {M:Int->Prop} (hM:∀v,0<=v->v<n->M v->0<=(M1 up v).1):ZI n up M (fun i=>A6 (D1 n ls) i):=fun w w0 w1 hw=>by
 obtain⟨p1,p2,_⟩:=hd.up_in hok w0 w1 (hM w w0 w1 hw);have hm:=K8 p1;exact Hf p2 (f:=fun i=>A6 (D1 n ls) i) (P2 hok.1 hok.2.2 (Kr hm.1 hm.2))
theorem lC (hok:F2 n ls) (hd:EU n ls up dep) {top:List Int} (h:AC n up dep top) {j:Nat} (hj:j<ls.length) (hjf:(j:Int)∉B8 n ls) {a b:Int} (a0:0<=a) (a1:a<n) (b0:0<=b) (b1:b<n) (ha:¬Mv top a) (hab:a≠b) (hdep:A6 dep b<=A6 dep a)
 (hc:∀f,ZI n up (Mv top) f->(f a=f b↔f (ls.getD j (0,0)).1=f (ls.getD j (0,0)).2)):0<=(M1 up a).1/\A6 (D1 n (LS ls (M1 up a).1)) a=A6 (D1 n (LS ls (M1 up a).1)) (M1 up a).2:=by
 have hM:∀v,0<=v->v<n->Mv top v->0<=(M1 up v).1:=fun v v0 v1 hv=>(h.dec v v0 v1 hv).1
 have hLab:A6 (D1 n ls) a=A6 (D1 n ls) b:=(hc _ (nE hok hd hM)).2 (P2 hok.1 hok.2.2 (JJ hj));have hr:0<=(M1 up a).1:=by
  obtain⟨da0,h1|h1⟩:=hd.at' a a0 a1
  . obtain⟨db0,h2|h2⟩:=hd.at' b b0 b1
    . rw[h1.2.1,h2.2.1]at hLab;exact absurd hLab hab
    . have hm:=K8 h2.1;obtain⟨_,_,_,q4,q5⟩:=hd.up_in hok b0 b1 hm.1;have:=(hd.at' _ q4 q5).1;omega
  . exact(K8 h1.1).1
 refine⟨hr, ?_⟩;obtain⟨p1,p2,p3,p4,p5⟩:=hd.up_in hok a0 a1 hr;have hinj:∀v,0<=v->v<n->v≠a->0<=(M1 up v).1->(M1 up v).1≠(M1 up a).1:=fun v v0 v1 hv hrv e=>hv (hd.inj hok v0 v1 a0 a1 hrv e)
 have hg:A6 (D1 n (LS ls (M1 up a).1)) a=A6 (D1 n (LS ls (M1 up a).1)) b:=by
  refine(hc _ (hX hok hd hM hr fun v v0 v1 hv=>hinj v v0 v1 (fun e=>ha (e▸hv)) (hM v v0 v1 hv))).2 ?_;have:=SL (ls:=ls) (e:=(M1 up a).1) (d:=(j:Int)) hr (by omega) (by omega) fun e=>hjf (e▸p1)
  rw[Zq]at this;exact P2 hok.1 (KQ hok _) this
 have hcl:∀v,0<=v->v<n->v≠a->A6 dep v<=A6 dep a->A6 (D1 n (LS ls (M1 up a).1)) v=A6 (D1 n (LS ls (M1 up a).1)) (A6 (D1 n ls) v):=fun v v0 v1 hv hdv=>
  hd.climb hok (f:=fun i=>A6 (D1 n (LS ls (M1 up a).1)) i) (a:=a) (hX hok hd (M:=fun w=>w≠a/\0<=(M1 up w).1) (fun v _ _ hv=>hv.2) hr (fun v v0 v1 hv=>hinj v v0 v1 hv.1 hv.2) |>fun hc w w0 w1 hw hrw=>hc w w0 w1 ⟨hw,hrw⟩) _ v v0 v1 hv hdv (Nat.le_refl _)
 have hm:=K8 p1;have hLp:=Hf p2 (f:=fun i=>A6 (D1 n ls) i) (P2 hok.1 hok.2.2 (Kr hm.1 hm.2));rw[hg,hcl b b0 b1 (fun e=>hab e.symm) hdep,hcl _ p4 p5 (fun e=>by rw[e]at p3;omega) (by omega), <-hLab,hLp]
theorem OK (hok:F2 n ls) (hd:EU n ls up dep) {top:List Int} (h:AC n up dep top) {m:Int->Bool} (hm:Mk n up (Mv top) m) (hs:Snd n ls up (Mv top)) (hc:Cmp n ls up (Mv top) ls.length) {i:Nat} (hi:i<ls.length):sep n ls (fun j=>j==i)=true↔(i:Int)∈B8 n ls/\m i=false:=by
 rw[A2w];have hM:∀v,0<=v->v<n->Mv top v->0<=(M1 up v).1:=fun v v0 v1 hv=>(h.dec v v0 v1 hv).1
 by_cases hf:(i:Int)∈B8 n ls
 . cases hmi:m i with
   |true=>
    obtain⟨w,w0,w1,hw,he⟩:=(hm i).1 hmi;have h1:=hs w w0 w1 hw;obtain⟨p1,p2,_⟩:=hd.up_in hok w0 w1 (hM w w0 w1 hw);rw[he]at h1 p2;rw[oP hok (by omega) (fB p2 (f:=fun i_1=>A6 (D1 n (LS ls (i:Int))) i_1) h1)];exact⟨fun h=>absurd h (Nat.lt_irrefl _),fun h=>by cases h.2⟩
   |false=>
    refine⟨fun _=>⟨hf,rfl⟩,fun _=>kB hok hf fun j hj hjf=> ?_⟩;refine hc j hj hjf (fun v=>A6 (D1 n (MF n ls (i:Int))) v) fun w w0 w1 hw=> ?_
    obtain⟨p1,p2,_⟩:=hd.up_in hok w0 w1 (hM w w0 w1 hw);refine Hf p2 (f:=fun v=>A6 (D1 n (MF n ls (i:Int))) v) (P2 hok.1 (JF hok _) (FT.2 ⟨_,p1,fun e=> ?_,rfl⟩));have:=(hm i).2 ⟨w,w0,w1,hw,e⟩;rw[hmi]at this;cases this
 . rw[fR hok (by omega) hf];exact⟨fun h=>absurd h (Nat.lt_irrefl _),fun h=>absurd h.1 hf⟩
theorem RG:∀ {a b:List Int},a.Pairwise (· < ·)->b.Pairwise (· < ·)->(∀x,x∈a↔x∈b)->a=b
 | [],[],_,_,_=>rfl
 | [],y::b,_,_,h=>absurd ((h y).2 (by simp)) (by simp)
 |x::a,[],_,_,h=>absurd ((h x).1 (by simp)) (by simp)
 |x::a,y::b,ha,hb,h=>by
  rw[List.pairwise_cons]at ha hb;have hxy:x=y:=by
   have h1:=(h x).1 (by simp);have h2:=(h y).2 (by simp);rcases List.mem_cons.1 h1 with h1|h1
   . exact h1
   . rcases List.mem_cons.1 h2 with h2|h2
     . exact h2.symm
     . have:=ha.1 y h2;have:=hb.1 x h1;omega
  subst hxy;rw[RG ha.2 hb.2 fun z=> ?_];have:=h z;simp only[List.mem_cons]at this;constructor
  . intro hz;rcases this.1 (.inr hz)with e|e
    . have:=ha.1 z hz;omega
    . exact e
  . intro hz;rcases this.2 (.inr hz)with e|e
    . have:=hb.1 z hz;omega
    . exact e
theorem eF (hok:F2 n ls) (hd:EU n ls up dep) {top:List Int} (h:AC n up dep top) {m:Int->Bool} (hm:Mk n up (Mv top) m) (hs:Snd n ls up (Mv top)) (hc:Cmp n ls up (Mv top) ls.length):(B8 n ls).filter (fun e=> !(m e))=Eb n ls:=by
 refine RG ((Hr n ls).filter _) ?_ fun e=> ?_
 . unfold Eb;refine List.Pairwise.map _ (fun a b hab=> ?_) ((List.pairwise_lt_range (n:=ls.length)).filter _);show(a:Int)<(b:Int);omega
 . rw[List.mem_filter];unfold Eb;rw[List.mem_map];constructor
   . rintro⟨h1,h2⟩;have hf:=K8 h1;refine⟨e.toNat, ?_,by show((e.toNat:Nat):Int)=e;omega⟩;rw[List.mem_filter,List.mem_range];refine⟨by omega,(OK hok hd h hm hs hc (by omega)).2 ?_⟩;rw[show((e.toNat:Nat):Int)=e from by omega];exact⟨h1,by simpa using h2⟩
   . rintro⟨i,hi,rfl⟩;rw[List.mem_filter,List.mem_range]at hi;have:=(OK hok hd h hm hs hc hi.1).1 hi.2;exact⟨this.1,by simpa using this.2⟩
theorem A4m {A B:List Int} (hl:A.length=B.length) (hs:∀b,0<=b->b<(B.length:Int)->A6 A b=b->A6 B b=b) {b:Int} (b0:0<=b) (b1:b<(B.length:Int)) (hA:A6 A b≠b) (hB:A6 B b=b):CZ A<CZ B:=by
 rw[Tc,Tc,hl];have hnd:(b.toNat::(List.range B.length).filter fun(b:Nat)=>decide (A6 A (b:Int)=(b:Int))).Nodup:=by
  rw[List.nodup_cons];refine⟨fun hm=> ?_,List.nodup_range.filter _⟩;rw[List.mem_filter]at hm;have:=of_decide_eq_true hm.2;rw[show((b.toNat:Nat):Int)=b from by omega]at this;exact hA this
 have:=Ro (b:=(List.range B.length).filter fun(b:Nat)=>decide (A6 B (b:Int)=(b:Int))) hnd fun x hx=>by
  rw[List.mem_filter,List.mem_range];rcases List.mem_cons.1 hx with rfl|hx
  . refine⟨by omega,decide_eq_true ?_⟩;rw[show((b.toNat:Nat):Int)=b from by omega];exact hB
  . rw[List.mem_filter,List.mem_range]at hx;exact⟨hx.1,decide_eq_true (hs x (by omega) (by omega) (of_decide_eq_true hx.2))⟩
 simp only[List.length_cons]at this;omega
end
def Xz (ls:List Ln):Int->Int->List (Int×Int)->Prop
 |u,v,[]=>u=v
 |u,v,e::p=>∃w,((e.2=1/\Ht ls e.1=(u,w))\/(e.2= -1/\Ht ls e.1=(w,u)))/\Xz ls w v p
def free (ls:List Ln) (fo used:List Int) (u v:Int) (p:List (Int×Int)):Prop:=Xz ls u v p/\(∀e∈p,e.1∈fo/\e.1∉used)/\(p.map (·.1)).Nodup
def ent (e:Int×Int):LV:=(e.1,ri e.2)
def nH (n:Int) (ls:List Ln) (u v i:Int):Int:=
 if A6 (D1 n (MF n ls i)) u=A6 (D1 n (MF n ls i)) v then 0 else if A6 (D1 n (MF n ls i)) u=A6 (D1 n (MF n ls i)) (Ht ls i).1 then 1 else -1
def Ow (n:Int) (ls:List Ln) (line i:Int):Int:=
 if i=line then 1 else if i∈B8 n ls then nH n ls (Ht ls line).2 (Ht ls line).1 i else 0
def Ib (n:Int) (ls:List Ln) (line:Int):List LV:=
 (List.range ls.length).filterMap fun(i:Nat)=>if Ow n ls line (i:Int)=0 then none else some ((i:Int),ri (Ow n ls line (i:Int)))
def Lz (n:Int) (ls:List Ln) (line:Int):List LV:=if 0<=line/\line<(ls.length:Int)then(if line∈B8 n ls then []else Ib n ls line)else []
def Rl (n:Int) (ls:List Ln) (line:Int):Int:=if 0<=line/\line<(ls.length:Int)then(if line∈B8 n ls then 20 else 0)else 12
end Go.Proofs.YtomjbooonannkaaGreat
namespace Go.Vc
open Go Go.RowKit Go.Gw
section
variable {za:Zn} {w0:World} {cx:Cx} {sp:F3} {an:An} {n:Nat}
end
def hd1 (st:St) (d:Nat) (v:DV):St:=⟨(d,0,v)::st.sl,st.lc,st.nx,st.ct,st.nm,st.fr⟩
theorem A6s (st:St) (d s:Nat) (v:DV):(hd1 st d v).S s=if s=d then v else st.S s:=by
 show(find (0, .dead) s ((d,0,v)::st.sl)).2= _;simp only[find];by_cases h:s=d
 . subst h;simp
 . rw[E6 (Ne.symm h),if_neg h];rfl
section
variable {za:Zn} {w0:World} {st:St} {E:G3} {w:World} {Z:Nat->Prop} {B:Nat->Value}
theorem C0.hd1 (h:C0 za w0 st E w Z B) {d:Nat} {v:DV} (hs:st.S d=v):C0 za w0 (hd1 st d v) E w Z B:=by
 have e:∀s,(Vc.hd1 st d v).S s=st.S s:=fun s=>by
  rw[A6s];split
  . rename_i h;subst h;exact hs.symm
  . rfl
 exact⟨h.ext,h.zlt,fun s=>by rw[e];exact h.slots s,h.locs,h.disj,fun s=>by rw[e];exact h.refs s,h.refl,h.fresh,h.bone,h.zin,h.nms,h.bfix,h.mrk,h.frs,h.frf⟩
end
section
variable {za:Zn} {w0:World} {cx:Cx} {sp:F3} {an:An} {n:Nat}
theorem lD {f:FuncId} {fn:Func} {c:Code} {s:A8} (hf:cx.P.funcs[f]? =some fn) (hb:fn.body=some c) (hn:s.args.length<=fn.ntmps) (hok:V3 fn.ntmps c=true) (hty:G9 cx.P cx.tys=true)
 (hgo:∀x,awf s.args x->s.pre x->∀(za:Zn) (w0:World) (E:G3) (w:World) (Z:Nat->Prop) (B:Nat->Value),za.b0=0->C0 za w0 (PK cx.P s.args x) E w Z B->Gw.Wp cx.P fn.ntmps c (post za w0 ⟨fin cx s fn.results.toList x,fun _ _=>False,fin cx s fn.results.toList x⟩) E w):B6 cx.P f s:=by
 intro w Z vs x hz hre hdis hpre;have hlen:vs.length=s.args.length:=hre.len;generalize hza:zn0 w Z s.args vs=za;have hinit:=iG hz hre hdis;rw[hza]at hinit;refine Wm hf hb (by rw[hlen];exact hn) hok (fun E w'=>Nx za w (fin cx s fn.results.toList x) E w') ?_ ⟨fun hok' a hr=> ?_⟩
 . rintro E w' tmps ht ⟨st,Z',B',h,hfin⟩;unfold fin at hfin;split at hfin
   . rename_i ss hss;split at hfin
     . rename_i ss1 hss1;split at hfin
       . rename_i r o hr ho;obtain⟨hnd,hpost⟩:=B9 hfin;simp only[Bool.and_eq_true]at hnd;obtain⟨Z0,h0⟩:=C0.settleR (rs:=s.res) (ss:=ss) h;obtain⟨Z1,h1⟩:=C0.settleM (as:=s.args) (j:=0) h0;obtain⟨us,g1,g2⟩:=Xp hty h1 ht hss1;have hres:(results fn tmps).run cx.P w'= .ok (Yb us) w':=by
          have hm:(fn.results.mapM (TE tmps)).run cx.P w'= .ok us.toArray w':=by
           rw[Array.mapM_eq_mapM_toList];simp[g1]
          have e:results fn tmps=(do let vs<-fn.results.mapM (TE tmps);pure (if h:vs.size=1 then vs[0]else .tuple vs)):=by
           unfold results;congr 1
          rw[e];simp only[Sem.run_bind,hm,Result.andThen_ok,Sem.run_pure]
          match us with
          | []=>rfl
          | [u]=>rfl
          |u::u'::r=>rfl
         have hpost':s.post x r/\(O7 s.args=true->s.mpost x r o):=by
          unfold A4s at hpost;cases hm:O7 s.args with
          |true=>simp only[hm,cond_true]at hpost;exact⟨hpost.1,fun _=>hpost.2⟩
          |false=>simp only[hm,cond_false]at hpost;exact⟨hpost,fun hh=>by cases hh⟩
         refine⟨_,hres, ?_,r,o,us,(fun b=>s.shared=true/\Z1 b),hpost'.1,hpost'.2,rfl,fun b hb=> ?_, ?_, ?_⟩
         . have:=h.ext;rw[<-hza]at this;exact this
         . rcases h1.zin b hb.2 with hh|hh
           . rw[<-hza]at hh;exact .inr ⟨hb.1,hh⟩
           . exact .inl ⟨hh,h1.zlt b hb.2⟩
         . refine(Ml h1 (Zn:=fun b=>s.shared=true/\Z1 b) (fun b hb=>hb.2) ?_ g2 hr (Cl hnd.1.1) hnd.1.2).1;cases hsh:s.shared with
           |true=>exact .inl fun b hb=>⟨rfl,hb⟩
           |false=>rw[hsh]at hnd;simp only[Bool.false_or,Bool.and_eq_true]at hnd;exact .inr hnd.2.1
         . refine Tj (Zn:=fun b=>s.shared=true/\Z1 b) h1 (j:=0) ?_ (fun m u hm=> ?_) (fun m p hm b hu=> ?_) hlen ho
           . cases hsh:s.shared with
             |true=>exact .inl fun b hb=>⟨rfl,hb⟩
             |false=>rw[hsh]at hnd;simp only[Bool.false_or,Bool.and_eq_true]at hnd;exact .inr hnd.2.2
           . have hlt:=BV hm;rw[S8 hlen]at hlt;have:=h1.bfix m (by rw[<-hza];exact hlt);rw[Nat.zero_add,this, <-hza];show QA s.args vs m=u;simp only[QA,hm,Option.getD_some]
           . rw[<-hza,Nat.zero_add]at hu;rcases hu with⟨hu,_⟩ | ⟨_,p',hp',hb⟩
             . have hlt:=BV (show(D2 s.args vs)[m]? =some p.2 by rw[Ma,List.getElem?_map,hm];rfl);rw[S8 hlen]at hlt;have hu:Jj s.args<=m:=hu;omega
             . rw[hm]at hp';cases hp';exact hb
       . exact hfin.elim
     . exact hfin.elim
   . exact hfin.elim
 . refine wp_mono (hgo x hre.awf hpre za w _ _ _ _ (by rw[<-hza];rfl) hinit hok' a hr) ?_;rintro e a' w' ⟨E',hr',st',Z',B',h',hq⟩;refine⟨E',hr', ?_⟩;cases e with
   |normal=>exact⟨st',Z',B',h',hq⟩
   |ret=>exact⟨st',Z',B',h',hq⟩
   | _=>exact hq.elim
end
def reS (st:St):St:=⟨st.sl,st.lc,st.nx,st.ct,st.nx,st.fr⟩
def unS (n:Nat) (st:St):St:=⟨st.sl,st.lc,st.nx,st.ct,n,st.fr⟩
def reZ (za:Zn) (w:World) (st:St) (Z:Nat->Prop) (B:Nat->Value):Zn:=⟨Z,fun b=>∃k,A4 w (B k) (st.L k) b,st.nx,B,0,0,fun k b=>A4 w (B k) (st.L k) b,fun k _ h=>⟨k,h⟩,za.es⟩
section
variable {za:Zn} {w0 w w':World} {Z Z':Nat->Prop} {B B':Nat->Value} {st st':St} {E E':G3} {cx:Cx} {sp:F3} {an:An} {n:Nat} {k:K}
theorem RL.reU {U U':Nat->Prop} {k:Nat} {l:LC} (h:RL U w Z B k l) (hf:∀b,A4 w (B k) l b->U' b):RL U' w Z B k l:=by
 cases l with
 |none=>trivial
 |al _=>trivial
 |sbox _ _ _=>exact h
 |mapE ka kt va vt es j q=>
  obtain⟨b,ents,cl,e,h1,h2,h3⟩:=h;exact⟨b,ents,cl,e,hf b (by rw[e];rfl),h2,h3⟩
 |iter ka kt va vt left cur=>
  obtain⟨r,e,h1,h2,h3⟩:=h;exact⟨r,e,hf r (by rw[e];rfl),h2,h3⟩
 |box ty cs=>
  obtain⟨b,vs,e,h1,h2,h3⟩:=h;exact⟨b,vs,e,hf b (by rw[e];rfl),h2,h3⟩
 |row t e l=>
  obtain⟨xs,h1,h2,h3⟩:=h;exact⟨xs,h1,h2,fun b hb=>⟨hf b (by show Vc.root (B k)=some b;rw[E5 h1];exact hb),(h3 b hb).2⟩⟩
 |map ka kt va vt es=>
  obtain⟨b,ents,cl,e,h1,h2,h3⟩:=h;exact⟨b,ents,cl,e,hf b (by rw[e];rfl),h2,h3⟩
 |rows t e e' ls al ho=>
  obtain⟨xs,h1,h2,h3,h4⟩:=h;exact⟨xs,h1,h2,h3,fun b hb=>⟨hf b hb,(h4 b hb).2⟩⟩
 |nest t e e' ls bo dd=>
  obtain⟨xs,h1,h4⟩:=h;exact⟨xs,h1,fun b hb=>⟨hf b hb,(h4 b hb).2⟩⟩
 |itM ka kt va vt es left cur q=>
  obtain⟨r,m,seen,ents,cl,e1,e2,hi,h1,h2,h3,h4⟩:=h;exact⟨r,m,seen,ents,cl,e1,e2,hi,hf r (.inl (by rw[e1];rfl)),h2,hf m (.inr ⟨r,_,_,_,e1,hi.it⟩),h4⟩
theorem C0.reb (h:C0 za w0 st E w Z B):C0 (reZ za w st Z B) w (reS st) E w Z B:=
 ⟨Ae.of (R2.refl w),h.zlt,h.slots,fun k=>(h.locs k).reU fun b hb=>by
  by_cases hk:k<st.nx
  . exact .inr ⟨hk,hb⟩
  . rw[h.fresh k (by omega)]at hb;exact hb.elim,h.disj,h.refs,h.refl,h.fresh,h.bone,fun _=> .inl,⟨rfl,Nat.le_refl _⟩,fun _ _=>rfl,⟨Nat.zero_le _,fun _ _ _ _=>Nat.zero_le _⟩,h.frs,h.frf⟩
theorem C0.unreb (hb0:za.b0=0) (h0:C0 za w0 st E w Z B) (h:C0 (reZ za w st Z B) w st' E' w' Z' B'):C0 za w0 (unS st.nm st') E' w' Z' B':=by
 have hn:=h.nms.2;have hm:=h0.nms;refine⟨h0.ext.transM h.ext fun b ⟨k,hk⟩=>((h0.locs k).root hk).1.m,h.zlt,h.slots,fun k=>(show RL _ w' Z' B' k (st'.L k)from h.locs k).reU fun b hb=> ?_,h.disj,h.refs,h.refl,h.fresh,h.bone,fun b hb=> ?_,⟨hm.1,Nat.le_trans hm.2 hn⟩,fun k hk=> ?_,⟨by rw[hb0];exact Nat.zero_le _,fun _ _ _ _=>by rw[hb0];exact Nat.zero_le _⟩,h.frs,h.frf⟩
 . rcases((h.locs k).root hb).1 with⟨h1,h2⟩ | ⟨h1,h2⟩
   . exact .inl ⟨Nat.le_trans hm.2 h1,Nat.le_trans h0.ext.size h2⟩
   . exact((h0.locs k).root h2).1
 . rcases h.zin b hb with hb|hb
   . exact h0.zin b hb
   . exact .inr (Nat.le_trans h0.ext.size hb)
 . exact(h.bfix k (Nat.lt_of_lt_of_le hk hm.2)).trans (h0.bfix k hk)
theorem A5w {P:Program} {id:Nat} {ops:Array Oper} {Q:Exit->G3->World->Prop} (h:JZ P ops.toList (Q .normal) ops.toList E w):Gw.Wp P n (.region id ops false) Q E w:=by
 intro hok a hr;simp only[V3]at hok;have hops:ops=ops.toList.toArray:=by simp
 rw[hops];refine wp_region ?_;have:=EC (P:=P) (Q:=Q) hok ops.toList 0 (by simp) a E w hr h;simpa[List.range_eq_range']using this
theorem cI {P:Program} {all:List Oper} {next:G3->World->Prop} :∀(a b:List Oper),JZ P all next (a++b)=JZ P all (JZ P all next b) a
 | [],_=>rfl
 |o::a,b=>by simp only[List.cons_append,JZ,cI a b]
theorem VA {P:Program} {all:List Oper} {next next':G3->World->Prop} (h:∀E w,next E w->next' E w):∀(a:List Oper) {E:G3} {w:World},JZ P all next a E w->JZ P all next' a E w
 | [],_,_,hs=>h _ _ hs
 | _::a,_,_,hs=>I7 (fun _ _ hh=>VA h a hh) hs
theorem gB {P:Program} {a b:Code} {ka:St->Prop} (ha:Gw.Wp P n a (post za w0 {k with n:=ka}) E w) (hb:∀st E w Z B,C0 za w0 st E w Z B->ka st->Gw.Wp P n b (post za w0 k) E w):Gw.Wp P n (.seq a b) (post za w0 k) E w:=by
 intro hok act hr;simp only[V3,Bool.and_eq_true]at hok;refine wp_seq (wp_mono (ha hok.1 act hr) ?_);rintro e a' w' ⟨E',hr',st',Z',B',h',hq⟩;cases e with
 |normal=>exact hb _ _ _ _ _ h' hq hok.2 a' hr'
 |exit i=>exact⟨E',hr',st',Z',B',h',hq⟩
 |ret=>exact⟨E',hr',st',Z',B',h',hq⟩
 | _=>exact hq.elim
theorem kL {P:Program} {E:G3} {w:World} {ty:TypeId} {fo:Operand} {f:FuncId} {u:Value} {ts:Array TypeId} (hf:ev E fo= .func (.func f) #[u] #[]) (he:Fi P f=true):WH P E ty (.call ⟨.value fo, #[],ts⟩) w f [u]:=fun _ _ _ _=>by
 unfold Fi at he;split at he
 . rename_i fn hfn;simp only[Bool.and_eq_true,Bool.not_eq_true']at he;have h2:¬fn.body=none:=by intro hb;rw[hb]at he;simp at he
   have h1:¬fn.name= "runtime.NumGoroutine" :=by simpa using he.1
   simp[execOp,resolve,hf,Deferred.ofValue,invoke,callFunc,hfn,h1,h2,go_sem]
 . cases he
def ldF (cx:Cx) (sp:F3) (v:Value) (sl ix ad fv cv mv d:Tmp) (q:Nat) (fs:List FuncId) (i:Nat) (k:St->Prop) (st:St):Prop:=
 match st.S sl,st.S ix,fs[i]? with
 | .one ⟨false,[.raw v']⟩, .one s,some g=>match JH s,Ah g sp with
  |some m,some sg=>(v'=v/\m=(i:Int))/\(bif Fi cx.P g then Ta cx sp ((((st.setS ad .dead).setS fv .dead).setS cv .dead).setS mv .dead) d sg [⟨false,[.box q 0]⟩] k else False)
  | _,_=>False
 | _,_,_=>False
def dW (done:St->Prop) (i:Nat) (st:St):Prop:=bif Nat.beq i 0 then done st else False
def A3u (cx:Cx) (sp:F3) (an:An) (R3 X R8:Code) (c:Tmp) (v:Value) (sl ix ad fv cv mv d:Tmp) (q:Nat) (fs:List FuncId) (done fin:St->Prop) (i:Nat) (nxt:St->Prop):St->Prop:=
 Cu cx sp an R3 ⟨fun st=>match(st.ev [] (.tmp c)).bind FN with
  |some e=>(e=true->ldF cx sp v sl ix ad fv cv mv d q fs i (Cu cx sp an X ⟨Cu cx sp an R8 ⟨nxt,dW done,fin⟩,dW done,fin⟩) st)/\(e=false->done st)
  |none=>False,dW done,fin⟩
def Ib (cx:Cx) (sp:F3) (an:An) (R3 X R8:Code) (c:Tmp) (v:Value) (sl ix ad fv cv mv d:Tmp) (q:Nat) (fs:List FuncId) (done fin:St->Prop):Nat->Nat->St->Prop
 |0,_=>fun _=>False
 |f+1,i=>A3u cx sp an R3 X R8 c v sl ix ad fv cv mv d q fs done fin i (Ib cx sp an R3 X R8 c v sl ix ad fv cv mv d q fs done fin f (i+1))
def YQ (t4:Tmp):List Oper->Option (List (Tmp×Tmp×FuncId))
 |o1::o2::r=>match o1.dst,o1.op,o1.guard,o2.dst,o2.op,o2.guard with
  |some d0, .move (.tmp t),none,some d1, .makeFunc (.func g) a b,none=>(match a.toList,b.toList with
   | [.tmp x],[]=>bif Nat.beq t t4&&Nat.beq x d0&& !(Nat.beq d0 t4)&& !(Nat.beq d1 t4)then(YQ t4 r).map ((d0,d1,g):: ·)else none
   | _,_=>none)
  | _,_,_,_,_,_=>none
 | []=>some []
 | _=>none
def slF:List (Tmp×Tmp×FuncId)->List Tmp
 | []=> []
 |x::r=>x.1::x.2.1::slF r
def eqF:List (Tmp×Tmp×FuncId)->List Tmp->List FuncId->Bool
 | [],[],[]=>true
 |x::r,d::ds,g::fs=>Nat.beq x.2.1 d&&Nat.beq x.2.2 g&&eqF r ds fs
 | _,_,_=>false
def OO (st:St):List Tmp->St
 | []=>st
 |d::ds=>OO (st.setS d .dead) ds
def A4t (cx:Cx) (sp:F3) (an:An) (pre:List Oper) (R3 X R8:Code) (c ln sl ix ad fv cv mv d t4:Tmp) (q:Nat) (ds:List Tmp) (fs:List FuncId) (k:K) (st:St):Prop:=
 match YQ t4 pre,st.S t4,st.L q with
 |some prs, .one ⟨false,[.box q' 0]⟩, .box _ _=>bif Nat.beq q' q&&Xe (slF prs)&&eqF prs ds fs then∀v:Value,Ib cx sp an R3 X R8 c v sl ix ad fv cv mv d q fs (fun st'=>k.n (unS st.nm st')) (fun st'=>k.r (unS st.nm st')) (fs.length+1) 0
  ((((reS (OO st (slF prs))).setS sl (.one ⟨false,[.raw v]⟩)).setS ln (.one ⟨false,[.val (.int .i64) (fs.length:Int)]⟩)).setS ix (.one ⟨false,[.val (.int .i64) 0]⟩))else False
 | _,_,_=>False
theorem aJ:∀ {ds:List Tmp} {st:St} {E E':G3},(∀s,s∉ds->E' s=E s)->C0 za w0 st E w Z B->C0 za w0 (OO st ds) E' w Z B
 | [],_,E,E',h,hr=>by
  have:E'=E:=funext fun s=>h s (List.not_mem_nil)
  rw[this];exact hr
 |d::ds,st,E,E',h,hr=>by
  refine aJ (ds:=ds) (E:=upd E d (E' d)) (fun s hs=> ?_) (hr.setS d (x:= .dead) (v:=E' d) trivial trivial);by_cases hsd:s=d
  . subst hsd;rw[A9]
  . rw[C1 _ _ _ _ hsd];exact h s (by simp[hsd,hs])
theorem OP:∀ {ds:List Tmp} {st:St},(OO st ds).nm=st.nm/\(OO st ds).L=st.L/\(OO st ds).nx=st.nx
 | [],_=>⟨rfl,rfl,rfl⟩
 |d::ds,st=>OP (ds:=ds) (st:=st.setS d .dead)
theorem VG {P:Program} {all:List Oper} {t4:Tmp} {p:Value} {next:G3->World->Prop} :∀(pre:List Oper) {prs:List (Tmp×Tmp×FuncId)} {E:G3},YQ t4 pre=some prs->(slF prs).Nodup->E t4=p->
 (∀E',(∀s,s∉slF prs->E' s=E s)->(∀x∈prs,E' x.2.1=Value.func (.func x.2.2) #[p] #[])->next E' w)->JZ P all next pre E w
 | [],prs,E,hp,_,_,hn=>by
  cases hp;exact hn E (fun _ _=>rfl) (fun _ h=>(by cases h))
 | [_],_,_,hp,_,_,_=>by cases hp
 |o1::o2::r,prs,E,hp,hnd,h4,hn=>by
  obtain⟨dst1,op1,ty1,pos1,aft1,g1⟩:=o1;obtain⟨dst2,op2,ty2,pos2,aft2,g2⟩:=o2;simp only[YQ]at hp;split at hp
  case h_2=>cases hp
  rename_i d0 t d1 g a b;split at hp
  case h_2=>cases hp
  rename_i x ha hb;obtain⟨hc,hp⟩:=D7 hp;simp only[Bool.and_eq_true,Bool.not_eq_true']at hc;obtain⟨⟨⟨c1,c2⟩,c3⟩,c4⟩:=hc;have e1:=Nat.eq_of_beq_eq_true c1;have e2:=Nat.eq_of_beq_eq_true c2;have n3:=Nat.ne_of_beq_eq_false c3;have n4:=Nat.ne_of_beq_eq_false c4;subst e1 e2;obtain⟨prs',hp',rfl⟩:=Option.map_eq_some_iff.1 hp;have ha:a= #[.tmp x]:=by rw[<-Array.toArray_toList (xs:=a),ha]
  have hb:b= #[]:=by rw[<-Array.toArray_toList (xs:=b),hb]
  subst ha hb;have hnd:(x::d1::slF prs').Nodup:=hnd;obtain⟨m1,hnd⟩:=List.nodup_cons.1 hnd;obtain⟨m2,hnd⟩:=List.nodup_cons.1 hnd;have ey:Gw.C8 P (upd E x (E t)) ty2 (.makeFunc (.func g) #[.tmp x] #[]) w (Value.func (.func g) #[E t] #[]) w:=fun _ _ _ _=>by
   have:Gw.ev (upd E x (E t)) (.tmp x)=E t:=A9 _ _ _;simp[execOp,this,Instr.makeFunc,go_sem]
  refine J9 SQ rfl (J9 ey rfl ?_);have ht:upd (upd E x (E t)) d1 (Value.func (.func g) #[E t] #[]) t=p:=by rw[C1 _ _ _ _ (Ne.symm n4),C1 _ _ _ _ (Ne.symm n3),h4]
  refine VG r hp' hnd ht fun E' k1 k2=>hn E' (fun s hs=> ?_) fun y hy=> ?_
  . have hs:s∉x::d1::slF prs':=hs;simp only[List.mem_cons,not_or]at hs;rw[k1 s hs.2.2,C1 _ _ _ _ hs.2.1,C1 _ _ _ _ hs.1]
  . rcases List.mem_cons.1 hy with rfl|hy
    . dsimp only;rw[k1 d1 m2,A9,h4]
    . exact k2 y hy
theorem nN {E:G3} {p:Value} :∀ {prs:List (Tmp×Tmp×FuncId)} {ds:List Tmp} {fs:List FuncId},eqF prs ds fs=true->(∀x∈prs,E x.2.1=Value.func (.func x.2.2) #[p] #[])->ds.map E=fs.map fun g=>Value.func (.func g) #[p] #[]
 | [],[],[],_,_=>rfl
 |x::r,d::ds,g::fs,h,hx=>by
  simp only[eqF,Bool.and_eq_true]at h;rw[List.map_cons,List.map_cons,nN h.2 fun y hy=>hx y (List.mem_cons_of_mem _ hy), <-Nat.eq_of_beq_eq_true h.1.1, <-Nat.eq_of_beq_eq_true h.1.2,hx x List.mem_cons_self]
 | [],[],_:: _,h,_=>by simp[eqF]at h
 | [],_:: _,_,h,_=>by simp[eqF]at h
 | _:: _,[],_,h,_=>by simp[eqF]at h
 | _:: _,_:: _,[],h,_=>by simp[eqF]at h
variable (hty:G9 cx.P cx.tys=true) (hsp:Ll cx.P sp)
include hty hsp in
theorem A0h (hb0:za.b0=0) {R3 X R8:Code} {c sl ix ad fv cv mv d q:Nat} {v:Value} {fs:List FuncId} {done fin nxt:St->Prop} {i bF:Nat} {bq:Value} {T e:TypeId} {cs:Array Value} {id4 id5:Nat} {t1 t2 t3 t8 t9:TypeId} {p1 p2 p3 p8 p9:String} {a1 a2 a3 a8 a9:Array Edge}
 (hT:Aq cx.P T e 1=true) (he:S7 cx.P e=true) (hv:v= .slice (some ⟨bF,0,none⟩) fs.length fs.length) (hcs:cs.toList=fs.map fun g=>Value.func (.func g) #[bq] #[])
 (hkeep:∀ {st':St} {E':G3} {w':World} {Z':Nat->Prop} {B':Nat->Value},C0 za w0 st' E' w' Z' B'->w'.heap[bF]? =some (.cells cs e (0,0))/\B' q=bq/\q<st'.nx/\∃bb,bq= .pointer (some ⟨bb,0,none⟩))
 (h:C0 za w0 st E w Z B) (hs:A3u cx sp an R3 X R8 c v sl ix ad fv cv mv d q fs done fin i nxt st):
 Gw.Wp cx.P n (.seq R3 (.seq (.cond (.tmp c) .skip (.exit 0)) (.seq (.block 1 (.seq (.region id4 #[⟨some ad, .indexAddr T (.tmp sl) (.tmp ix),t1,p1,a1,none⟩,⟨some fv, .load e (.tmp ad),t2,p2,a2,none⟩,⟨some cv, .assign (.tmp fv),t3,p3,a3,none⟩] false) (.seq (.region id5 #[⟨some mv, .move (.tmp cv),t8,p8,a8,none⟩,⟨some d, .call ⟨.value (.tmp mv), #[], #[]⟩,t9,p9,a9,none⟩] false) X))) R8))) (post za w0 ⟨nxt,dW done,fin⟩) E w:=by
 refine gB (Pg hty hsp hb0 h hs) fun st E w Z B h hs=> ?_
 split at hs
 case h_2=>exact hs.elim
 rename_i b hbc;refine gB (ka:=fun st=>ldF cx sp v sl ix ad fv cv mv d q fs i (Cu cx sp an X ⟨Cu cx sp an R8 ⟨nxt,dW done,fin⟩,dW done,fin⟩) st) ?_ fun st E w Z B h hs=> ?_
 . intro hok a hr;obtain⟨s,hs1,hs2⟩:=bind_some.1 hbc;have hcv:=Lq (h.ev (D5 E) hs1).1 hs2;refine wp_cond (t:=b) (by rw[hr.ev];exact hcv) ?_;cases b with
   |true=>exact wp_skip ⟨E,hr,st,Z,B,h,hs.1 rfl⟩
   |false=>exact wp_exit ⟨E,hr,st,Z,B,h,hs.2 rfl⟩
 . refine gB (ka:=Cu cx sp an R8 ⟨nxt,dW done,fin⟩) ?_ fun st E w Z B h hs=>Pg hty hsp hb0 h hs
   have inner:Gw.Wp cx.P n (.seq (.region id4 #[⟨some ad, .indexAddr T (.tmp sl) (.tmp ix),t1,p1,a1,none⟩,⟨some fv, .load e (.tmp ad),t2,p2,a2,none⟩,⟨some cv, .assign (.tmp fv),t3,p3,a3,none⟩] false) (.seq (.region id5 #[⟨some mv, .move (.tmp cv),t8,p8,a8,none⟩,⟨some d, .call ⟨.value (.tmp mv), #[], #[]⟩,t9,p9,a9,none⟩] false) X)) (post za w0 ⟨Cu cx sp an R8 ⟨nxt,dW done,fin⟩,dW done,fin⟩) E w:=by
    unfold ldF at hs;split at hs
    case h_2=>exact hs.elim
    rename_i v' s g e1 e2 e3;split at hs
    case h_2=>exact hs.elim
    rename_i m sg hm hsg;obtain⟨⟨e4,e5⟩,hs⟩:=hs;obtain⟨hen,hs⟩:=B9 hs;obtain⟨k1,k2,k3,bb,k4⟩:=hkeep h;have s1:=h.slots sl;have s2:=h.slots ix;rw[e1]at s1;rw[e2]at s2;obtain⟨x,_,f1,⟨f2,_⟩,f3⟩:=s1;cases f1;obtain⟨kd,g1,g2⟩:=iH s2 hm;have hil:i<fs.length:=(List.getElem?_eq_some_iff.1 e3).1;have hcell:cs[i]? =some (Value.func (.func g) #[bq] #[]):=by
     rw[<-Array.getElem?_toList,hcs,List.getElem?_map,e3,Option.map_some]
    have o1:Gw.C8 cx.P E t1 (.indexAddr T (.tmp sl) (.tmp ix)) w (.pointer (some ⟨bF,0+i*1,none⟩)) w:=A6e (v:=E sl) (len:=fs.length) i rfl (by rw[f2,e4,hv]) g1 e5 hT hil;have o2:Gw.C8 cx.P (upd E ad (.pointer (some ⟨bF,0+i*1,none⟩))) t2 (.load e (.tmp ad)) w (Value.func (.func g) #[bq] #[]) w:=SP (a:=⟨bF,0+i*1,none⟩) (A9 _ _ _) he (by
     simp only[World.cell?,k1];simpa using hcell)
    have ef:∀(E1:G3) (x:Nat) (u:Value),Gw.ev (upd E1 x u) (.tmp x)=u:=fun _ _ _=>A9 _ _ _
    have h5:=(((h.setS ad (x:= .dead) (v:= .pointer (some ⟨bF,0+i*1,none⟩)) trivial trivial).setS fv (x:= .dead) (v:=Value.func (.func g) #[bq] #[]) trivial trivial).setS cv (x:= .dead) (v:=Value.func (.func g) #[bq] #[]) trivial trivial);have r4:Gw.Wp cx.P n (.region id4 #[⟨some ad, .indexAddr T (.tmp sl) (.tmp ix),t1,p1,a1,none⟩,⟨some fv, .load e (.tmp ad),t2,p2,a2,none⟩,⟨some cv, .assign (.tmp fv),t3,p3,a3,none⟩] false) (fun x E' w'=>x= .normal/\w'=w/\E'=upd (upd (upd E ad (.pointer (some ⟨bF,0+i*1,none⟩))) fv (Value.func (.func g) #[bq] #[])) cv (Value.func (.func g) #[bq] #[])) E w:=by
     refine A5w (J9 o1 rfl (J9 o2 rfl (J9 SO rfl ⟨rfl,rfl, ?_⟩)));rw[ef]
    intro hok a hr;replace hok:=Bool.and_eq_true_iff.1 (show(_ && _)=true from hok);refine wp_seq (wp_mono (r4 hok.1 a hr) ?_);rintro x a' w' ⟨E',hr',rfl,rfl,rfl⟩;have r5:Gw.Wp cx.P n (.seq (.region id5 #[⟨some mv, .move (.tmp cv),t8,p8,a8,none⟩,⟨some d, .call ⟨.value (.tmp mv), #[], #[]⟩,t9,p9,a9,none⟩] false) X) (post za w0 ⟨Cu cx sp an R8 ⟨nxt,dW done,fin⟩,dW done,fin⟩) (upd (upd (upd E ad (.pointer (some ⟨bF,0+i*1,none⟩))) fv (Value.func (.func g) #[bq] #[])) cv (Value.func (.func g) #[bq] #[])) w':=by
     refine gB (ka:=Cu cx sp an X ⟨Cu cx sp an R8 ⟨nxt,dW done,fin⟩,dW done,fin⟩) (A5w (J9 SQ rfl ?_)) fun st E w Z B h hs=>Pg hty hsp hb0 h hs
     rw[ef];have h6:=h5.setS mv (x:= .dead) (v:=Value.func (.func g) #[bq] #[]) trivial trivial;have:=FO (cx:=cx) (sp:=sp) (st:=((((st.setS ad .dead).setS fv .dead).setS cv .dead).setS mv .dead)) (all:= [⟨some mv, .move (.tmp cv),t8,p8,a8,none⟩,⟨some d, .call ⟨.value (.tmp mv), #[], #[]⟩,t9,p9,a9,none⟩]) (f:= .tmp mv) (args:= []) (ts:= #[]) (ty:=t9) (pos:=p9) (aft:=a9) (gd:=none) (d:=d) h6 hsp (vs:= [bq]) (ss:= [⟨false,[.box q 0]⟩]) (kL (ef _ _ _) hen) ⟨bq,[],rfl,⟨bq,[],rfl,⟨bb,by rw[k2,k4],k4⟩,rfl⟩,rfl⟩ hsg hs rfl;exact I7 (fun _ _ hh=>hh.2.2) this
    exact r5 hok.2 a' hr'
   intro hok a hr;refine wp_block (wp_mono (inner hok a hr) ?_);rintro e a' w' ⟨E',hr',st',Z',B',h',hq⟩;cases e with
   |normal=>exact⟨E',hr',st',Z',B',h',hq⟩
   |ret=>exact⟨E',hr',st',Z',B',h',hq⟩
   |exit j=>
    simp only[K.at,dW]at hq;cases hj:Nat.beq j 0 with
    |false=>rw[hj]at hq;exact hq.elim
    |true=>
     have:=Nat.eq_of_beq_eq_true hj;subst this;exact⟨E',hr',st',Z',B',h',hq⟩
   | _=>exact hq.elim
include hty hsp in
theorem oS (hb0:za.b0=0) {R3 X R8:Code} {c sl ix ad fv cv mv d q:Nat} {v:Value} {fs:List FuncId} {done fin:St->Prop} {bF:Nat} {bq:Value} {T e:TypeId} {cs:Array Value} {id4 id5:Nat} {t1 t2 t3 t8 t9:TypeId} {p1 p2 p3 p8 p9:String} {a1 a2 a3 a8 a9:Array Edge}
 (hT:Aq cx.P T e 1=true) (he:S7 cx.P e=true) (hv:v= .slice (some ⟨bF,0,none⟩) fs.length fs.length) (hcs:cs.toList=fs.map fun g=>Value.func (.func g) #[bq] #[])
 (hkeep:∀ {st':St} {E':G3} {w':World} {Z':Nat->Prop} {B':Nat->Value},C0 za w0 st' E' w' Z' B'->w'.heap[bF]? =some (.cells cs e (0,0))/\B' q=bq/\q<st'.nx/\∃bb,bq= .pointer (some ⟨bb,0,none⟩))
 {f i:Nat} (h:C0 za w0 st E w Z B) (hs:Ib cx sp an R3 X R8 c v sl ix ad fv cv mv d q fs done fin f i st):
 Gw.Wp cx.P n (.loop (.seq R3 (.seq (.cond (.tmp c) .skip (.exit 0)) (.seq (.block 1 (.seq (.region id4 #[⟨some ad, .indexAddr T (.tmp sl) (.tmp ix),t1,p1,a1,none⟩,⟨some fv, .load e (.tmp ad),t2,p2,a2,none⟩,⟨some cv, .assign (.tmp fv),t3,p3,a3,none⟩] false) (.seq (.region id5 #[⟨some mv, .move (.tmp cv),t8,p8,a8,none⟩,⟨some d, .call ⟨.value (.tmp mv), #[], #[]⟩,t9,p9,a9,none⟩] false) X))) R8)))) (post za w0 ⟨fun _=>False,dW done,fin⟩) E w:=by
 intro hok a hr;refine wp_loop_ghost (fun f a w=>∃i st E Z B,Gw.C6 n a E/\C0 za w0 st E w Z B/\Ib cx sp an R3 X R8 c v sl ix ad fv cv mv d q fs done fin f i st) f ⟨i,st,E,Z,B,hr,h,hs⟩ ?_;rintro f a w ⟨i,st,E,Z,B,hr,h,hs⟩;cases f with
 |zero=>exact hs.elim
 |succ f=>
  refine wp_mono (A0h hty hsp hb0 hT he hv hcs hkeep h hs hok a hr) ?_;rintro e a' w' ⟨E',hr',st',Z',B',h',hq⟩;cases e with
  |normal=>exact⟨f,Nat.lt_succ_self _,i+1,st',E',Z',B',hr',h',hq⟩
  |exit j=>exact⟨E',hr',st',Z',B',h',hq⟩
  |ret=>exact⟨E',hr',st',Z',B',h',hq⟩
  | _=>exact hq.elim
def fU (ds:List Tmp):List (Nat×Operand):=(ds.zipIdx 0).map fun x=>(x.2, .tmp x.1)
theorem cM (E:G3):∀(ds:List Tmp) (m:Nat),(((ds.zipIdx m).map fun x=>(x.2,Operand.tmp x.1)).map fun x=>(x.1,Gw.ev E x.2))=((ds.map E).zipIdx m).map fun x=>(x.2,x.1)
 | [],_=>rfl
 |d::ds,m=>by
  simp only[List.zipIdx_cons,List.map_cons];rw[cM E ds (m+1)];rfl
def A6u (za:Zn) (w0:World) (cx:Cx) (sp:F3) (an:An) (R3 X R8:Code) (c ln sl ix ad fv cv mv d t4 q:Nat) (fs:List FuncId) (k:K) (e:TypeId) (E':G3) (w':World):Prop:=
 ∃(st1:St) (E1:G3) (w1:World) (Z1:Nat->Prop) (B1:Nat->Value) (bF:Nat) (cs:Array Value),C0 za w0 st1 E1 w1 Z1 B1/\C0 za w0 st1 E1 w' Z1 B1/\R2 w1 w'/\bF=w1.heap.size/\w'.heap[bF]? =some (.cells cs e (0,0))/\(cs.toList=fs.map fun g=>Value.func (.func g) #[B1 q] #[])/\q<st1.nx/\(∃bb,B1 q= .pointer (some ⟨bb,0,none⟩))/\
  E'=upd (upd (upd E1 sl (.slice (some ⟨bF,0,none⟩) fs.length fs.length)) ln (.int .i64 fs.length)) ix (.int .i64 0)/\
  ∀v:Value,Ib cx sp an R3 X R8 c v sl ix ad fv cv mv d q fs (fun st'=>k.n (unS st1.nm st')) (fun st'=>k.r (unS st1.nm st')) (fs.length+1) 0 ((((reS st1).setS sl (.one ⟨false,[.raw v]⟩)).setS ln (.one ⟨false,[.val (.int .i64) (fs.length:Int)]⟩)).setS ix (.one ⟨false,[.val (.int .i64) 0]⟩))
theorem aT {u:Value} :∀fs:List FuncId,(fs.map fun g=>Value.func (.func g) #[u] #[]).flatMap (·.cells.toList)=fs.map fun g=>Value.func (.func g) #[u] #[]
 | []=>rfl
 |g::fs=>by rw[List.map_cons,List.flatMap_cons,aT fs];rfl
include hty hsp in
theorem A1s (hb0:za.b0=0) {R3 X R8:Code} {c ln sl ix ad fv cv mv d t4 q:Nat} {ds:List Tmp} {fs:List FuncId} {T e:TypeId} {z:Value} {pre:List Oper} {ops:Array Oper} {id2 id4 id5:Nat} {t1 t2 t3 t5 t6 t7 t8 t9:TypeId} {p1 p2 p3 p5 p6 p7 p8 p9:String} {a1 a2 a3 a5 a6 a7 a8 a9:Array Edge}
 (hops:ops.toList=pre++ [⟨some sl, .buildSlice T fs.length (fU ds).toArray,t5,p5,a5,none⟩,⟨some ln, .call ⟨.builtin .len, #[.tmp sl], #[T]⟩,t6,p6,a6,none⟩,⟨some ix, .move (.const (.int .i64 0)),t7,p7,a7,none⟩])
 (hT:Aq cx.P T e 1=true) (he:S7 cx.P e=true) (hz:Dc cx.P e=some z) (hz1:z.cells.size=1) (hlen:fs.length<=16777216)
 (h:C0 za w0 st E w Z B) (hs:A4t cx sp an pre R3 X R8 c ln sl ix ad fv cv mv d t4 q ds fs k st):
 Gw.Wp cx.P n (.seq (.region id2 ops false) (.block 0 (.loop (.seq R3 (.seq (.cond (.tmp c) .skip (.exit 0)) (.seq (.block 1 (.seq (.region id4 #[⟨some ad, .indexAddr T (.tmp sl) (.tmp ix),t1,p1,a1,none⟩,⟨some fv, .load e (.tmp ad),t2,p2,a2,none⟩,⟨some cv, .assign (.tmp fv),t3,p3,a3,none⟩] false) (.seq (.region id5 #[⟨some mv, .move (.tmp cv),t8,p8,a8,none⟩,⟨some d, .call ⟨.value (.tmp mv), #[], #[]⟩,t9,p9,a9,none⟩] false) X))) R8)))))) (post za w0 k) E w:=by
 have key:JZ cx.P ops.toList (A6u za w0 cx sp an R3 X R8 c ln sl ix ad fv cv mv d t4 q fs k e) ops.toList E w:=by
  unfold A4t at hs;split at hs
  case h_2=>exact hs.elim
  rename_i prs q' T0 cs0 hprs hS4 hLq;obtain⟨hc,hs1⟩:=B9 hs;simp only[Bool.and_eq_true]at hc;obtain⟨⟨c1,c2⟩,c3⟩:=hc;have e1:=Nat.eq_of_beq_eq_true c1;subst e1;have hq:q'<st.nx:=Nat.lt_of_not_le fun hh=>by rw[h.fresh q' hh]at hLq;cases hLq
  obtain⟨bb,hbb⟩:∃bb,B q'= .pointer (some ⟨bb,0,none⟩):=by
   have:=h.locs q';rw[hLq]at this;obtain⟨b,_,e,_⟩:=this;exact⟨b,e⟩
  have h4:=iY h hS4
  conv=>arg 4;rw[hops]
  rw[cI];refine VG pre hprs (Cl c2) h4 fun E1 k1 k2=> ?_
  have h1:=aJ k1 h;have hds:=nN c3 k2;generalize hst1:OO st (slF prs)=st1 at h1 hs1;have hnm:st1.nm=st.nm:=by rw[<-hst1];exact OP.1
  have hnx:st1.nx=st.nx:=by rw[<-hst1];exact OP.2.2
  rw[<-hnm]at hs1;rw[<-hnx]at hq;have hdl:ds.length=fs.length:=by have:=congrArg List.length hds;simpa using this
  obtain⟨cs,g1,g2⟩:=Hu (P:=cx.P) (w:=w) (ty:=t5) (E:=E1) (T:=T) (parts:=fU ds) (len:=fs.length) (ds.map E1) hT hz (by omega) (Nat.le_refl _) hz1 (cM E1 ds 0) (fun u hu=>by
   rw[hds]at hu;obtain⟨g,_,rfl⟩:=List.mem_map.1 hu;rfl) (by rw[List.length_map,hdl])
  have hcs:cs.toList=fs.map fun g=>Value.func (.func g) #[B q'] #[]:=by
   rw[g1,hds];exact aT fs
  have hx:R2 w (w.alloc (.cells cs e)):=R2.alloc w _;refine J9 g2 rfl (J9 (A3y (s:=1) (e:=e) (A9 _ _ _) hT) rfl (J9 SQ rfl ?_));exact⟨st1,E1,w,Z,B,w.heap.size,cs,h1,h1.more (Z':=Z) hx (fun _=>id) (fun _=> .inl),hx,rfl,Df w cs e,hcs,hq,⟨bb,hbb⟩,rfl,hs1⟩
 intro hok a hr;replace hok:=Bool.and_eq_true_iff.1 (show(_ && _)=true from hok);refine wp_seq (wp_mono (A5w (Q:=fun x E' w'=>x= .normal/\A6u za w0 cx sp an R3 X R8 c ln sl ix ad fv cv mv d t4 q fs k e E' w') (VA (fun E' w' hh=>⟨rfl,hh⟩) _ key) hok.1 a hr) ?_);rintro x a' w' ⟨E',hr',rfl,st1,E1,w1,Z1,B1,bF,cs,h1,h2,hx,rfl,hbF,hcs,hq,hpt,rfl,hl⟩;have hnr:∀k,¬A4 w' (B1 k) (st1.L k) w1.heap.size:=fun k hk=>by
  have h3:=(A4.iff (w:=w1) (w':=w') fun c hc=>hx.block c ((h1.locs k).root hc).2.1).1 hk;exact absurd ((h1.locs k).root h3).2.1 (Nat.lt_irrefl _)
 have hlt:w1.heap.size<w'.heap.size:=(Array.getElem?_eq_some_iff.1 hbF).1;have h3:=h2.reb;have hin:FX .i64 (fs.length:Int):=⟨Int.le_trans (by decide) (Int.natCast_nonneg _),Int.le_trans (show(fs.length:Int)<=16777216 by omega) (by decide)⟩;have h4:=((h3.setS sl (x:= .one ⟨false,[.raw (.slice (some ⟨w1.heap.size,0,none⟩) fs.length fs.length)]⟩) (v:= .slice (some ⟨w1.heap.size,0,none⟩) fs.length fs.length) ⟨_,[],rfl,⟨rfl,rfl⟩,rfl⟩ (fun c hc=>by
  simp only[List.mem_singleton]at hc;subst hc;trivial)).setS ln (x:= .one ⟨false,[.val (.int .i64) (fs.length:Int)]⟩) (v:= .int .i64 fs.length) ⟨_,[],rfl,⟨rfl,hin⟩,rfl⟩ (fun c hc=>by
  simp only[List.mem_singleton]at hc;subst hc;trivial)).setS ix (x:= .one ⟨false,[.val (.int .i64) 0]⟩) (v:= .int .i64 0) ⟨_,[],rfl,⟨rfl,by unfold FX;decide⟩,rfl⟩ (fun c hc=>by
  simp only[List.mem_singleton]at hc;subst hc;trivial)
 have hkeep:∀ {st':St} {E':G3} {w2:World} {Z':Nat->Prop} {B':Nat->Value},C0 (reZ za w' st1 Z1 B1) w' st' E' w2 Z' B'->w2.heap[w1.heap.size]? =some (.cells cs e (0,0))/\B' q=B1 q/\q<st'.nx/\∃bb,B1 q= .pointer (some ⟨bb,0,none⟩):=fun {st' E' w2 Z' B'} hh=>
  ⟨(hh.ext.block _ hlt fun⟨k,hk⟩=>hnr k hk).trans hbF,hh.bfix q hq,Nat.lt_of_lt_of_le hq hh.nms.2,hpt⟩
 refine wp_block (wp_mono (oS hty hsp (za:=reZ za w' st1 Z1 B1) (w0:=w') rfl hT he rfl hcs hkeep h4 (hl _) hok.2 a' hr') ?_);rintro x a2 w2 ⟨E2,hr2,st2,Z2,B2,h5,hq2⟩;cases x with
 |normal=>exact hq2.elim
 |ret=>exact⟨E2,hr2,_,Z2,B2,C0.unreb hb0 h2 h5,hq2⟩
 |exit j=>
  simp only[K.at,dW]at hq2;cases hj:Nat.beq j 0 with
  |false=>rw[hj]at hq2;exact hq2.elim
  |true=>
   have:=Nat.eq_of_beq_eq_true hj;subst this;rw[hj]at hq2;exact⟨E2,hr2,_,Z2,B2,C0.unreb hb0 h2 h5,hq2⟩
 | _=>exact hq2.elim
def A7a (cx:Cx) (sp:F3) (an:An) (s:A8) (vars:List ResultVar) (R0 R1 RE:Code) (pre:List Oper) (R3 X R8:Code) (c ln sl ix ad fv cv mv d t4 q:Nat) (ds:List Tmp) (fs:List FuncId) (x:A2 s.args):Prop:=
 Cu cx sp an R0 ⟨Cu cx sp an R1 ⟨A4t cx sp an pre R3 X R8 c ln sl ix ad fv cv mv d t4 q ds fs ⟨Cu cx sp an RE ⟨fin cx s vars x,fun _ _=>False,fin cx s vars x⟩,fun _ _=>False,fin cx s vars x⟩,fun _ _=>False,fin cx s vars x⟩,fun _ _=>False,fin cx s vars x⟩ (PK cx.P s.args x)
include hty hsp in
theorem kN {f:FuncId} {fn:Func} {s:A8} (hf:cx.P.funcs[f]? =some fn) {body R0 R1 RE R3 X R8:Code} {c ln sl ix ad fv cv mv d t4 q:Nat} {ds:List Tmp} {fs:List FuncId} {T e:TypeId} {z:Value} {pre:List Oper} {ops:Array Oper} {id2 id4 id5:Nat} {t1 t2 t3 t5 t6 t7 t8 t9:TypeId} {p1 p2 p3 p5 p6 p7 p8 p9:String} {a1 a2 a3 a5 a6 a7 a8 a9:Array Edge}
 (hb:fn.body=some body) (hbody:body= .seq R0 (.seq R1 (.seq (.seq (.region id2 ops false) (.block 0 (.loop (.seq R3 (.seq (.cond (.tmp c) .skip (.exit 0)) (.seq (.block 1 (.seq (.region id4 #[⟨some ad, .indexAddr T (.tmp sl) (.tmp ix),t1,p1,a1,none⟩,⟨some fv, .load e (.tmp ad),t2,p2,a2,none⟩,⟨some cv, .assign (.tmp fv),t3,p3,a3,none⟩] false) (.seq (.region id5 #[⟨some mv, .move (.tmp cv),t8,p8,a8,none⟩,⟨some d, .call ⟨.value (.tmp mv), #[], #[]⟩,t9,p9,a9,none⟩] false) X))) R8)))))) RE)))
 (hn:s.args.length<=fn.ntmps) (hok:V3 fn.ntmps body=true)
 (hops:ops.toList=pre++ [⟨some sl, .buildSlice T fs.length (fU ds).toArray,t5,p5,a5,none⟩,⟨some ln, .call ⟨.builtin .len, #[.tmp sl], #[T]⟩,t6,p6,a6,none⟩,⟨some ix, .move (.const (.int .i64 0)),t7,p7,a7,none⟩])
 (hT:Aq cx.P T e 1=true) (he:S7 cx.P e=true) (hz:Dc cx.P e=some z) (hz1:z.cells.size=1) (hlen:fs.length<=16777216)
 (h:∀x,awf s.args x->s.pre x->A7a cx sp an s fn.results.toList R0 R1 RE pre R3 X R8 c ln sl ix ad fv cv mv d t4 q ds fs x):B6 cx.P f s:=by
 refine lD (cx:=cx) (fn:=fn) (c:=body) hf hb hn hok hty fun x hw hp za w0 E w Z B hb0 hr=> ?_
 rw[hbody];refine gB (Pg hty hsp hb0 hr (h x hw hp)) fun _ _ _ _ _ hr hs=> ?_
 refine gB (Pg hty hsp hb0 hr hs) fun _ _ _ _ _ hr hs=> ?_
 exact gB (A1s hty hsp hb0 hops hT he hz hz1 hlen hr hs) fun _ _ _ _ _ hr hs=>Pg hty hsp hb0 hr hs
end
end Go.Vc
namespace Go.Proofs.YtomjbooonannkaaGreat
open Go.Vc Go.Gw
theorem A3e:IntKind.u32.max=4294967295:=by decide
theorem A3f:IntKind.u32.min=0:=by decide
theorem jO:IntKind.u64.max=18446744073709551615:=by decide
theorem jP:IntKind.u64.min=0:=by decide
theorem XP:IntKind.i64.max=9223372036854775807:=by decide
theorem NM:IntKind.i64.min= -9223372036854775808:=by decide
theorem PO {l:List Int} (h:∀x∈l,IntKind.u32.min<=x/\x<=IntKind.u32.max):Ov l:=fun x hx=>by
 have:=h x hx;rw[A3f,A3e]at this;exact this
theorem w64 {a:Int} (h0:0<=a) (h1:a<=18446744073709551615):IntKind.u64.wrap a=a:=IntWalk.u64_in _ ⟨h0,h1⟩
theorem jR (a:Int):IntKind.u32.wrap a=a%4294967296:=IntKind.wrap_u32 a
theorem Uw (a:Int):IntKind.u64.wrap a=a%18446744073709551616:=IntKind.wrap_u64 a
theorem iM {l:List Int} (h:Ov l) {i:Int} (h0:0<=i) (h1:i<(l.length:Int)):0<=gx 0 l i/\gx 0 l i<=4294967295:=h _ (S6 h0 h1)
theorem KY {v:Int} (h0:0<=v) (h1:v<18446744073709551616):(BitVec.ofInt 64 v).toNat=v.toNat:=by
 rw[BitVec.toNat_ofInt];congr 1;omega
theorem pN {v b:Int} {k:Nat} (v0:0<=v) (v1:v<2^k) (b0:0<=b) (hb:b*2^k<18446744073709551616) (hv:v<18446744073709551616):(((BitVec.ofInt 64 v|||BitVec.ofInt 64 (b*2^k)).toNat:Nat):Int)=v+b*2^k:=by
 have hb0:0<=b*2^k:=Int.mul_nonneg b0 (Int.pow_nonneg (by decide));rw[BitVec.toNat_or,KY v0 hv,KY hb0 hb];have e:(b*2^k).toNat=b.toNat<<<k:=by
  rw[Nat.shiftLeft_eq,Int.toNat_mul b0 (Int.pow_nonneg (by decide)),Int.toNat_pow_of_nonneg (by decide)];rfl
 have hv2:v.toNat<2^k:=by
  have:(v.toNat:Int)<((2^k:Nat):Int):=by rw[Int.toNat_of_nonneg v0,Int.natCast_pow];exact v1
  exact Int.ofNat_lt.1 this
 rw[e,Nat.or_comm, <-Nat.shiftLeft_add_eq_or_of_lt hv2, <-e,Int.natCast_add,Int.toNat_of_nonneg v0,Int.toNat_of_nonneg hb0,Int.add_comm]
theorem YI {l:List Int} {i:Int} (h0:0<=i) (h1:i<(l.length:Int)):nv (l.take (i+1).toNat)=nv (l.take i.toNat)+4294967296^i.toNat*(gx 0 l i).toNat:=by
 rw[show(i+1).toNat=i.toNat+1 from by omega,List.take_add_one,S5 (d:=(0:Int)) h0 h1,Option.toList_some,Zu,List.length_take,Nat.min_eq_left (by omega)];simp[nv]
theorem Ks {l:List Int} {i:Int} (h0:0<=i) (h1:i<(l.length:Int)):l.drop i.toNat=gx 0 l i::l.drop (i+1).toNat:=by
 have h:=S5 (d:=(0:Int)) h0 h1;have hlt:i.toNat<l.length:=by omega
 rw[List.getElem?_eq_getElem hlt]at h;rw[List.drop_eq_getElem_cons hlt,show(i+1).toNat=i.toNat+1 from by omega];congr 1;exact Option.some.inj h
theorem pJ {a b:List Int} (ha:Ov a) (_:Ov b) (hl:a.length=b.length) {i:Int} (h0:0<=i) (h1:i<(a.length:Int)) (he:a.drop (i+1).toNat=b.drop (i+1).toNat) (hlt:gx 0 a i<gx 0 b i):nv a<nv b:=by
 have ea:nv a=nv (a.take i.toNat)+4294967296^i.toNat*nv (a.drop i.toNat):=by
  conv=>lhs;rw[<-List.take_append_drop i.toNat a,Zu,List.length_take,Nat.min_eq_left (by omega)]
 have eb:nv b=nv (b.take i.toNat)+4294967296^i.toNat*nv (b.drop i.toNat):=by
  conv=>lhs;rw[<-List.take_append_drop i.toNat b,Zu,List.length_take,Nat.min_eq_left (by omega)]
 have hlim:=iM ha h0 h1;have h2:nv (a.drop i.toNat)+1<=nv (b.drop i.toNat):=by
  rw[Ks h0 h1,Ks h0 (by omega),he];simp only[nv];omega
 have h3:nv (a.take i.toNat)<4294967296^i.toNat:=by
  have:=iX (l:=a.take i.toNat) fun x hx=>ha x (List.mem_of_mem_take hx)
  rwa[List.length_take,Nat.min_eq_left (by omega)]at this
 have h4:=Nat.mul_le_mul_left (4294967296^i.toNat) h2;rw[Nat.mul_add,Nat.mul_one]at h4;omega
theorem UU {m n:Nat} (h:(nc m).length<(nc n).length):m<n:=by
 rcases Nat.lt_or_ge m n with h1|h1
 . exact h1
 . have:=A2g h1;omega
theorem fJ:nc 1= [1]:=by rw[JN (by decide)];simp[Fo]
theorem pI:nv []=0:=rfl
theorem lH (n:Nat):AU n n=0:=by simp[AU]
theorem iV {m n:Nat} (h:m<n):AU m n= -1:=by simp[AU,h]
theorem iU {m n:Nat} (h:n<m):AU m n=1:=by
 unfold AU;rw[if_neg (by omega),if_pos h]
theorem bW {m n:Nat} :AU m n=0↔m=n:=by
 unfold AU;split
 . omega
 . split<;>omega
theorem bK (v:Int):iv (ic v)=v:=by
 unfold iv ic;simp only[decide_eq_true_eq,Xf];split<;>omega
theorem A7e {neg:Bool} {m:Nat} :ic (iv (neg,nc m))=(neg&&decide (m≠0),nc m):=by
 unfold ic iv;simp only[Xf];cases neg
 . simp
 . simp only[Bool.true_and,if_true,Prod.mk.injEq,decide_eq_decide];constructor
   . omega
   . congr 1;omega
theorem A7f {x:SY} :ic (iv x)=(x.1&&decide (nv x.2≠0),nc (nv x.2)):=by
 have:iv x=iv (x.1,nc (nv x.2)):=by unfold iv;simp only[Xf]
 rw[this,A7e]
theorem A7u (v:Int):nv (ic v).2=v.natAbs:=Xf _
theorem YV (k:Int):nv (ri k).2=1:=rfl
theorem KA (k:Int):rc (k:Rat)=ri k:=by
 unfold rc ri;rw[Rat.num_intCast,Rat.den_intCast,fJ]
theorem jG (k:Int):rv (ri k)=(k:Rat):=by
 unfold rv;rw[YV];show mkRat (iv (ic k)) 1= _;rw[bK];exact Rat.mkRat_one k
theorem A2r (k:Int):KF (ri k)=k.sign:=by
 unfold KF;rw[YV,if_neg (by decide)];show(iv (ic k)).sign= _;rw[bK]
theorem bV {x:Int} {d:Nat} (hd:d≠0):(mkRat x d).num=x/((d.gcd x.natAbs:Nat):Int)/\(mkRat x d).den=d/d.gcd x.natAbs:=by
 rw[Rat.num_mkRat,Rat.den_mkRat,if_neg hd,if_neg hd];exact⟨rfl,rfl⟩
variable {α:Type}
def oG (q:α->α->Prop) (d:α) (l:List α) (a i j:Nat):Prop:=∀s t,a<=s->s<t->t<=i->t≠j->q (l.getD s d) (l.getD t d)
def HG (d:α) (l:List α) (j:Nat):List α:=(l.set j (l.getD (j-1) d)).set (j-1) (l.getD j d)
theorem RJ {d:α} {l:List α} {j:Nat} (h0:0<j) (h1:j<l.length) (k:Nat):(HG d l j).getD k d=if k=j then l.getD (j-1) d else if k=j-1 then l.getD j d else l.getD k d:=by
 unfold HG;simp only[List.getD_eq_getElem?_getD,List.getElem?_set,List.length_set];by_cases h:k=j
 . subst h;rw[if_neg (by omega),if_pos rfl,if_pos rfl,if_pos h1];rfl
 . rw[if_neg h];by_cases h2:k=j-1
   . subst h2;rw[if_pos rfl,if_pos (by omega),if_pos rfl];rfl
   . rw[if_neg (by omega),if_neg (by omega),if_neg h2]
theorem gJ {d:α} {l:List α} {j:Nat} (h1:j<l.length):(HG d l j).Perm l:=by
 have h2:j-1<l.length:=by omega
 have:=List.set_set_perm (as:=l) h1 h2;unfold HG;simp only[List.getD_eq_getElem?_getD,List.getElem?_eq_getElem h1,List.getElem?_eq_getElem h2];exact this
theorem gK {d:α} {l:List α} {j a:Nat} (h:a<=j-1):(HG d l j).take a=l.take a:=by
 unfold HG;rw[List.take_set_of_le h,List.take_set_of_le (by omega)]
theorem gI {d:α} {l:List α} {j b:Nat} (h:j<b):(HG d l j).drop b=l.drop b:=by
 unfold HG;rw[List.drop_set_of_lt (by omega),List.drop_set_of_lt (by omega)]
theorem eX {q:α->α->Prop} {d:α} {l:List α} {a i:Nat} (h:∀s t,a<=s->s<t->t<i->q (l.getD s d) (l.getD t d)):oG q d l a i i:=fun s t h1 h2 h3 h4=>h s t h1 h2 (by omega)
theorem kQ {q:α->α->Prop} {d:α} {l:List α} {a i j:Nat} (h:oG q d l a i j) (ha:a<j) (hj:j<l.length) (hi:j<=i) (hq:q (l.getD j d) (l.getD (j-1) d)):oG q d (HG d l j) a i (j-1):=by
 intro s t h1 h2 h3 h4;rw[RJ (by omega) hj,RJ (by omega) hj,if_neg h4];by_cases ht:t=j
 . rw[if_pos ht,if_neg (by omega)];by_cases hs:s=j-1
   . rw[if_pos hs];exact hq
   . rw[if_neg hs];exact h s (j-1) h1 (by omega) (by omega) (by omega)
 . rw[if_neg ht];by_cases hs:s=j
   . rw[if_pos hs];exact h (j-1) t (by omega) (by omega) h3 ht
   . rw[if_neg hs];by_cases hs2:s=j-1
     . rw[if_pos hs2];exact h j t (by omega) (by omega) h3 ht
     . rw[if_neg hs2];exact h s t h1 h2 h3 ht
theorem oH {q:α->α->Prop} {d:α} {l:List α} {a i j:Nat} (h:oG q d l a i j) (htr:∀x y z,q x y->q y z->q x z) (hi:j<=i) (hq:a<j->q (l.getD (j-1) d) (l.getD j d)):∀s t,a<=s->s<t->t<i+1->q (l.getD s d) (l.getD t d):=by
 intro s t h1 h2 h3;by_cases ht:t=j
 . subst ht;by_cases hs:s=t-1
   . rw[hs];exact hq (by omega)
   . exact htr _ _ _ (h s (t-1) h1 (by omega) (by omega) (by omega)) (hq (by omega))
 . exact h s t h1 h2 (by omega) ht
theorem QO {q:α->α->Prop} {d:α} {l:List α} {a b:Nat} (hb:b<=l.length) (h:∀s t,a<=s->s<t->t<b->q (l.getD s d) (l.getD t d)):((l.drop a).take (b-a)).Pairwise q:=by
 rw[List.pairwise_iff_getElem];intro i j hi hj hij;rw[List.length_take,List.length_drop]at hi hj;have e:∀k (hk:k<((l.drop a).take (b-a)).length),((l.drop a).take (b-a))[k]=l.getD (a+k) d:=fun k hk=>by
  rw[List.length_take,List.length_drop]at hk;rw[List.getElem_take,List.getElem_drop,List.getD_eq_getElem?_getD,List.getElem?_eq_getElem (by omega)];rfl
 rw[e i (by rw[List.length_take,List.length_drop];omega),e j (by rw[List.length_take,List.length_drop];omega)];exact h _ _ (by omega) (by omega) (by omega)
theorem eZ (l:List Int):iv (false,l)=(nv l:Int):=rfl
theorem A5b (l:List Int):iv (true,l)= -(nv l:Int):=rfl
theorem A5c (b:Bool) (l:List Int):iv (!b,l)= -iv (b,l):=by
 cases b
 . rfl
 . show(nv l:Int)= - -(nv l:Int);omega
theorem A4w (v:Int):(ic v).2.length=(nc v.natAbs).length:=rfl
theorem oA:ic 1=(false,[1]):=by unfold ic;rw[show(1:Int).natAbs=1 from rfl,fJ];rfl
theorem iE:ic 0=(false,[]):=by unfold ic;rw[show(0:Int).natAbs=0 from rfl,Fo];rfl
theorem A2o:rc 0=((false,[]),[1]):=by
 unfold rc;rw[Rat.zero_num,Rat.zero_den,iE,fJ]
theorem aL {a:SY} {b:SY} (h:iv b=1):ME a b=((iv a:Int):Rat):=by
 unfold ME;rw[h];have:=Rat.divInt_ofNat (iv a) 1;rw[show((1:Nat):Int)=1 from rfl]at this;rw[this];exact Rat.mkRat_one _
theorem kJ {a:SY} {b:SY} (h:iv b=0):ME a b=0:=by
 unfold ME;rw[h,Rat.divInt_zero]
theorem A2s (x:CN):ME x.1 (false,x.2)=rv x:=by
 unfold ME rv;rw[eZ,Rat.divInt_ofNat]
end Go.Proofs.YtomjbooonannkaaGreat
namespace Go.Proofs.YtomjbooonannkaaGreat
theorem Uf {ls:List Ln} :∀ {p q:List (Int×Int)} {u w v:Int},Xz ls u w p->Xz ls w v q->Xz ls u v (p++q)
 | [],_,_,_,_,h1,h2=>by cases h1;exact h2
 |e::p,q,u,w,v,⟨x,hx,h1⟩,h2=>⟨x,hx,Uf h1 h2⟩
theorem LH {ls:List Ln} :∀ {p q:List (Int×Int)} {u v:Int},Xz ls u v (p++q)->∃w,Xz ls u w p/\Xz ls w v q
 | [],_,u,_,h=>⟨u,rfl,h⟩
 |e::p,q,u,v,⟨x,hx,h⟩=>by
  obtain⟨w,h1,h2⟩:=LH h;exact⟨w,⟨x,hx,h1⟩,h2⟩
theorem lY {α:Type} {l:Ln} {s u w:Int} (h:(s=1/\l=(u,w))\/(s= -1/\l=(w,u))) {f:Int->α} (hf:f l.1=f l.2):f u=f w:=by
 rcases h with⟨_,h⟩ | ⟨_,h⟩<;>rw[h]at hf
 . exact hf
 . exact hf.symm
theorem Ug {α:Type} {ls:List Ln} {f:Int->α} :∀ {p:List (Int×Int)} {u v:Int},Xz ls u v p->(∀e∈p,f (Ht ls e.1).1=f (Ht ls e.1).2)->f u=f v
 | [],_,_,h,_=>by cases h;rfl
 |e::p,u,v,⟨x,hx,h⟩,hf=>(lY hx (hf e (by simp))).trans (Ug h fun y hy=>hf y (List.mem_cons_of_mem _ hy))
theorem kO {n:Int} {ls:List Ln} (hok:F2 n ls) {e:Int} (he:e∈B8 n ls):A6 (D1 n (MF n ls e)) (Ht ls e).1≠A6 (D1 n (MF n ls e)) (Ht ls e).2:=by
 intro h;have hfo:=JF hok e;have hpi:∀l∈pick ls (B8 n ls),Lw n l:=fun l hl=>hok.2.2 l (cN l hl)
 have hc:CM (D1 n (pick ls (B8 n ls))) (D1 n (MF n ls e)):=by
  refine⟨by rw[L5,L5],fun i i0 i1=> ?_⟩;rw[L5]at i1;refine Lf hok.1 hpi (f:=fun i=>A6 (D1 n (MF n ls e)) i) (fun l hl=> ?_) i i0 (by have:=hok.1;omega);obtain⟨d,hd,rfl⟩:=List.mem_map.1 hl;by_cases hde:d=e
  . subst hde;exact h
  . exact P2 hok.1 hfo (FT.2 ⟨d,hd,hde,rfl⟩)
 have:=DC (T7 hok.1 hpi) (T7 hok.1 hfo) hc;rw[Wt hok]at this;have:=iA hok he;omega
theorem XH {n:Int} {ls:List Ln} (hok:F2 n ls) {u v:Int} {p:List (Int×Int)} (h:free ls (B8 n ls) [] u v p):
 (∀e∈p,nH n ls u v e.1=e.2/\(e.2=1\/e.2= -1))/\∀i∈B8 n ls,(∀e∈p,e.1≠i)->nH n ls u v i=0:=by
 obtain⟨ht,hf,hn⟩:=h;have hno:∀(i:Int) (q:List (Int×Int)),(∀e∈q,e.1∈B8 n ls/\e.1≠i)->∀e∈q,A6 (D1 n (MF n ls i)) (Ht ls e.1).1=A6 (D1 n (MF n ls i)) (Ht ls e.1).2:=fun i q hq e he=>P2 hok.1 (JF hok i) (FT.2 ⟨e.1,(hq e he).1,(hq e he).2,rfl⟩)
 refine⟨fun e he=> ?_,fun i _ hi=> ?_⟩
 . obtain⟨p1,p2,rfl⟩:=List.append_of_mem he;obtain⟨x,h1,y,hx,h2⟩:=LH ht;rw[List.map_append,List.map_cons,List.nodup_append,List.nodup_cons]at hn;have n1:∀d∈p1,d.1≠e.1:=fun d hd=>hn.2.2 d.1 (List.mem_map_of_mem hd) e.1 (by simp)
   have n2:∀d∈p2,d.1≠e.1:=fun d hd hde=>hn.2.1.1 (by rw[<-hde];exact List.mem_map_of_mem (f:=fun x:Int×Int=>x.1) hd)
   have l1:=Ug (f:=fun i=>A6 (D1 n (MF n ls e.1)) i) h1 (hno e.1 p1 fun d hd=>⟨(hf d (by simp[hd])).1,n1 d hd⟩);have l2:=Ug (f:=fun i=>A6 (D1 n (MF n ls e.1)) i) h2 (hno e.1 p2 fun d hd=>⟨(hf d (by simp[hd])).1,n2 d hd⟩);have hs:=kO hok (hf e (by simp)).1;unfold nH;rw[l1, <-l2];rcases hx with⟨hs1,hx⟩ | ⟨hs1,hx⟩<;>rw[hx]at hs⊢ <;>simp only at hs⊢
   . rw[if_neg hs,if_pos trivial];exact⟨hs1.symm, .inl hs1⟩
   . rw[if_neg (Ne.symm hs),if_neg (Ne.symm hs)];exact⟨hs1.symm, .inr hs1⟩
 . have:=Ug (f:=fun j=>A6 (D1 n (MF n ls i)) j) ht (hno i p fun d hd=>⟨(hf d hd).1,hi d hd⟩);unfold nH;rw[if_pos this]
theorem A1k {a b:List LV} (ha:Ko a) (hb:Ko b) (h:a.Perm b):a=b:=by
 unfold Ko at*;refine List.Perm.eq_of_pairwise (le:=fun x y:LV=>x.1<y.1) (fun x y _ _ h1 h2=> ?_) ha hb h;exact absurd h1 (by omega)
theorem PV (n:Int) (ls:List Ln) (line:Int):Ko (Ib n ls line):=by
 unfold Ko Ib;rw[List.pairwise_filterMap];refine List.pairwise_lt_range.imp fun {i j} hij=> ?_
 intro b hb c hc;split at hb<;>split at hc<;>cases hb<;>cases hc;simp only;omega
theorem kZ {n:Int} {ls:List Ln} {line:Int} {x:LV} :x∈Ib n ls line↔0<=x.1/\x.1<(ls.length:Int)/\Ow n ls line x.1≠0/\x.2=ri (Ow n ls line x.1):=by
 unfold Ib;rw[List.mem_filterMap];constructor
 . rintro⟨i,hi,hx⟩;rw[List.mem_range]at hi;split at hx
   . cases hx
   . rename_i hc;cases hx;exact⟨by simp only;omega,by simp only;omega,hc,rfl⟩
 . rintro⟨h0,h1,h2,h3⟩;refine⟨x.1.toNat,List.mem_range.2 (by omega), ?_⟩;rw[show((x.1.toNat:Nat):Int)=x.1 from by omega,if_neg h2, <-h3]
theorem A7v {k:Int} (h:k=1\/k= -1):ri k=ri 1\/ri k=ri (-1):=by
 rcases h with rfl|rfl
 . exact .inl rfl
 . exact .inr rfl
theorem TG {n:Int} {ls:List Ln} (hok:F2 n ls) {line:Int} (h0:0<=line) (h1:line<(ls.length:Int)) (hl:line∉B8 n ls) {p:List (Int×Int)} (h:free ls (B8 n ls) [] (Ht ls line).2 (Ht ls line).1 p):((line,ri 1)::p.map ent).Perm (Ib n ls line)/\(((line,ri 1)::p.map ent).map (·.1)).Nodup/\∀e∈(line,ri 1)::p.map ent,e.2=ri 1\/e.2=ri (-1):=by
 obtain⟨hd1,hd2⟩:=XH hok h;obtain⟨ht,hf,hn⟩:=h;have hnl:∀e∈p,e.1≠line:=fun e he hel=>hl (by rw[<-hel];exact(hf e he).1)
 have hmap:(p.map ent).map (·.1)=p.map (·.1):=by rw[List.map_map];rfl
 have hnd:(((line,ri 1)::p.map ent).map (·.1)).Nodup:=by
  rw[List.map_cons,List.nodup_cons,hmap];refine⟨fun hm=> ?_,hn⟩;obtain⟨e,he,hel⟩:=List.mem_map.1 hm;exact hnl e he hel
 have hnd2:((line,ri 1)::p.map ent).Nodup:=List.Pairwise.of_map (fun e:LV=>e.1) (fun a b hab e=>hab (by rw[e])) hnd;have hnd3:(Ib n ls line).Nodup:=(PV n ls line).imp fun {a b} hab e=>by rw[e]at hab;omega
 refine⟨(List.perm_ext_iff_of_nodup hnd2 hnd3).2 fun x=> ?_,hnd,fun e he=> ?_⟩
 . rw[kZ,List.mem_cons,List.mem_map];constructor
   . rintro(rfl| ⟨e,he,rfl⟩)
     . have:Ow n ls line line=1:=by unfold Ow;rw[if_pos rfl]
       refine⟨h0,h1, ?_, ?_⟩<;>simp only[this];decide
     . obtain⟨g1,g2⟩:=hd1 e he;have hm:=K8 (hf e he).1;have:Ow n ls line e.1=e.2:=by
        unfold Ow;rw[if_neg (hnl e he),if_pos (hf e he).1,g1]
       refine⟨hm.1,hm.2, ?_, ?_⟩
       . show Ow n ls line e.1≠0;rw[this];omega
       . show ri e.2=ri (Ow n ls line e.1);rw[this]
   . rintro⟨k0,k1,k2,k3⟩;unfold Ow at k2 k3;by_cases hx:x.1=line
     . rw[if_pos hx]at k3;exact .inl (Prod.ext hx k3)
     . rw[if_neg hx]at k2 k3;by_cases hxf:x.1∈B8 n ls
       . rw[if_pos hxf]at k2 k3;right;by_cases hex:∃e∈p,e.1=x.1
         . obtain⟨e,he,hex⟩:=hex;refine⟨e,he,Prod.ext hex ?_⟩;rw[k3, <-hex,(hd1 e he).1];rfl
         . exact absurd (hd2 x.1 hxf fun e he hh=>hex ⟨e,he,hh⟩) k2
       . rw[if_neg hxf]at k2;exact absurd rfl k2
 . rcases List.mem_cons.1 he with rfl|he
   . exact .inl rfl
   . obtain⟨d,hd,rfl⟩:=List.mem_map.1 he;exact A7v (hd1 d hd).2
structure dU (n:Int) (ls:List Ln) (up:List Ln) (pl:List Int):Prop where
 at':∀v,0<=v->v<n->0<=A6 pl v/\((M1 up v=(-1,v)/\A6 (D1 n ls) v=v)\/((M1 up v).1∈B8 n ls/\Aj (Ht ls (M1 up v).1) v (M1 up v).2/\A6 pl (M1 up v).2<A6 pl v))
 inj:∀v w,0<=v->v<n->0<=w->w<n->A6 pl v=A6 pl w->v=w
theorem A5v {n:Int} {ls:List Ln} (hok:F2 n ls) {order:List Int} {up:List Ln} (hr:KC n ls order up) {pl:List Int} (hp:∀(j:Nat) (b:Int),order[j]? =some b->A6 pl b=(j:Int)):dU n ls up pl:=by
 have hfind:∀v,0<=v->v<n->∃j:Nat,order[j]? =some v/\A6 pl v=(j:Int):=fun v v0 v1=>by
  obtain⟨j,hj⟩:=List.mem_iff_getElem?.1 (hr.all v v0 v1);exact⟨j,hj,hp j v hj⟩
 refine⟨fun v v0 v1=> ?_,fun v w v0 v1 w0 w1 h=> ?_⟩
 . obtain⟨j,hj,hpj⟩:=hfind v v0 v1;obtain⟨_,_,h⟩:=hr.at' j v hj;refine⟨by omega, ?_⟩;rcases h with h| ⟨h1,h2,i,hi,hoi⟩
   . exact .inl h
   . refine .inr ⟨h1,h2, ?_⟩;rw[hp i _ hoi,hpj];omega
 . obtain⟨j,hj,hpj⟩:=hfind v v0 v1;obtain⟨i,hi,hpi⟩:=hfind w w0 w1;have:i=j:=by omega
   subst this;rw[hj]at hi;exact Option.some.inj hi
section
variable {n:Int} {ls:List Ln} {up:List Ln} {pl:List Int}
theorem dU.label (hok:F2 n ls) {v:Int} (h1:(M1 up v).1∈B8 n ls) (h2:Aj (Ht ls (M1 up v).1) v (M1 up v).2):A6 (D1 n ls) v=A6 (D1 n ls) (M1 up v).2:=by
 have hm:=K8 h1;exact Hf h2 (f:=fun i=>A6 (D1 n ls) i) (P2 hok.1 hok.2.2 (Kr hm.1 hm.2))
theorem dU.root (hok:F2 n ls) (h:dU n ls up pl) {r:Int} (r0:0<=r) (r1:r<n):∀(k:Nat) (w:Int),0<=w->w<n->A6 (D1 n ls) w=r->(A6 pl w).toNat<=k->A6 pl r<=A6 pl w
 |k,w,w0,w1,hw,hk=>by
  obtain⟨p0,h1| ⟨h1,h2,h3⟩⟩:=h.at' w w0 w1
  . rw[h1.2]at hw;rw[hw];exact Int.le_refl _
  . obtain⟨a,b,_⟩:=Lx hok h1 h2;have hq:=(h.at' _ a b).1;have:=dU.label hok h1 h2
    match k with
    |0=>omega
    |k+1=>
     have:=dU.root hok h r0 r1 k (M1 up w).2 a b (by rw[<-this];exact hw) (by omega);omega
theorem dU.climb (hok:F2 n ls) (h:dU n ls up pl) {a b:Int} (a0:0<=a) (a1:a<n) (b0:0<=b) (b1:b<n) (hl:A6 (D1 n ls) a=A6 (D1 n ls) b) (hlt:A6 pl b<A6 pl a):
 (M1 up a).1∈B8 n ls/\Aj (Ht ls (M1 up a).1) a (M1 up a).2/\A6 pl (M1 up a).2<A6 pl a/\0<=(M1 up a).2/\(M1 up a).2<n/\A6 (D1 n ls) (M1 up a).2=A6 (D1 n ls) a:=by
 obtain⟨p0,h1| ⟨h1,h2,h3⟩⟩:=h.at' a a0 a1
 . have:=dU.root hok h a0 a1 (A6 pl b).toNat b b0 b1 (by rw[<-hl,h1.2]) (Nat.le_refl _);omega
 . obtain⟨c,d,_⟩:=Lx hok h1 h2;exact⟨h1,h2,h3,c,d,(dU.label hok h1 h2).symm⟩
theorem dU.uinj (h:dU n ls up pl) {v w:Int} (hv:Aj (Ht ls (M1 up v).1) v (M1 up v).2) (hv2:A6 pl (M1 up v).2<A6 pl v) (hw:Aj (Ht ls (M1 up w).1) w (M1 up w).2) (hw2:A6 pl (M1 up w).2<A6 pl w) (he:(M1 up v).1=(M1 up w).1):v=w:=by
 rw[he]at hv;rcases hv with a2|a2<;>rcases hw with b2|b2
 . exact(Prod.mk.inj (a2.symm.trans b2)).1
 . obtain⟨e1,e2⟩:=Prod.mk.inj (a2.symm.trans b2);rw[e2]at hv2;rw[<-e1]at hw2;omega
 . obtain⟨e1,e2⟩:=Prod.mk.inj (a2.symm.trans b2);rw[e1]at hv2;rw[<-e2]at hw2;omega
 . exact(Prod.mk.inj (a2.symm.trans b2)).2
def ZK (n:Int) (ls:List Ln) (up:List Ln) (pl:List Int) (line a b:Int) (out:List LV):Prop:=
 0<=a/\a<n/\0<=b/\b<n/\A6 (D1 n ls) a=A6 (D1 n ls) b/\∃p q,Xz ls (Ht ls line).2 a p/\Xz ls b (Ht ls line).1 q/\out.Perm ((line,ri 1)::(p++q).map ent)/\((p++q).map (·.1)).Nodup/\
  ∀e∈p++q,e.1∈B8 n ls/\∃w,0<=w/\w<n/\(M1 up w).1=e.1/\Aj (Ht ls (M1 up w).1) w (M1 up w).2/\A6 pl (M1 up w).2<A6 pl w/\A6 pl a<A6 pl w/\A6 pl b<A6 pl w
theorem ZK.start (hok:F2 n ls) {line:Int} (h0:0<=line) (h1:line<(ls.length:Int)):ZK n ls up pl line (Ht ls line).2 (Ht ls line).1 [(line,ri 1)]:=by
 have hin:=hok.2.2 _ (Kr h0 h1);refine⟨hin.2.2.1,hin.2.2.2,hin.1,hin.2.1,(P2 hok.1 hok.2.2 (Kr h0 h1)).symm,[],[],rfl,rfl,List.Perm.refl _,by simp,by simp⟩
def Xs (ls:List Ln) (i from':Int):Int:=if(Ht ls i).1=from' then 1 else -1
theorem PM (hok:F2 n ls) {e u w:Int} (he:e∈B8 n ls) (h:Aj (Ht ls e) u w):(Xs ls e u=1/\Ht ls e=(u,w))\/(Xs ls e u= -1/\Ht ls e=(w,u)):=by
 have hne:=EL hok (Nat.le_refl _) he;unfold Xs;rcases h with h|h
 . rw[h];exact .inl ⟨if_pos rfl,rfl⟩
 . rw[h]at hne⊢;exact .inr ⟨if_neg hne,rfl⟩
theorem ZK.fresh (hok:F2 n ls) (h:dU n ls up pl) {a b:Int} {t:List (Int×Int)} (ha:Aj (Ht ls (M1 up a).1) a (M1 up a).2) (ha2:A6 pl (M1 up a).2<A6 pl a)
 (ht:∀e∈t,e.1∈B8 n ls/\∃w,0<=w/\w<n/\(M1 up w).1=e.1/\Aj (Ht ls (M1 up w).1) w (M1 up w).2/\A6 pl (M1 up w).2<A6 pl w/\A6 pl a<A6 pl w/\A6 pl b<A6 pl w):∀e∈t,e.1≠(M1 up a).1:=fun e he hea=>by
 obtain⟨_,w,_,_,w2,w3,w4,w5,_⟩:=ht e he;have:=h.uinj ha ha2 w3 w4 (by rw[w2,hea]);rw[this]at w5;omega
theorem ZK.left (hok:F2 n ls) (h:dU n ls up pl) {line a b:Int} {out:List LV} (hc:ZK n ls up pl line a b out) (hlt:A6 pl b<A6 pl a):ZK n ls up pl line (M1 up a).2 b (out++ [((M1 up a).1,ri (Xs ls (M1 up a).1 a))]):=by
 obtain⟨a0,a1,b0,b1,hl,p,q,hp,hq,hout,hn,hall⟩:=hc;obtain⟨c1,c2,c3,c4,c5,c6⟩:=h.climb hok a0 a1 b0 b1 hl hlt;have hst:=PM hok c1 c2;have hfr:=ZK.fresh hok h c2 c3 hall;have hpm:(p++((M1 up a).1,Xs ls (M1 up a).1 a)::q).Perm ((p++q)++ [((M1 up a).1,Xs ls (M1 up a).1 a)]):=by
  rw[List.append_assoc];exact List.Perm.append_left p (List.perm_append_singleton _ _).symm
 refine⟨c4,c5,b0,b1,by rw[c6,hl],p++ [((M1 up a).1,Xs ls (M1 up a).1 a)],q,Uf hp ⟨_,hst,rfl⟩,hq, ?_, ?_, ?_⟩
 . rw[List.append_assoc,List.singleton_append];refine(hout.append_right _).trans ?_;rw[List.cons_append];refine List.Perm.cons _ ?_;have:=(hpm.map ent).symm;rw[List.map_append]at this;exact this
 . rw[List.append_assoc,List.singleton_append,(hpm.map _).nodup_iff,List.map_append,List.nodup_append];refine⟨hn,by simp,fun x hx y hy=> ?_⟩;obtain⟨e,he,rfl⟩:=List.mem_map.1 hx;simp only[List.map_cons,List.map_nil,List.mem_singleton]at hy;rw[hy];exact hfr e he
 . intro e he;rw[List.append_assoc,List.singleton_append,hpm.mem_iff]at he;rcases List.mem_append.1 he with he|he
   . obtain⟨e1,w,w0,w1,w2,w3,w4,w5,w6⟩:=hall e he;exact⟨e1,w,w0,w1,w2,w3,w4,by omega,w6⟩
   . rw[List.mem_singleton.1 he];exact⟨c1,a,a0,a1,rfl,c2,c3,c3,hlt⟩
theorem ZK.right (hok:F2 n ls) (h:dU n ls up pl) {line a b:Int} {out:List LV} (hc:ZK n ls up pl line a b out) (hlt:A6 pl a<A6 pl b):ZK n ls up pl line a (M1 up b).2 (out++ [((M1 up b).1,ri (Xs ls (M1 up b).1 (M1 up b).2))]):=by
 obtain⟨a0,a1,b0,b1,hl,p,q,hp,hq,hout,hn,hall⟩:=hc;obtain⟨c1,c2,c3,c4,c5,c6⟩:=h.climb hok b0 b1 a0 a1 hl.symm hlt;have hst:=PM hok c1 (DG c2);have hall':∀e∈p++q,e.1∈B8 n ls/\∃w,0<=w/\w<n/\(M1 up w).1=e.1/\Aj (Ht ls (M1 up w).1) w (M1 up w).2/\A6 pl (M1 up w).2<A6 pl w/\A6 pl b<A6 pl w/\A6 pl a<A6 pl w:=fun e he=>by
  obtain⟨e1,w,w0,w1,w2,w3,w4,w5,w6⟩:=hall e he;exact⟨e1,w,w0,w1,w2,w3,w4,w6,w5⟩
 have hfr:=ZK.fresh hok h c2 c3 hall';have hpm:(p++((M1 up b).1,Xs ls (M1 up b).1 (M1 up b).2)::q).Perm ((p++q)++ [((M1 up b).1,Xs ls (M1 up b).1 (M1 up b).2)]):=by
  rw[List.append_assoc];exact List.Perm.append_left p (List.perm_append_singleton _ _).symm
 refine⟨a0,a1,c4,c5,by rw[c6,hl],p,((M1 up b).1,Xs ls (M1 up b).1 (M1 up b).2)::q,hp,⟨_,hst,hq⟩, ?_, ?_, ?_⟩
 . refine(hout.append_right _).trans ?_;rw[List.cons_append];refine List.Perm.cons _ ?_;have:=(hpm.map ent).symm;rw[List.map_append]at this;exact this
 . rw[(hpm.map _).nodup_iff,List.map_append,List.nodup_append];refine⟨hn,by simp,fun x hx y hy=> ?_⟩;obtain⟨e,he,rfl⟩:=List.mem_map.1 hx;simp only[List.map_cons,List.map_nil,List.mem_singleton]at hy;rw[hy];exact hfr e he
 . intro e he;rw[hpm.mem_iff]at he;rcases List.mem_append.1 he with he|he
   . obtain⟨e1,w,w0,w1,w2,w3,w4,w5,w6⟩:=hall e he;exact⟨e1,w,w0,w1,w2,w3,w4,w5,by omega⟩
   . rw[List.mem_singleton.1 he];exact⟨c1,b,b0,b1,rfl,c2,c3,hlt,c3⟩
theorem ZK.len (hok:F2 n ls) {line a b:Int} {out:List LV} (h0:0<=line) (h1:line<(ls.length:Int)) (hl:line∉B8 n ls) (hc:ZK n ls up pl line a b out):out.length<=ls.length:=by
 obtain⟨_,_,_,_,_,p,q,_,_,hout,hn,hall⟩:=hc;have hnd:(line::(p++q).map (·.1)).Nodup:=by
  rw[List.nodup_cons];refine⟨fun hm=> ?_,hn⟩;obtain⟨e,he,hel⟩:=List.mem_map.1 hm;exact hl (by rw[<-hel];exact(hall e he).1)
 have hsub:∀x∈line::(p++q).map (·.1),x∈(List.range ls.length).map Int.ofNat:=fun x hx=>by
  have hr:0<=x/\x<(ls.length:Int):=by
   rcases List.mem_cons.1 hx with rfl|hx
   . exact⟨h0,h1⟩
   . obtain⟨e,he,rfl⟩:=List.mem_map.1 hx;exact K8 (hall e he).1
  exact List.mem_map.2 ⟨x.toNat,List.mem_range.2 (by omega),by show((x.toNat:Nat):Int)=x;omega⟩
 have:=Ro hnd hsub;have h3:=hout.length_eq;simp only[List.length_cons,List.length_map,List.length_range]at this h3;omega
theorem ZK.done (hok:F2 n ls) {line a:Int} {out:List LV} (h0:0<=line) (h1:line<(ls.length:Int)) (hl:line∉B8 n ls) (hc:ZK n ls up pl line a a out):out.Perm (Ib n ls line)/\(out.map (·.1)).Nodup/\∀e∈out,e.2=ri 1\/e.2=ri (-1):=by
 obtain⟨_,_,_,_,_,p,q,hp,hq,hout,hn,hall⟩:=hc;obtain⟨g1,g2,g3⟩:=TG hok h0 h1 hl (p:=p++q) ⟨Uf hp hq,fun e he=>⟨(hall e he).1,by simp⟩,hn⟩;exact⟨hout.trans g1,(hout.map _).nodup_iff.2 g2,fun e he=>g3 e (hout.mem_iff.1 he)⟩
end
end Go.Proofs.YtomjbooonannkaaGreat
namespace Go.Proofs.YtomjbooonannkaaGreat
open Go.Vc Go.Gw
theorem SK {k:Int} (h:k.natAbs<=1000000):CK (ri k):=by
 refine⟨⟨?_,by show 1<=1000000;decide⟩,by rw[YV];decide⟩;show(nc k.natAbs).length<= _;have:(nc k.natAbs).length<=1:=QC (by omega);omega
end Go.Proofs.YtomjbooonannkaaGreat
namespace Go.Gw
open Go Go.RowKit Go.ChangeShapes Go.WideShapes Go.ChangeAt
section
variable {H:Type} {enc:TypeId×Value->H} {P:Program}
theorem CI (hl:laidOutB P=true) {W W':World} {sp:Nat->Bool} (hb:R2 W W'):∀(ts:List TypeId) (vs:List Value) (ds:List (DataW H)) (ps:List MemPlace),
 (∀t∈ts,P.readableRec t=true/\t<P.types.size)->DataW.TrodAll enc P W 0 (fun _=>true) true ts vs ds ps->(∀x∈ps,x.block<W.heap.size)->(∀x∈ps,sp x.block=true)->DataW.TrodAll enc P W' 0 sp true ts vs ds ps
 | [],vs,ds,ps,_,h,_,_=>by
  cases vs<;>cases ds<;>simp[DataW.TrodAll]at h⊢;exact h
 |t::ts,vs,ds,ps,ht,h,hlt,hsp=>by
  obtain⟨v,vs',d,ds',p,q,rfl,rfl,rfl,h1,h2⟩:=trodAll_cons h;refine trodAll_cons_mk ?_ (CI hl hb ts vs' ds' q (fun x hx=>ht x (by simp[hx])) h2 (fun x hx=>hlt x (by simp[hx])) (fun x hx=>hsp x (by simp[hx])));exact WideElems.Trod_stays hl (ht t (by simp)).1 (ht t (by simp)).2 h1 (fun x hx=>hb.same (hlt x (by simp[hx]))) (fun x hx=>hsp x (by simp[hx]))
theorem pW (hl:laidOutB P=true) {f:Func} {s:ChangeSpec} {W W':World} {args:Array Value} {ds gs:List (DataW H)} {before:List MemPlace} {tb:TypeId}
 (hW:DataW.Whole enc P f.params.toList s.vars false W args.toList ds gs before) (hv:s.vars= []) (hres:f.resultTypes= #[tb]) (htb:P.underlying tb=some .bool)
 (hfn:s.fn H ds= {results:= [.lit (.bool true)],args:=ds}) (hr:∀t∈f.params.toList,P.readableRec t=true/\t<P.types.size) (hb:R2 W W'):
 s.post enc P f false true false false W args (.bool true) W':=by
 have hlt:∀p∈before,p.block<W.heap.size:=fun p hp=>hW.lt p hp
 have hW0:=hW;obtain⟨p,q,hA,hV,hpq,_,_⟩:=hW;rw[hv]at hV;obtain⟨rfl,rfl⟩:=trodVars_none hV;rw[List.append_nil]at hpq;subst hpq;refine⟨ds,[],before,[],before,[],hW0, ?_, ?_, ?_, ?_,fun h=>by cases h⟩
 . rw[List.append_nil,hfn,hres];exact trodAll_mk1 (shut_bool htb _)
 . rw[List.append_nil,hfn];exact CI hl hb _ _ _ _ hr hA hlt (fun x hx=>by simpa using hlt x hx)
 . rw[List.append_nil,hfn,hv];rfl
 . refine World.keptBut_mono ?_ (hb.frame (· ∈before));intro x hx;exact⟨hx, .inr (.inl hx)⟩
end
end Go.Gw
namespace Go.Vc
open Go Go.RowKit Go.Gw Go.ChangeShapes Go.WideShapes Go.ChangeAt
def bJ (P:Program):Nat->TypeId->Ty->Bool
 |0,_,_=>false
 |n+1,T,ty=>match P.underlying T with
  |some (.int k)=>(match ty with| .int k'=>decide (k=k') | _=>false)
  |some .bool=>(match ty with| .bool=>true| _=>false)
  |some .string=>(match ty with| .str=>true| _=>false)
  |some (.slice e)=>(match ty with| .sl t=>bJ P n e t&&Nat.beq (P.cellsOf e) t.size&&Nat.ble 1 t.size| _=>false)
  |some (.struct fs)=>XV P (bJ P n) fs.toList 0 ty&&Nat.beq (P.cellsOf T) ty.size
  |some (.array k e)=>XT (bJ P n e) (P.cellsOf e) k ty&&Nat.beq (P.cellsOf T) ty.size
  | _=>false
section
variable {H:Type} {α:Type} {enc:TypeId×Value->H} {P:Program} {W:World}
theorem cells?_at {base:Nat} {a:Addr} {n:Nat} {cs:List Value} (h:W.cells? base a n=some cs):cs.length=n/\K0 W a cs:=by
 obtain⟨_,hl,hc⟩:=World.cells?_some h;exact⟨hl,fun j v hj=>by have:=hc j (by have:=BV hj;omega);rw[this];exact hj⟩
theorem lW {a:Addr} {v:Value} (h:W.cell? a=some v):a.spot=none:=by
 unfold World.cell? at h;split at h
 . cases hs:a.spot with
   |none=>rfl
   |some _=>simp[hs]at h
 . cases h
theorem OW {R:List Value->α->Prop} {b o sz:Nat} :∀(len:Nat),(∀i,i<len->∃ec y,ec.length=sz/\K0 W ⟨b,o+i*sz,none⟩ ec/\R ec y)->∃ec l,l.length=len/\ec.length=len*sz/\K0 W ⟨b,o,none⟩ ec/\G4 R ec l
 |0,_=>⟨[],[],rfl,by simp,fun j v hj=>by simp at hj,rfl⟩
 |len+1,h=>by
  obtain⟨ec,l,h1,h2,h3,h4⟩:=OW (R:=R) (b:=b) (o:=o) (sz:=sz) len (fun i hi=>h i (by omega));obtain⟨ec',y,g1,g2,g3⟩:=h len (by omega);refine⟨ec++ec',l++ [y],by simp[h1],by rw[List.length_append,h2,g1,Nat.succ_mul],fun j v hj=> ?_,h4.append ⟨ec',[],by simp,g3,rfl⟩⟩;rw[List.getElem?_append]at hj;split at hj
  . exact h3 j v hj
  . rename_i hlt;have:=g2 _ v hj;rw[L4]at this⊢;rw[h2]at this hlt;rw[show o+len*sz+(j-len*sz)=o+j from by omega]at this;exact this
theorem iK {n:Nat} {r:TypeId->Ty->Bool} {Z:Nat->Prop} {cs:List Value} (hr:∀ {T:TypeId} {ty:Ty} {cs:List Value} {x:DataW H×List MemPlace},r T ty=true->DataW.trod enc P W 0 (fun _=>true) true n T cs=some x->∃y,C6 ty W Z cs y):
 ∀ {fs:List Field} {off:Nat} {ty:Ty},XV P r fs off ty=true->(∀f∈fs,∃x,DataW.trod enc P W 0 (fun _=>true) true n f.type ((cs.drop f.offset).take (P.cellsOf f.type))=some x)->cs.length=off+ty.size->∃y,C6 ty W Z (cs.drop off) y
 | [],off,ty,h,hx,hl=>by
  cases ty<;>simp[XV]at h;exact⟨(),by rw[List.drop_of_length_le (by simp[Ty.size]at hl;omega)];rfl⟩
 | [f],off,ty,h,hx,hl=>by
  have h':(Nat.beq f.offset off&&r f.type ty&&Nat.beq (P.cellsOf f.type) ty.size)=true:=by cases ty<;>exact h
  simp only[Bool.and_eq_true]at h';obtain⟨x,hx⟩:=hx f (by simp);obtain⟨y,hy⟩:=hr h'.1.2 hx;rw[Nat.eq_of_beq_eq_true h'.1.1,Nat.eq_of_beq_eq_true h'.2,List.take_of_length_le (by rw[List.length_drop];omega)]at hy;exact⟨y,hy⟩
 |f::g::fs,off,ty,h,hx,hl=>by
  cases ty<;>simp only[XV]at h<;>try cases h
  rename_i a b;simp only[Bool.and_eq_true]at h;obtain⟨⟨⟨h1,h2⟩,h3⟩,h4⟩:=h;obtain⟨x,hx1⟩:=hx f (by simp);obtain⟨y,hy⟩:=hr h2 hx1;rw[Nat.eq_of_beq_eq_true h1,Nat.eq_of_beq_eq_true h3]at hy;obtain⟨z,hz⟩:=iK hr h4 (fun q hq=>hx q (List.mem_cons_of_mem _ hq)) (by rw[hl];simp only[Ty.size];omega);exact⟨(y,z),(cs.drop off).take a.size,cs.drop (off+a.size),by rw[<-List.drop_drop,List.take_append_drop],hy,hz⟩
theorem iI {n:Nat} {r:TypeId->Ty->Bool} {Z:Nat->Prop} {cs:List Value} {e:TypeId} {sz:Nat} (hr:∀ {T:TypeId} {ty:Ty} {cs:List Value} {x:DataW H×List MemPlace},r T ty=true->DataW.trod enc P W 0 (fun _=>true) true n T cs=some x->∃y,C6 ty W Z cs y):
 ∀ {k i:Nat} {ty:Ty},XT (r e) sz k ty=true->(∀j,j<k->∃x,DataW.trod enc P W 0 (fun _=>true) true n e ((cs.drop ((i+j)*sz)).take sz)=some x)->cs.length=i*sz+ty.size->∃y,C6 ty W Z (cs.drop (i*sz)) y
 |0,i,ty,h,hx,hl=>by
  cases ty<;>simp[XT]at h;exact⟨(),by rw[List.drop_of_length_le (by simp[Ty.size]at hl;omega)];rfl⟩
 |1,i,ty,h,hx,hl=>by
  have h':(r e ty&&Nat.beq ty.size sz)=true:=by cases ty<;>exact h
  simp only[Bool.and_eq_true]at h';obtain⟨x,hx⟩:=hx 0 (by omega);rw[Nat.add_zero]at hx;obtain⟨y,hy⟩:=hr h'.1 hx;have:=Nat.eq_of_beq_eq_true h'.2;rw[List.take_of_length_le (by rw[List.length_drop];omega)]at hy;exact⟨y,hy⟩
 |k+2,i,ty,h,hx,hl=>by
  cases ty<;>simp only[XT]at h<;>try cases h
  rename_i a b;simp only[Bool.and_eq_true]at h;obtain⟨⟨h1,h2⟩,h3⟩:=h;obtain⟨x,hx1⟩:=hx 0 (by omega);rw[Nat.add_zero]at hx1;obtain⟨y,hy⟩:=hr h1 hx1;have h2:=Nat.eq_of_beq_eq_true h2;have hy:C6 a W Z ((cs.drop (i*sz)).take a.size) y:=by rw[h2];exact hy
  have hi:(i+1)*sz=i*sz+a.size:=by rw[Nat.succ_mul,h2]
  obtain⟨z,hz⟩:=iI hr (i:=i+1) h3 (fun j hj=>by
   have:=hx (j+1) (by omega);rw[show i+(j+1)=i+1+j from by omega]at this;exact this) (by rw[hl,hi];simp only[Ty.size];omega)
  rw[hi]at hz;exact⟨(y,z),(cs.drop (i*sz)).take a.size,cs.drop (i*sz+a.size),by rw[<-List.drop_drop,List.take_append_drop],hy,hz⟩
theorem NS:∀ {m n:Nat} {T:TypeId} {ty:Ty} {cs:List Value} {x:DataW H×List MemPlace},bJ P m T ty=true->DataW.trod enc P W 0 (fun _=>true) true n T cs=some x->∃y,C6 ty W (fun b=>b<W.heap.size) cs y
 |0,_,_,_,_,_,h,_=>by cases h
 |m+1,n,T,ty,cs,x,h,hx=>by
  simp only[bJ]at h;split at h
  . rename_i k hu;cases ty<;>simp only at h<;>try cases h
    rename_i k';have:=of_decide_eq_true h;subst this;obtain⟨z,e,_,hw⟩:=DataW.trod_int hu hx;exact⟨z,e,by simp only[Lit.wf,Bool.and_eq_true,decide_eq_true_eq]at hw;exact hw⟩
  . rename_i hu;cases ty<;>simp only at h<;>try cases h
    obtain⟨b,e,_⟩:=DataW.trod_bool hu hx;exact⟨b,e⟩
  . rename_i hu;cases ty<;>simp only at h<;>try cases h
    obtain⟨s,e,_⟩:=DataW.trod_string hu hx;exact⟨s,e⟩
  . rename_i e hu;cases ty<;>simp only at h<;>try cases h
    rename_i t;simp only[Bool.and_eq_true]at h;have hsz:=Nat.eq_of_beq_eq_true h.1.2;rcases DataW.trod_slice hu hx with⟨hc,_⟩ | ⟨a,len,cap,OV,rest,q,hq,hc,_,_,hlc,hcm,hel,hget,_⟩
    . exact⟨[],none,0,hc,Nat.le_refl _,Nat.zero_le _,fun _=>rfl, .inl rfl⟩
    . by_cases h0:len=0
      . subst h0;exact⟨[],some a,cap,hc,Nat.zero_le _,hcm,fun hh=>(by cases hh), .inl rfl⟩
      . have hone:∀i,i<len->∃ec y,ec.length=t.size/\K0 W (a.add (i*t.size)) ec/\C6 t W (fun b=>b<W.heap.size) ec y:=fun i hi=>by
         have h1:=hget i hi;rw[List.getElem?_eq_getElem (by omega),hsz]at h1;obtain⟨ec,hec,hx2⟩:=Option.bind_eq_some_iff.1 h1;obtain⟨g1,g2⟩:=cells?_at hec;obtain⟨y,hy⟩:=NS (m:=m) h.1.1 hx2;exact⟨ec,y,g1,g2,hy⟩
        obtain⟨e0,y0,g1,g2,_⟩:=hone 0 (by omega);have hs1:=Nat.le_of_ble_eq_true h.2;obtain⟨v0,hv0⟩:=A1p (l:=e0) (i:=0) (by omega);have hcell:=g2 0 v0 hv0;have ha0:(a.add (0*t.size)).add 0=a:=by simp[Addr.add]
        rw[ha0]at hcell;have hsp:=lW hcell;obtain⟨b,o,sp⟩:=a;simp only at hsp;subst hsp;have hb:b<W.heap.size:=block_lt_of_cell hcell;obtain⟨ec,l,k1,_,k3,k4⟩:=OW (R:=C6 t W (fun b=>b<W.heap.size)) (b:=b) (o:=o) (sz:=t.size) len (fun i hi=>by
         obtain⟨ec,y,q1,q2,q3⟩:=hone i hi;rw[L4]at q2;exact⟨ec,y,q1,q2,q3⟩)
        exact⟨l,some ⟨b,o,none⟩,cap,by rw[hc,k1],by omega,hcm,fun hh=>(by cases hh), .inr ⟨b,o,ec,rfl,hb,k3,k4⟩⟩
  . rename_i fs hu;simp only[Bool.and_eq_true]at h;obtain⟨xs,q,hq,_,hl,hxl,hf⟩:=DataW.trod_struct hu hx;have:=iK (enc:=enc) (P:=P) (W:=W) (n:=q) (Z:=fun b=>b<W.heap.size) (cs:=cs) (fun hh hx=>NS (m:=m) hh hx) h.1 (fun f hf'=>by
     obtain⟨i,hi,he⟩:=List.getElem_of_mem hf';have hi':i<fs.size:=by simpa using hi
     have h1:=hf i f (by rw[Array.getElem?_eq_getElem hi'];simpa using he);rw[List.getElem?_eq_getElem (by omega)]at h1;exact⟨_,h1⟩) (by rw[hl,Nat.eq_of_beq_eq_true h.2];omega)
    simpa using this
  . rename_i k e hu;simp only[Bool.and_eq_true]at h;obtain⟨xs,q,hq,_,hl,hxl,hf⟩:=DataW.trod_array hu hx;have:=iI (enc:=enc) (P:=P) (W:=W) (n:=q) (Z:=fun b=>b<W.heap.size) (cs:=cs) (e:=e) (i:=0) (fun hh hx=>NS (m:=m) hh hx) h.1 (fun j hj=>by
     have h1:=hf j hj;rw[List.getElem?_eq_getElem (by omega)]at h1;rw[Nat.zero_add];exact⟨_,h1⟩) (by rw[hl,Nat.eq_of_beq_eq_true h.2];omega)
    simpa using this
  . cases h
end
def A4c (P:Program) (T:TypeId) (a:Bool):Bool:=match P.underlying T with
 |some (.struct _)=>a
 |some (.array _ _)=>false
 | _=> !a
def WU (P:Program):List TypeId->List AM->Bool
 | [],[]=>true
 |T::ts, .val a ty::as=>bJ P 40 T ty&&A4c P T a&&WU P ts as
 | _,_=>false
section
variable {H:Type} {enc:TypeId×Value->H} {P:Program} {W:World}
theorem pM {m:Nat} {T:TypeId} {ty:Ty} {a:Bool} {r:Reach} {b0:Nat} {v:Value} {d:DataW H} {p:List MemPlace} (h:bJ P m T ty=true) (ha:A4c P T a=true) (hv:Value.okWide P W r b0 T v) (hd:DataW.Trod enc P W 0 (fun _=>true) true T v d p):
 ∃y,X3 a ty W (fun b=>b<W.heap.size) v y:=by
 obtain⟨n,hd⟩:=hd;obtain⟨y,hy⟩:=NS h hd;refine⟨y, ?_⟩;cases m with
 |zero=>cases h
 |succ m=>
  simp only[bJ]at h;unfold A4c at ha;split at h
  . rename_i k hu;simp only[hu,Bool.not_eq_true']at ha;obtain⟨n,rfl⟩:=okWide_int hu hv;subst ha;exact hy
  . rename_i hu;simp only[hu,Bool.not_eq_true']at ha;obtain⟨n,rfl⟩:=okWide_bool hu hv;subst ha;exact hy
  . rename_i hu;simp only[hu,Bool.not_eq_true']at ha;obtain⟨n,rfl⟩:=okWide_string hu hv;subst ha;exact hy
  . rename_i e hu;simp only[hu,Bool.not_eq_true']at ha;obtain⟨x1,x2,x3,rfl⟩:=okWide_slice hu hv;subst ha;exact hy
  . rename_i fs hu;simp only[hu]at ha;obtain⟨cs,rfl,_⟩:=okWide_struct hu hv;subst ha;exact⟨cs.toList,by simp,hy⟩
  . rename_i hu;simp only[hu]at ha;cases ha
  . cases h
theorem UY {r:Reach} {b0:Nat} :∀ {ts:List TypeId} {as:List AM} {vs:List Value} {ds:List (DataW H)} {ps:List MemPlace},WU P ts as=true->DataW.TrodAll enc P W 0 (fun _=>true) true ts vs ds ps->(∀(j:Nat) (t:TypeId) (v:Value),ts[j]? =some t->vs[j]? =some v->Value.okWide P W r b0 t v)->∃x,Ag P W (fun b=>b<W.heap.size) as vs x
 | [],[],vs,ds,ps,_,h,_=>by
  cases vs with
  |nil=>exact⟨(),rfl⟩
  |cons _ _=>cases ds<;>exact h.elim
 | [],_:: _,_,_,_,h,_,_=>by cases h
 | _:: _,[],_,_,_,h,_,_=>by cases h
 |T::ts, .row _ _:: _,_,_,_,h,_,_=>by cases h
 |T::ts, .box _ _:: _,_,_,_,h,_,_=>by cases h
 |T::ts, .fn _ _ _:: _,_,_,_,h,_,_=>by cases h
 |T::ts, .rows _ _ _:: _,_,_,_,h,_,_=>by cases h
 |T::ts, .val a ty::as,vs,ds,ps,h,hA,hv=>by
  simp only[WU,Bool.and_eq_true]at h;obtain⟨v,vs',d,ds',p,q,rfl,rfl,rfl,h1,h2⟩:=trodAll_cons hA;obtain⟨y,hy⟩:=pM h.1.1 h.1.2 (hv 0 T v rfl rfl) h1;obtain⟨z,hz⟩:=UY h.2 h2 (fun j t u ht hu=>hv (j+1) t u (by simpa using ht) (by simpa using hu));exact⟨(y,z),v,vs',rfl,hy,hz⟩
def YA (as:List AM):A8:= {args:=as,res:= [.val false .bool],pre:=fun _=>True,post:=fun _ r=>r.1=true}
theorem kW {f:FuncId} {as:List AM} {vs:List Value} {x:A2 as} (ha:Al as=true) (hm:B6 P f (YA as)) (h:Ag P W (fun b=>b<W.heap.size) as vs x):Gw.jW P f vs W fun v W'=>v= .bool true/\R2 W W':=by
 refine(hm W _ vs x (fun _ h=>h) h (by show Dis W (P8 as vs);rw[Zh ha];trivial) trivial).mono fun v w' ⟨hx,r,o,us,Zn,hpost,_,hv,_,hrep,_⟩=>⟨?_,hx.ext (fun b ⟨u,hu,_⟩=>by rw[show P8 (YA as).args vs= []from Zh ha vs]at hu;cases hu)⟩
 obtain⟨u,us',e,h1,_,h2⟩:=hrep;rw[show us'= []from h2]at e;subst e;have h1: [u]= [Value.bool r.1]:=h1;have hr:r.1=true:=hpost;rw[hr]at h1;rw[hv];simpa[Yb]using h1
theorem Ic {f:FuncId} {s:A8} (h:∀x,¬s.pre x):B6 P f s:=fun _ _ _ x _ _ _ hp=>absurd hp (h x)
theorem A1:Ll P []:=fun _ _ h=>by cases h
theorem A0 {f:FuncId} {s:A8} {l:F3} (h1:B6 P f s) (h2:Ll P l) (hi:s.inl=none:=by rfl):Ll P ((f,s)::l):=fun g t h=>by
 unfold Ah at h;cases hb:Nat.beq f g with
 |true=>
  rw[hb]at h;obtain rfl:=Nat.eq_of_beq_eq_true hb;obtain rfl:s=t:=by simpa using h
  exact⟨h1,fun run hr=>by rw[hi]at hr;cases hr⟩
 |false=>rw[hb]at h;exact h2 g t h
theorem V1 {f:FuncId} {run:Inl} {l:F3} (h1:mS P f run) (h2:Ll P l):Ll P ((f,V8 run)::l):=fun g t h=>by
 unfold Ah at h;cases hb:Nat.beq f g with
 |true=>
  rw[hb]at h;obtain rfl:=Nat.eq_of_beq_eq_true hb;obtain rfl:V8 run=t:=by simpa using h
  exact⟨fun _ _ _ _ _ _ _ hp=>hp.elim,fun r hr=>by cases hr;exact h1⟩
 |false=>rw[hb]at h;exact h2 g t h
theorem P1:gU P []:=fun _ h=>by cases h
theorem K7 {d:Nat} {sp:F3} {an:An} {l:List (Nat×F3×An)} (h1:Ll P sp) (h2:gU P l):gU P ((d,sp,an)::l):=fun x hx=>by
 rcases List.mem_cons.1 hx with rfl|hx
 . exact h1
 . exact h2 x hx
end
end Go.Vc
