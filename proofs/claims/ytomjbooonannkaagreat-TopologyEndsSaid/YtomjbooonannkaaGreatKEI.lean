/- Part. -/
import Derived.Test.YtomjbooonannkaaGreatKEH
set_option linter.all false
namespace Go.Proofs.YtomjbooonannkaaGreat
open Go.Vc Go.Gw
def OD:An:= {loop:= [(2,⟨[0],[],[(3,false,[.val (.int .i64)])],[],[]⟩)]}
def Vh:An:= {}
def MA:An:= {loop:= [(3,⟨[6,7],[],[(3,false,[.val (.int .u64)]),(8,false,[.val (.int .i64)])],[],[]⟩)]}
def FF:An:= {}
def CU:An:= {loop:= [(7,⟨[0,1],[],[(5,false,[.val (.int .i64)])],[],[]⟩)],plan:= [(9,[3,7],[],true, .done),(11,[3,7],[],true, .done)]}
def FA:An:= {}
def CR:An:= {}
def LZ:An:= {}
def AK:An:= {}
def FH:An:= {plan:= [(3,[1],[4],false, .done)]}
def IR:An:= {}
def FI:An:= {}
def Wg:An:= {join:= [(4,⟨[0,1,4],[0],[(5,false,[.val (.int .u64)])],[],[]⟩)],loop:= [(5,⟨[0,1,4,5],[0],[(6,false,[.val (.int .u64)]),(7,false,[.val (.int .u64)])],[],[]⟩)],plan:= [(6,[],[],true, .done),(7,[],[13],true, .done)]}
def IQ:An:= {}
def CQ:An:= {}
def Yo:A2 Eh.args->Prop:=fun(x:List Int×Unit)=>let e:=(1:Int);let c:=(x.1.length:Int);let a:=(0:Int);∃(I:Int×Unit->Prop),∃(μ: _->Nat),I (c,())/\∀(p:Int×Unit),let d:=(IntKind.i64.wrap (p.1-e),());let b:=(decide (gx a x.1 (IntKind.i64.wrap (p.1-e))=a));(Ty.int IntKind.i64).wf p.1/\True->I p->(decide (a<p.1)=true->a<=IntKind.i64.wrap (p.1-e)/\IntKind.i64.wrap (p.1-e)<c)/\(sel (decide (a<p.1)) b false=true->I d/\μ d<μ p)/\(sel (decide (a<p.1)) b false=false->(a<=a/\a<=p.1/\p.1<=c)/\List.drop (Int.toNat a) (List.take (Int.toNat p.1) x.1)=nc (nv x.1))
def Gv:A2 Q0.args->Prop:=fun(x:Int×Unit)=>(0:(Ty.int IntKind.u64).den)<=(32:Int)/\True/\∀(r:List Int×Unit),ZO r.1/\True->r.1=nc (nv [IntKind.u32.wrap x.1,IntKind.u32.wrap (Int.fdiv x.1 ((2:Int)^Min.min (Int.toNat (32:Int)) IntKind.u64.bits))])->r.1=nc x.1.toNat
def Vb:A2 Cr.args->Prop:=fun(x:List Int×Unit)=>let c:=(0:Int);let b:=(x.1.length:Int);∃(I:Int×Int×Unit->Prop),∃(μ: _->Nat),I (c,c,())/\∀(p:Int×Int×Unit),let a:=(IntKind.u64.wrap (↑(BitVec.ofInt IntKind.u64.bits p.1|||BitVec.ofInt IntKind.u64.bits (IntKind.u64.wrap (IntKind.u64.wrap (gx c x.1 p.2.1)*(2:Int)^Min.min (IntKind.i64.wrap (32*p.2.1)).toNat IntKind.u64.bits))).toNat:Int),IntKind.i64.wrap (p.2.1+1),());(Ty.int IntKind.u64).wf p.1/\(Ty.int IntKind.i64).wf p.2.1/\True->I p->(decide (p.2.1<b)=true->(c<=p.2.1/\p.2.1<b)/\(0:(Ty.int IntKind.i64).den)<=IntKind.i64.wrap (32*p.2.1)/\I a/\μ a<μ p)/\(decide (p.2.1<b)=false->p.1=(↑(nv x.1):Int))
def Pt:A2 Z6.args->Prop:=fun(x:List Int×Unit)=>let a:=(18446744073709551616:Nat);True/\∀(r:List Int×Unit),let b:Prop:=((2:Int)<(r.1.length:Int));ZO r.1/\True->r.1=nc (nv x.1)->(decide b=true->(nv x.1<a->(0:Int)=(↑(nv x.1):Int)/\false=true)/\(a<=nv x.1->false=false))/\(decide b=false->List.length r.1<=2/\∀(c:Int×Unit),mR c.1/\True->c.1=(↑(nv r.1):Int)->(nv x.1<a->c.1=(↑(nv x.1):Int)/\true=true)/\(a<=nv x.1->true=false))
def Nl:A2 W9.args->Prop:=fun(x:List Int×List Int×Unit)=>let i:=(1:Int);let e:=(nv x.1);let d:=(nv x.2.1);let c:=(0:Int);True/\∀(r:List Int×Unit),let a:=(r.1.length:Int);ZO r.1/\True->r.1=nc e->True/\∀(j:List Int×Unit),let b:=(j.1.length:Int);ZO j.1/\True->j.1=nc d->(decide (a≠b)=true->(decide (a<b)=true->(-1:Int)=AU e d)/\(decide (a<b)=false->i=AU e d))/\(decide (a≠b)=false->∃(I:Int×Unit->Prop),∃(μ: _->Nat),I (IntKind.i64.wrap (a-i),())/\∀(p:Int×Unit),let h:Prop:=(gx c j.1 p.1<gx c r.1 p.1);let g:Prop:=(gx c r.1 p.1<gx c j.1 p.1);let f:=(IntKind.i64.wrap (p.1-i),());(Ty.int IntKind.i64).wf p.1/\True->I p->(decide (c<=p.1)=true->(c<=p.1/\p.1<a)/\(c<=p.1/\p.1<b)/\(decide g=true->(-1:Int)=AU e d)/\(decide g=false->(c<=p.1/\p.1<a)/\(c<=p.1/\p.1<b)/\(decide h=true->i=AU e d)/\(decide h=false->I f/\μ f<μ p)))/\(decide (c<=p.1)=false->c=AU e d))
def Po:A2 Y6.args->Prop:=fun(x:Bool×List Int×Unit)=>(sel x.1 (decide ((0:Int)<(x.2.1.length:Int))) false,x.2.1)=(x.1&&decide (x.2.1≠ []),x.2.1)
def Nj:A2 W7.args->Prop:=fun(x:Int×Unit)=>(decide (x.1<0)=true->True/\∀(r:List Int×Unit),ZO r.1/\True->r.1=nc (IntKind.u64.wrap (-IntKind.u64.wrap x.1)).toNat->True/\∀(a:(Bool×List Int)×Unit),OB a.1/\True->a.1=(true&&decide (r.1≠ []),r.1)->a.1=ic x.1)/\(decide (x.1<0)=false->True/\∀(r:List Int×Unit),ZO r.1/\True->r.1=nc (IntKind.u64.wrap x.1).toNat->True/\∀(a:(Bool×List Int)×Unit),OB a.1/\True->a.1=(false&&decide (r.1≠ []),r.1)->a.1=ic x.1)
def Va:A2 Cq.args->Prop:=fun(x:(Bool×List Int)×Unit)=>True/\∀(r:Int×Unit),A7 r.1/\True->r.1=AU (nv x.1.2) (nv [])->(decide (r.1=0)=true->(0:Int)=(iv x.1).sign)/\(decide (r.1=0)=false->(x.1.1=true->(-1:Int)=(iv x.1).sign)/\(x.1.1=false->(1:Int)=(iv x.1).sign))
def Ke:A2 L9.args->Prop:=fun(x:Int×Unit)=>True/\∀(r:(Bool×List Int)×Unit),OB r.1/\True->r.1=ic x.1->(r.1,[(1:Int)])=ri x.1
def Pv:A2 Z8.args->Prop:=fun(x:QQ×Unit)=>let d:=(1:Int);let c:=(0:Nat);let b:Prop:=(nv x.1.2=c->x.1.1=zi/\x.1.2= [d]);let a:Prop:=(nv x.1.2≠c->x.1.1=x.1.1/\x.1.2=x.1.2);True/\∀(r:Int×Unit),A7 r.1/\True->r.1=AU (nv x.1.2) (nv [])->(decide (r.1=0)=true->(nv x.1.2=c->(false,[])=zi/\ [d]= [d])/\(nv x.1.2≠c->(false,[])=x.1.1/\ [d]=x.1.2))/\(decide (r.1=0)=false->(b/\a)/\b/\a)
def So:A2 Be.args->Prop:=fun(x:QQ×Unit)=>True/\∀(r:(Bool×List Int)×List Int×Unit),OB r.1/\ZO r.2.1/\True->(nv x.1.2=0->r.1=zi/\r.2.1= [(1:Int)])/\(nv x.1.2≠0->r.1=x.1.1/\r.2.1=x.1.2)->True/\∀(a:Int×Unit),A7 a.1/\True->a.1=(iv r.1).sign->a.1=KF x.1
def Pw:A2 Z9.args->Prop:=fun(x:QQ×Unit)=>let e:=(0:Int);let c:Prop:=(¬V4 x.1->true=false);let b:=(18446744073709551616:Nat);True/\∀(r:Int×Bool×Unit),mR r.1/\True/\True->(nv x.1.1.2<b->r.1=(↑(nv x.1.1.2):Int)/\r.2.1=true)/\(b<=nv x.1.1.2->r.2.1=false)->True/\∀(f:Int×Bool×Unit),let d:=(decide (2147483648<=f.1));let a:=(sel (sel (!r.2.1) true !f.2.1) true (decide (2147483648<=r.1)));mR f.1/\True/\True->(nv x.1.2<b->f.1=(↑(nv x.1.2):Int)/\f.2.1=true)/\(b<=nv x.1.2->f.2.1=false)->(sel a true d=true->(V4 x.1->e=GE x.1/\e=FP x.1/\false=true)/\(¬V4 x.1->false=false))/\(sel a true d=false->(decide (f.1=e)=true->(V4 x.1->e=GE x.1/\(1:Int)=FP x.1/\true=true)/\c)/\(decide (f.1=e)=false->(x.1.1.1=true->(V4 x.1->IntKind.i64.wrap (-IntKind.i64.wrap r.1)=GE x.1/\IntKind.i64.wrap f.1=FP x.1/\true=true)/\c)/\(x.1.1.1=false->(V4 x.1->IntKind.i64.wrap r.1=GE x.1/\IntKind.i64.wrap f.1=FP x.1/\true=true)/\c)))
def Jb:A2 R7.args->Prop:=fun(x:Int×Int×Unit)=>let a:=(0:Int);∃(J:Int×Unit->Prop),((decide (x.1<a)=true->J (IntKind.u64.wrap (-IntKind.u64.wrap x.1),()))/\(decide (x.1<a)=false->J (IntKind.u64.wrap x.1,())))/\∀(p:Int×Unit),(Ty.int IntKind.u64).wf p.1/\True->J p->∃(I:Int×Int×Unit->Prop),∃(μ: _->Nat),I (IntKind.u64.wrap x.2.1,p)/\∀(c:Int×Int×Unit),let b:=(c.2.1,Int.tmod c.1 c.2.1,());(Ty.int IntKind.u64).wf c.1/\(Ty.int IntKind.u64).wf c.2.1/\True->I c->(decide (c.2.1≠a)=true->c.2.1≠a/\I b/\μ b<μ c)/\(decide (c.2.1≠a)=false->c.1≠a/\c.1≠a/\True/\∀(r:List Int×Unit),ZO r.1/\True->r.1=nc (IntKind.u64.wrap (Int.tdiv p.1 c.1)).toNat->True/\∀(d:List Int×Unit),ZO d.1/\True->d.1=nc (IntKind.u64.wrap ((IntKind.u64.wrap x.2.1).tdiv c.1)).toNat->((decide (x.1<a),r.1),d.1)=rc (mkRat x.1 x.2.1.toNat))
def Sn:A2 Bd.args->Prop:=fun(x:QQ×Unit)=>let a:=(4611686018427387904:Int);True/\∀(r:Int×Int×Bool×Unit),A7 r.1/\A7 r.2.1/\True/\True->(V4 x.1->r.1=GE x.1/\r.2.1=FP x.1/\r.2.2.1=true)/\(¬V4 x.1->r.2.2.1=false)->(r.2.2.1=true->(0<r.2.1/\r.2.1<=a/\(-4611686018427387904:Int)<=r.1/\r.1<=a)/\∀(b:QQ×Unit),eB b.1/\True->b.1=rc (mkRat r.1 (Int.toNat r.2.1))->b.1=rc (rv x.1))/\(r.2.2.1=false->True/\∀(r:(Bool×List Int)×List Int×Unit),OB r.1/\ZO r.2.1/\True->(nv x.1.2=0->r.1=zi/\r.2.1= [(1:Int)])/\(nv x.1.2≠0->r.1=x.1.1/\r.2.1=x.1.2)->False/\∀(r:QQ×Unit),eB r.1/\True->True->r.1=rc (rv x.1))
def Ni:A2 W6.args->Prop:=fun(x:Int×Int×Unit)=>True/\∀(r:Bool×Unit),True/\True->r.1=false->True/\∀(a:Bool×Unit),True/\True->a.1=false->(r.1=true->(a.1=true->(0:Int)=Qf x.1 x.2.1)/\(a.1=false->(-1:Int)=Qf x.1 x.2.1))/\(r.1=false->(a.1=true->(1:Int)=Qf x.1 x.2.1)/\(a.1=false->(decide (x.1<x.2.1)=true->(-1:Int)=Qf x.1 x.2.1)/\(decide (x.1<x.2.1)=false->(decide (x.2.1<x.1)=true->(1:Int)=Qf x.1 x.2.1)/\(decide (x.2.1<x.1)=false->(0:Int)=Qf x.1 x.2.1))))
theorem HS (x:A2 Eh.args) (hw:awf Eh.args x) (_:Eh.pre x):Yo x:=by
 obtain⟨l,_⟩:=x;have hl:l.length<=9223372036854775807:=hw.1.1;have hb:Ov l:=PO hw.1.2;change List Int at l;simp only[Yo];refine⟨fun p=>0<=p.1/\p.1<=(l.length:Int)/\∀i x,p.1.toNat<=i->l[i]? =some x->x=0,fun p=>p.1.toNat,⟨Int.natCast_nonneg _,Int.le_refl _,fun i x hi hx=> ?_⟩, ?_⟩
 . rw[List.getElem?_eq_none (by simpa using hi)]at hx;cases hx
 rintro⟨n,_⟩ _ ⟨h0,h1,h2⟩;change Int at n;simp only at h0 h1 h2⊢;refine⟨fun h=> ?_,fun h=> ?_,fun h=> ?_⟩
 . have h:=of_decide_eq_true h;rw[wr (by omega) (by omega)];exact⟨by omega,by omega⟩
 . rw[J5]at h;simp only[Bool.and_eq_true,decide_eq_true_eq]at h;obtain⟨h3,h4⟩:=h;rw[wr (by omega) (by omega)]at h4⊢;refine⟨⟨by omega,by omega,fun i x hi hx=> ?_⟩,by omega⟩;by_cases he:i=(n-1).toNat
   . subst he;rw[S5 (d:=(0:Int)) (by omega) (by omega)]at hx;cases hx;exact h4
   . exact h2 i x (by omega) hx
 . refine⟨⟨Int.le_refl _,h0,h1⟩, ?_⟩;show(l.take n.toNat).drop 0= _;rw[List.drop_zero];refine iT hb (by omega) h2 ?_;rw[J5]at h;simp only[Bool.and_eq_false_iff,decide_eq_false_iff_not]at h;rcases h with h|h
   . exact .inl (by omega)
   . by_cases hn:n=0
     . exact .inl (by omega)
     . rw[wr (by omega) (by omega)]at h;refine .inr ⟨gx 0 l (n-1), ?_,h⟩;have:=S5 (d:=(0:Int)) (l:=l) (i:=n-1) (by omega) (by omega);rw[<-this];congr 1;omega
theorem Qq (x:A2 Q0.args) (hw:awf Q0.args x) (_:Q0.pre x):Gv x:=by
 obtain⟨v,_⟩:=x;change Int at v;have hv:IntKind.u64.min<=v/\v<=IntKind.u64.max:=hw.1;rw[jP,jO]at hv;simp only[Gv];refine⟨by decide,trivial, ?_⟩;rintro⟨r,_⟩ _ hr;simp only at hr⊢;rw[hr];congr 1;rw[show Min.min (Int.toNat 32) IntKind.u64.bits=32 from rfl];simp only[nv,jR];rw[Int.fdiv_eq_ediv_of_nonneg _ (by decide),show(2:Int)^32=4294967296 from rfl];omega
theorem EP (x:A2 Cr.args) (hw:awf Cr.args x) (hp:Cr.pre x):Vb x:=by
 obtain⟨l,_⟩:=x;have hb:Ov l:=PO hw.1.2;have hl:l.length<=2:=hp;change List Int at l;simp only[Vb];refine⟨fun p=>0<=p.2.1/\p.2.1<=(l.length:Int)/\p.1=(nv (l.take p.2.1.toNat):Int),fun p=>((l.length:Int)-p.2.1).toNat,⟨Int.le_refl _,Int.natCast_nonneg _,rfl⟩, ?_⟩;rintro⟨v,i,_⟩ hv ⟨h0,h1,h2⟩;change Int at v i;simp only at h0 h1 h2⊢;refine⟨fun h=> ?_,fun h=> ?_⟩
 . have h:=of_decide_eq_true h;have hg:=iM hb h0 h;have hlt:=iX (l:=l.take i.toNat) fun x hx=>hb x (List.mem_of_mem_take hx)
   rw[List.length_take,Nat.min_eq_left (by omega)]at hlt;have hs:=YI h0 h;rw[wr (a:=32*i) (by omega) (by omega),wr (a:=i+1) (by omega) (by omega),w64 hg.1 (by omega)];have hm:Min.min (32*i).toNat IntKind.u64.bits=32*i.toNat:=by
    show Min.min (32*i).toNat 64= _;omega
   rw[hm];have hi:i.toNat=0\/i.toNat=1:=by omega
   refine⟨⟨h0,h⟩,by show(0:Int)<=32*i;omega, ?_⟩;have key:IntKind.u64.wrap (((BitVec.ofInt 64 v|||BitVec.ofInt 64 (IntKind.u64.wrap (gx 0 l i*2^(32*i.toNat)))).toNat:Nat):Int)=(nv (l.take (i+1).toNat):Int):=by
    rw[hs];generalize gx 0 l i=b at hg;rcases hi with hi|hi
    . rw[hi]at hlt⊢;have hv0:v=0:=by rw[h2,hi];simp[nv]
      rw[w64 (a:=b*2^(32*0)) (by omega) (by omega),pN (v:=v) (b:=b) (k:=32*0) (by omega) (by omega) hg.1 (by omega) (by omega),w64 (by omega) (by omega)];simp[nv];omega
    . rw[hi]at hlt⊢;rw[hi]at h2;rw[w64 (a:=b*2^(32*1)) (by omega) (by omega),pN (v:=v) (b:=b) (k:=32*1) (by omega) (by omega) hg.1 (by omega) (by omega),w64 (by omega) (by omega)];omega
   exact⟨⟨by omega,by omega,key⟩,by omega⟩
 . have h:=of_decide_eq_false h;rw[G5 (by omega)]at h2;exact h2
theorem Yn (x:A2 Z6.args) (hw:awf Z6.args x) (_:Z6.pre x):Pt x:=by
 obtain⟨l,_⟩:=x;change List Int at l;simp only[Pt];refine⟨trivial, ?_⟩;rintro⟨r,_⟩ _ hr;simp only at hr⊢;subst hr;refine⟨fun h=> ?_,fun h=> ?_⟩
 . have h:=of_decide_eq_true h;have:=A7p (k:=2) (n:=nv l) (by omega);refine⟨fun h2=> ?_,fun _=>trivial⟩;rw[show(4294967296:Nat)^2=18446744073709551616 from rfl]at this;omega
 . have h:=of_decide_eq_false h;have hle:(nc (nv l)).length<=2:=by omega
   refine⟨hle, ?_⟩;rintro⟨r,_⟩ _ hr;simp only at hr⊢;have hlt:=Nat.lt_of_lt_of_le (lG (nv l)) (Nat.pow_le_pow_right (by decide) hle);rw[Xf]at hr;refine⟨fun _=>⟨hr,trivial⟩,fun h2=> ?_⟩;rw[show(4294967296:Nat)^2=18446744073709551616 from rfl]at hlt;omega
theorem Vu (x:A2 W9.args) (hw:awf W9.args x) (_:W9.pre x):Nl x:=by
 obtain⟨a,b,_⟩:=x;change List Int at a b;simp only[Nl];refine⟨trivial, ?_⟩;rintro⟨r,_⟩ ⟨⟨hla,_⟩,_⟩ hr;simp only at hr hla⊢;subst hr;refine⟨trivial, ?_⟩;rintro⟨s,_⟩ ⟨⟨hlb,_⟩,_⟩ hs;simp only at hs hlb⊢;subst hs;have ha:=GC (nv a);have hb:=GC (nv b);refine⟨fun hne=>⟨fun h=> ?_,fun h=> ?_⟩,fun hne=> ?_⟩
 . have h:=of_decide_eq_true h;exact(iV (UU (by omega))).symm
 . have h:=of_decide_eq_false h;have hne:=of_decide_eq_true hne;exact(iU (UU (by omega))).symm
 . have hlen:(nc (nv a)).length=(nc (nv b)).length:=by have:=of_decide_eq_false hne;omega
   have ea:=Xf (nv a);have eb:=Xf (nv b);generalize nc (nv a)=r at*;generalize nc (nv b)=s at*;rw[<-ea, <-eb];refine⟨fun p=> -1<=p.1/\p.1<(r.length:Int)/\r.drop (p.1+1).toNat=s.drop (p.1+1).toNat,fun p=>(p.1+1).toNat, ?_, ?_⟩
   . rw[wr (by omega) (by omega)];refine⟨by omega,by omega, ?_⟩;rw[List.drop_of_length_le (by omega),List.drop_of_length_le (by omega)]
   rintro⟨i,_⟩ _ ⟨h0,h1,h2⟩;change Int at i;simp only at h0 h1 h2⊢;refine⟨fun h=> ?_,fun h=> ?_⟩
   . have h:=of_decide_eq_true h;refine⟨⟨h,h1⟩,⟨h,by omega⟩,fun hlt=> ?_,fun hlt=>⟨⟨h,h1⟩,⟨h,by omega⟩,fun hgt=> ?_,fun hgt=> ?_⟩⟩
     . exact(iV (pJ ha hb hlen h h1 h2 (of_decide_eq_true hlt))).symm
     . exact(iU (pJ hb ha hlen.symm h (by omega) h2.symm (of_decide_eq_true hgt))).symm
     . have hlt:=of_decide_eq_false hlt;have hgt:=of_decide_eq_false hgt;rw[wr (by omega) (by omega)];refine⟨⟨by omega,by omega, ?_⟩,by omega⟩;rw[show i-1+1=i from by omega,Ks h h1,Ks h (by omega),h2,show gx 0 r i=gx 0 s i from by omega]
   . have h:=of_decide_eq_false h;rw[show(i+1).toNat=0 from by omega,List.drop_zero,List.drop_zero]at h2;rw[h2,lH]
theorem Yh (x:A2 Y6.args) (hw:awf Y6.args x) (_:Y6.pre x):Po x:=by
 obtain⟨b,l,_⟩:=x;change Bool at b;change List Int at l;simp only[Po,J5];cases l<;>simp
theorem Vs (x:A2 W7.args) (hw:awf W7.args x) (_:W7.pre x):Nj x:=by
 obtain⟨v,_⟩:=x;change Int at v;have hv:IntKind.i64.min<=v/\v<=IntKind.i64.max:=hw.1;rw[NM,XP]at hv;simp only[Nj];refine⟨fun h=>⟨trivial, ?_⟩,fun h=>⟨trivial, ?_⟩⟩
 . rintro⟨r,_⟩ _ hr;refine⟨trivial, ?_⟩;rintro⟨s,_⟩ _ hs;simp only at hr hs⊢;have h:=of_decide_eq_true h;have e:(IntKind.u64.wrap (-IntKind.u64.wrap v)).toNat=v.natAbs:=by rw[Uw,Uw];omega
   rw[e]at hr;subst hs hr;unfold ic;rw[decide_eq_true h,Bool.true_and,decide_eq_true (by rw[ne_eq,fI];omega)]
 . rintro⟨r,_⟩ _ hr;refine⟨trivial, ?_⟩;rintro⟨s,_⟩ _ hs;simp only at hr hs⊢;have h:=of_decide_eq_false h;have e:(IntKind.u64.wrap v).toNat=v.natAbs:=by rw[Uw];omega
   rw[e]at hr;subst hs hr;unfold ic;rw[decide_eq_false h,Bool.false_and]
theorem EO (x:A2 Cq.args) (hw:awf Cq.args x) (_:Cq.pre x):Va x:=by
 obtain⟨⟨b,l⟩,_⟩:=x;change Bool at b;change List Int at l;simp only[Va];refine⟨trivial, ?_⟩;rintro⟨r,_⟩ _ hr;simp only at hr⊢;rw[pI]at hr;refine⟨fun h=> ?_,fun h=>⟨fun hb=> ?_,fun hb=> ?_⟩⟩
 . have h:=of_decide_eq_true h;have h0:nv l=0:=bW.1 (hr▸h);unfold iv;simp only[h0];split<;>rfl
 . have h:=of_decide_eq_false h;have h0:nv l≠0:=fun e=>h (by rw[hr,e];rfl)
   unfold iv;simp only[hb,if_true];rw[Int.sign_neg,Int.sign_eq_one_of_pos (by omega)]
 . have h:=of_decide_eq_false h;have h0:nv l≠0:=fun e=>h (by rw[hr,e];rfl)
   unfold iv;simp only[hb];exact(Int.sign_eq_one_of_pos (by simp;omega)).symm
theorem Ur (x:A2 L9.args) (hw:awf L9.args x) (_:L9.pre x):Ke x:=by
 obtain⟨v,_⟩:=x;simp only[Ke];refine⟨trivial, ?_⟩;rintro⟨r,_⟩ _ hr;simp only at hr⊢;rw[hr];rfl
theorem Yu (x:A2 Z8.args) (hw:awf Z8.args x) (_:Z8.pre x):Pv x:=by
 obtain⟨⟨a,l⟩,_⟩:=x;change List Int at l;simp only[Pv];refine⟨trivial, ?_⟩;rintro⟨r,_⟩ _ hr;simp only at hr⊢;rw[pI]at hr;refine⟨fun h=> ?_,fun h=> ?_⟩
 . have h0:nv l=0:=bW.1 (hr▸of_decide_eq_true h);exact⟨fun _=>⟨rfl,by trivial⟩,fun h=>absurd h0 h⟩
 . have h0:nv l≠0:=fun e=>(of_decide_eq_false h) (by rw[hr,e];rfl)
   exact⟨⟨fun h=>absurd h h0,fun _=>⟨by trivial,by trivial⟩⟩,fun h=>absurd h h0,fun _=>⟨by trivial,by trivial⟩⟩
theorem BP (x:A2 Be.args) (hw:awf Be.args x) (_:Be.pre x):So x:=by
 obtain⟨⟨a,l⟩,_⟩:=x;change List Int at l;simp only[So];refine⟨trivial, ?_⟩;rintro⟨r,d,_⟩ _ ⟨hr,hr2⟩;refine⟨trivial, ?_⟩;rintro⟨s,_⟩ _ hs;simp only at hr hr2 hs⊢;rw[hs];unfold KF;split
 . rename_i h;rw[(hr h).1];rfl
 . rename_i h;rw[(hr2 h).1]
theorem Yv (x:A2 Z9.args) (hw:awf Z9.args x) (_:Z9.pre x):Pw x:=by
 obtain⟨⟨⟨b,a⟩,l⟩,_⟩:=x;change Bool at b;change List Int at a l;simp only[Pw];refine⟨trivial, ?_⟩;rintro⟨u,ok,_⟩ _ ⟨h1,h2⟩;refine⟨trivial, ?_⟩;rintro⟨v,fits,_⟩ _ ⟨h3,h4⟩;change Int at u v;change Bool at ok fits;simp only at h1 h2 h3 h4⊢;have hs:sel (sel (sel (!ok) true !fits) true (decide (2147483648<=u))) true (decide (2147483648<=v))=(!ok|| !fits||decide (2147483648<=u) ||decide (2147483648<=v)):=by simp only[Q9]
 rw[hs];have key:(!ok|| !fits||decide (2147483648<=u) ||decide (2147483648<=v))=false->V4 ((b,a),l)/\u=(nv a:Int)/\v=(nv l:Int):=fun h=>by
  simp only[Bool.or_eq_false_iff,Bool.not_eq_false',decide_eq_false_iff_not]at h;obtain⟨⟨⟨e1,e2⟩,e3⟩,e4⟩:=h;have ha:nv a<18446744073709551616:=by
   rcases Nat.lt_or_ge (nv a) 18446744073709551616 with h|h
   . exact h
   . rw[h2 h]at e1;cases e1
  have hl:nv l<18446744073709551616:=by
   rcases Nat.lt_or_ge (nv l) 18446744073709551616 with h|h
   . exact h
   . rw[h4 h]at e2;cases e2
  have q1:=(h1 ha).1;have q3:=(h3 hl).1;exact⟨⟨by show nv a< _;omega,by show nv l< _;omega⟩,q1,q3⟩
 have key2:V4 ((b,a),l)->(!ok|| !fits||decide (2147483648<=u) ||decide (2147483648<=v))=false:=fun h=>by
  obtain⟨g1,g2⟩:=h;change nv a< _ at g1;change nv l< _ at g2;obtain⟨q1,q2⟩:=h1 (by omega);obtain⟨q3,q4⟩:=h3 (by omega);simp only[Bool.or_eq_false_iff,Bool.not_eq_false',decide_eq_false_iff_not];exact⟨⟨⟨q2,q4⟩,by omega⟩,by omega⟩
 refine⟨fun h=>⟨fun hs=> ?_,fun _=>trivial⟩,fun h=> ?_⟩
 . rw[key2 hs]at h;cases h
 . obtain⟨hsm,hu,hv⟩:=key h;have hsm':=hsm;obtain⟨g1,g2⟩:=hsm;change nv a< _ at g1;change nv l< _ at g2;refine⟨fun hz=> ?_,fun hz=>⟨fun hb=> ?_,fun hb=> ?_⟩⟩
   . have hz:=of_decide_eq_true hz;have h0:nv l=0:=by omega
     exact⟨fun _=>⟨by unfold GE;rw[if_pos h0],by unfold FP;rw[if_pos h0],trivial⟩,fun h=>absurd hsm' h⟩
   . have hz:=of_decide_eq_false hz;have h0:nv l≠0:=by omega
     refine⟨fun _=>⟨?_, ?_,trivial⟩,fun h=>absurd hsm' h⟩
     . unfold GE;rw[if_neg h0,wr (a:=u) (by omega) (by omega),wr (by omega) (by omega)];unfold iv;simp only[hb,if_true];omega
     . unfold FP;rw[if_neg h0,wr (by omega) (by omega)];exact hv
   . have hz:=of_decide_eq_false hz;have h0:nv l≠0:=by omega
     refine⟨fun _=>⟨?_, ?_,trivial⟩,fun h=>absurd hsm' h⟩
     . unfold GE;rw[if_neg h0,wr (a:=u) (by omega) (by omega)];unfold iv;simp only[hb];simpa using hu
     . unfold FP;rw[if_neg h0,wr (by omega) (by omega)];exact hv
theorem Sp (x:A2 R7.args) (hw:awf R7.args x) (hp:R7.pre x):Jb x:=by
 obtain⟨n,d,_⟩:=x;change Int at n d;obtain⟨d0,d1,n0,n1⟩:0<d/\d<=4611686018427387904/\ -4611686018427387904<=n/\n<=4611686018427387904:=hp;have i1:IntKind.i64.min= -9223372036854775808:=NM;simp only[Jb];refine⟨fun p=>p.1=(n.natAbs:Int),⟨fun h=> ?_,fun h=> ?_⟩, ?_⟩
 . have h:=of_decide_eq_true h;show IntKind.u64.wrap (-IntKind.u64.wrap n)= _;rw[Uw,Uw];omega
 . have h:=of_decide_eq_false h;show IntKind.u64.wrap n= _;rw[Uw];omega
 rintro⟨s,_⟩ _ hs;simp only at hs⊢;subst hs;have hd:IntKind.u64.wrap d=d:=w64 (by omega) (by omega);refine⟨fun p=>0<=p.1/\0<=p.2.1/\(p.1≠0\/p.2.1≠0)/\p.1.toNat.gcd p.2.1.toNat=d.toNat.gcd n.natAbs,fun p=>p.2.1.toNat, ?_, ?_⟩
 . refine⟨by omega,by show(0:Int)<=(n.natAbs:Int);omega, .inl (by omega), ?_⟩;rw[hd];rfl
 rintro⟨g,t,_⟩ _ ⟨h0,h1,h2,h3⟩;change Int at g t;simp only at h0 h1 h2 h3⊢;refine⟨fun h=> ?_,fun h=> ?_⟩
 . have h:=of_decide_eq_true h;have e:Int.tmod g t=g%t:=Int.tmod_eq_emod_of_nonneg h0;have e2:=Int.emod_nonneg g h;have e3:=Int.emod_lt_of_pos g (b:=t) (by omega);rw[e];refine⟨h,⟨h1,e2, .inl h, ?_⟩,by omega⟩;rw[<-h3,Int.toNat_emod h0 h1,Nat.gcd_comm t.toNat, <-Nat.gcd_rec,Nat.gcd_comm]
 . have h:t=0:=by simpa using h
   subst h;have hg:g≠0:=by omega
   refine⟨hg,hg,trivial, ?_⟩;rintro⟨r,_⟩ _ hr;refine⟨trivial, ?_⟩;rintro⟨q,_⟩ _ hq;simp only at hr hq⊢;have hG:g.toNat=d.toNat.gcd n.natAbs:=by rw[<-h3];simp
   have hgp:0<g:=by omega
   have hge:g=((d.toNat.gcd n.natAbs:Nat):Int):=by omega
   obtain⟨hn,hdn⟩:=bV (x:=n) (d:=d.toNat) (by omega);have e1:(IntKind.u64.wrap (Int.tdiv (n.natAbs:Int) g)).toNat=n.natAbs/d.toNat.gcd n.natAbs:=by
    rw[IntWalk.u64_quo _ _ ⟨by omega,by omega,by omega⟩,hge, <-Int.natCast_ediv,Int.toNat_natCast]
   have e2:(IntKind.u64.wrap (Int.tdiv d g)).toNat=d.toNat/d.toNat.gcd n.natAbs:=by
    rw[IntWalk.u64_quo _ _ ⟨by omega,by omega,by omega⟩,hge]
    conv=>lhs;rw[show d=((d.toNat:Nat):Int)from by omega]
    rw[<-Int.natCast_ediv,Int.toNat_natCast];simp only[Int.toNat_natCast]
   rw[hr,hq,hd,e1,e2];unfold rc;rw[hn,hdn];unfold ic;have hdvd:((d.toNat.gcd n.natAbs:Nat):Int)∣n:=Int.ofNat_dvd_left.2 (Nat.gcd_dvd_right ..);have hgN:0<d.toNat.gcd n.natAbs:=by omega
   generalize d.toNat.gcd n.natAbs=G at hdvd hgN;obtain⟨c,rfl⟩:=hdvd;rw[Int.mul_ediv_cancel_left _ (by omega)];have hsgn:(G:Int)*c<0↔c<0:=by
    constructor
    . intro h;rcases Int.lt_or_le c 0 with h1|h1
      . exact h1
      . have:=Int.mul_nonneg (Int.le_of_lt (Int.ofNat_lt.2 hgN)) h1;omega
    . intro h;exact Int.mul_neg_of_pos_of_neg (by omega) h
   rw[Int.natAbs_mul,Int.natAbs_natCast,Nat.mul_div_cancel_left _ hgN];simp only[hsgn]
theorem A2h (x:CN):mkRat (GE x) (FP x).toNat=rv x:=by
 unfold GE FP rv;split
 . rename_i h;rw[h,Rat.mkRat_zero];rfl
 . rename_i h;rw[Int.toNat_natCast]
theorem BO (x:A2 Bd.args) (hw:awf Bd.args x) (hp:Bd.pre x):Sn x:=by
 obtain⟨a,_⟩:=x;have hs:V4 a:=hp;simp only[Sn];refine⟨trivial, ?_⟩;rintro⟨n,d,ok,_⟩ _ ⟨h1,_⟩;obtain⟨h1,h2,h3⟩:=h1 hs;simp only at h1 h2 h3⊢;subst h1 h2 h3;have hb:0<FP a/\FP a<2147483648/\ -2147483648<GE a/\GE a<2147483648:=by
  obtain⟨g1,g2⟩:=hs;unfold FP GE iv;split
  . omega
  . split<;>omega
 refine⟨fun _=>⟨⟨by omega,by omega,by omega,by omega⟩, ?_⟩,fun h=>by cases h⟩;rintro⟨r,_⟩ _ hr;simp only at hr⊢;rw[hr,A2h]
theorem Vr (x:A2 W6.args) (hw:awf W6.args x) (_:W6.pre x):Ni x:=by
 obtain⟨a,b,_⟩:=x;change Int at a b;simp only[Ni];refine⟨trivial, ?_⟩;rintro⟨r,_⟩ _ hr;refine⟨trivial, ?_⟩;rintro⟨s,_⟩ _ hs;change Bool at r s;simp only at hr hs;rw[hr,hs];refine⟨fun h=>(by cases h),fun _=>⟨fun h=>(by cases h),fun _=>⟨fun h=> ?_,fun h=>⟨fun h2=> ?_,fun h2=> ?_⟩⟩⟩⟩
 . simp[Qf,of_decide_eq_true h]
 . simp[Qf,of_decide_eq_false h,of_decide_eq_true h2]
 . simp[Qf,of_decide_eq_false h,of_decide_eq_false h2]
def FM:An:= {}
def AP:An:= {loop:= [(2,⟨[0],[],[(3,false,[.val (.int .i64)])],[],[]⟩)],plan:= [(4,[5,10],[],true, .done)]}
def Dx:An:= {loop:= [(4,⟨[0,1,2,3,8],[],[(9,false,[.val (.int .i64)])],[],[(0, .row (.pair (.int .i64) (.pair (.pair .bool (.sl (.int .u32))) (.sl (.int .u32)))) 124)]⟩),(1,⟨[0,1,2,3],[],[(8,false,[.val (.int .i64)])],[],[(0, .row (.pair (.int .i64) (.pair (.pair .bool (.sl (.int .u32))) (.sl (.int .u32)))) 124)]⟩)],plan:= [(4,[8,13],[],false, .done),(6,[9,13],[15,17],true, .done)]}
def Hy:An:= {join:= [(16,⟨[0,1,2,6],[],[],[],[(0, .row (.pair (.int .i64) (.pair (.pair .bool (.sl (.int .u32))) (.sl (.int .u32)))) 124)]⟩)],loop:= [(2,⟨[0,1,2,6],[],[(7,false,[.val (.int .i64)]),(8,false,[.val (.int .i64)])],[],[(0, .row (.pair (.int .i64) (.pair (.pair .bool (.sl (.int .u32))) (.sl (.int .u32)))) 124)]⟩),(9,⟨[0,1,2,6],[],[(7,false,[.val (.int .i64)]),(8,false,[.val (.int .i64)])],[],[(0, .row (.pair (.int .i64) (.pair (.pair .bool (.sl (.int .u32))) (.sl (.int .u32)))) 124)]⟩),(7,⟨[0,1,2],[],[(6,false,[.val (.int .i64)])],[],[(0, .row (.pair (.int .i64) (.pair (.pair .bool (.sl (.int .u32))) (.sl (.int .u32)))) 124)]⟩)]}
def Dd:An:= {}
def FL:An:= {join:= [(14,⟨[3,18,19,20],[],[(4,false,[.val (.int .i64)])],[],[(0, .row (.pair (.int .i64) (.pair (.pair .bool (.sl (.int .u32))) (.sl (.int .u32)))) 124)]⟩)],loop:= [(8,⟨[3,18,19],[],[(4,false,[.val (.int .i64)]),(20,false,[.val (.int .i64)])],[],[(0, .row (.pair (.int .i64) (.pair (.pair .bool (.sl (.int .u32))) (.sl (.int .u32)))) 124)]⟩)],plan:= [(10,[8,10],[],true, .done),(11,[8,10],[14],true, .done)]}
def MC:An:= {join:= [(13,⟨[2,7,9,10],[1],[(0,false,[.val (.sl (.pair (.int .i64) (.pair (.pair .bool (.sl (.int .u32))) (.sl (.int .u32)))))]),(1,false,[.val (.sl (.pair (.int .i64) (.pair (.pair .bool (.sl (.int .u32))) (.sl (.int .u32)))))]),(8,false,[.val (.int .i64)])],[(2,121,[.val .bool, .val (.sl (.int .u32)), .val (.sl (.int .u32))]),(3,121,[.val .bool, .val (.sl (.int .u32)), .val (.sl (.int .u32))])],[]⟩)],loop:= [(2,⟨[2],[],[(0,false,[.val (.sl (.pair (.int .i64) (.pair (.pair .bool (.sl (.int .u32))) (.sl (.int .u32)))))]),(1,false,[.val (.sl (.pair (.int .i64) (.pair (.pair .bool (.sl (.int .u32))) (.sl (.int .u32)))))]),(7,false,[.own (.pair (.int .i64) (.pair (.pair .bool (.sl (.int .u32))) (.sl (.int .u32)))) 124])],[],[]⟩)],plan:= [(5,[11,15],[],true, .done),(6,[3,7],[9],true, .done),(11,[3,7],[9],true, .done)]}
def IV:An:= {}
def OI:An:= {}
def Qa:A2 Ab.args->Prop:=fun(x:EE×EE×Unit)=>True/\∀(r:Int×Unit),A7 r.1/\True->r.1=Qf x.1.1 x.2.1.1->r.1=Qf x.1.1 x.2.1.1
def Ki:A2 V0.args->Prop:=fun(x:List EE×Unit)=>let d:=(1:Int);let a:=(x.1.length:Int);∃(I:Int×Unit->Prop),∃(μ: _->Nat),I (d,())/\∀(p:Int×Unit),let c:=(IntKind.i64.wrap (p.1+d),());let b:Prop:=((gx AQ x.1 p.1).1<=(gx AQ x.1 (IntKind.i64.wrap (p.1-d))).1);(Ty.int IntKind.i64).wf p.1/\True->I p->(decide (p.1<a)=true->((0:Int)<=IntKind.i64.wrap (p.1-d)/\IntKind.i64.wrap (p.1-d)<a)/\(0<=p.1/\p.1<a)/\(decide b=true->false=decide (Ko x.1))/\(decide b=false->I c/\μ c<μ p))/\(decide (p.1<a)=false->true=decide (Ko x.1))
def S3:A2 G0.args->Prop:=fun(x:List EE×Int×Int×((EE×EE×Unit->Prop)×(EE×EE×Unit->Int))×Unit)=>let m:=(0:Int);let i:=(1:Int);∃(I:Int×List EE×Unit->Prop),∃(μ: _->Nat),I (IntKind.i64.wrap (x.2.1+i),x.1,())/\∀(p:Int×List EE×Unit),(Ty.int IntKind.i64).wf p.1/\LX p.2.1/\True->I p->(decide (p.1<x.2.2.1)=true->∃(I_1:Int×List EE×Unit->Prop),∃(μ_1: _->Nat),I_1 (p.1,p.2.1,())/\∀(n:Int×List EE×Unit),let l:=(n.2.1.length:Int);let k:=(Int.toNat n.1);let j:=(IntKind.i64.wrap (p.1+i),n.2.1,());let g:Prop:=(x.2.1<n.1);let d:=(IntKind.i64.wrap (n.1-i));let h:=(List.set n.2.1 k (List.getD n.2.1 d.toNat AQ));let f:=(List.getD n.2.1 k AQ,List.getD n.2.1 d.toNat AQ,());let e:=(IntKind.i64.wrap (n.1-i),h.set d.toNat (List.getD n.2.1 k AQ),());let c:Prop:=(m<=IntKind.i64.wrap (n.1-i)/\IntKind.i64.wrap (n.1-i)<l);let b:Prop:=(m<=n.1/\n.1<l);let a:Prop:=(x.2.2.2.1.2 f<m);(Ty.int IntKind.i64).wf n.1/\LX n.2.1/\True->I_1 n->(decide g=true->b)/\(decide g=true->c)/\Go.Proofs.Tryz.prog=Go.Proofs.Tryz.prog/\(decide g=true->x.2.2.2.1.1 f)/\((decide g=true->(Ty.int IntKind.i64).wf (x.2.2.2.1.2 f))->(sel (decide g) (decide a) false=true->c/\b/\b/\(m<=IntKind.i64.wrap (n.1-i)/\IntKind.i64.wrap (n.1-i)<(↑h.length:Int))/\I_1 e/\μ_1 e<μ_1 n)/\(sel (decide g) (decide a) false=false->I j/\μ j<μ p)))/\(decide (p.1<x.2.2.1)=false->True/\List.Perm p.2.1 x.1/\List.take x.2.1.toNat p.2.1=List.take x.2.1.toNat x.1/\List.drop x.2.2.1.toNat p.2.1=List.drop x.2.2.1.toNat x.1/\Se x.2.2.2.1.2 (List.take (x.2.2.1.toNat-x.2.1.toNat) (List.drop x.2.1.toNat p.2.1)))
def Ak:A2 J8.args->Prop:=fun(x:List EE×Int×((EE×EE×Unit->Prop)×(EE×EE×Unit->Int))×Unit)=>let h:=(0:Int);∃(I:Int×Int×List EE×Unit->Prop),∃(μ: _->Nat),I (h,(20:Int),x.1,())/\∀(p:Int×Int×List EE×Unit),let g:=(p.2.2.1.length:Int);let d:=(Int.toNat p.1);let b:Prop:=(List.length p.2.2.1<=100000);(Ty.int IntKind.i64).wf p.1/\(Ty.int IntKind.i64).wf p.2.1/\LX p.2.2.1/\True->I p->(decide (p.2.1<=x.2.1)=true->Go.Proofs.Tryz.prog=Go.Proofs.Tryz.prog/\false=false/\((Xg x.2.2.1.1 fun(z:EE×EE×Unit)=>x.2.2.1.2 z)/\h<=p.1/\p.1<=p.2.1/\p.2.1<=g/\b)/\∀(r:Unit) (o:List EE×Unit),let e:=(p.2.1,IntKind.i64.wrap (p.2.1+20),o);True->((Ty.int IntKind.i64).pair ((Ty.bool.pair (Ty.int IntKind.u32).sl).pair (Ty.int IntKind.u32).sl)).sl.wf o.1/\True->True->o.1.Perm p.2.2.1/\List.take d o.1=List.take d p.2.2.1/\List.drop (Int.toNat p.2.1) o.1=List.drop (Int.toNat p.2.1) p.2.2.1/\Se (fun(z:EE×EE×Unit)=>x.2.2.1.2 z) (List.take (Int.toNat p.2.1-Int.toNat p.1) (List.drop d o.1))->I e/\μ e<μ p)/\(decide (p.2.1<=x.2.1)=false->Go.Proofs.Tryz.prog=Go.Proofs.Tryz.prog/\false=false/\((Xg x.2.2.1.1 fun(z:EE×EE×Unit)=>x.2.2.1.2 z)/\h<=p.1/\p.1<=x.2.1/\x.2.1<=g/\b)/\∀(r:Unit) (o:List EE×Unit),True->((Ty.int IntKind.i64).pair ((Ty.bool.pair (Ty.int IntKind.u32).sl).pair (Ty.int IntKind.u32).sl)).sl.wf o.1/\True->True->o.1.Perm p.2.2.1/\List.take d o.1=List.take d p.2.2.1/\List.drop (Int.toNat x.2.1) o.1=List.drop (Int.toNat x.2.1) p.2.2.1/\Se (fun(z:EE×EE×Unit)=>x.2.2.1.2 z) (List.take (Int.toNat x.2.1-Int.toNat p.1) (List.drop d o.1))->∃(I:Int×List EE×Unit->Prop),∃(μ: _->Nat),I ((20:Int),o)/\∀(p:Int×List EE×Unit),(Ty.int IntKind.i64).wf p.1/\LX p.2.1/\True->I p->(decide (p.1<x.2.1)=true->∃(I_1:Int×Int×List EE×Unit->Prop),∃(μ_1: _->Nat),I_1 (h,IntKind.i64.wrap (2*p.1),p.2.1,())/\∀(i:Int×Int×List EE×Unit),let a:Prop:=(IntKind.i64.wrap (i.1+p.1)<x.2.1);(Ty.int IntKind.i64).wf i.1/\(Ty.int IntKind.i64).wf i.2.1/\LX i.2.2.1/\True->I_1 i->(decide (i.2.1<=x.2.1)=true->Go.Proofs.Tryz.prog=Go.Proofs.Tryz.prog/\false=false/\False/\∀(r:Unit) (o:List EE×Unit),let c:=(i.2.1,IntKind.i64.wrap (i.2.1+IntKind.i64.wrap (2*p.1)),o);True->((Ty.int IntKind.i64).pair ((Ty.bool.pair (Ty.int IntKind.u32).sl).pair (Ty.int IntKind.u32).sl)).sl.wf o.1/\True->True->True->I_1 c/\μ_1 c<μ_1 i)/\(decide (i.2.1<=x.2.1)=false->∃(J:List EE×Unit->Prop),((decide a=true->Go.Proofs.Tryz.prog=Go.Proofs.Tryz.prog/\false=false/\False/\∀(r:Unit) (o:List EE×Unit),True->((Ty.int IntKind.i64).pair ((Ty.bool.pair (Ty.int IntKind.u32).sl).pair (Ty.int IntKind.u32).sl)).sl.wf o.1/\True->True->True->J o)/\(decide a=false->J (i.2.2.1,())))/\∀(j:List EE×Unit),let f:=(IntKind.i64.wrap (p.1*2),j);LX j.1/\True->J j->I f/\μ f<μ p))/\(decide (p.1<x.2.1)=false->True/\List.Perm p.2.1 x.1/\Se x.2.2.1.2 p.2.1))
def Q7:A2 F7.args->Prop:=fun(x:List EE×((EE×EE×Unit->Prop)×(EE×EE×Unit->Int))×Unit)=>let a:=(x.1.length:Int);Go.Proofs.Tryz.prog=Go.Proofs.Tryz.prog/\false=false/\((Xg x.2.1.1 fun(z:EE×EE×Unit)=>x.2.1.2 z)/\a=a/\List.length x.1<=20)/\∀(r:Unit) (o:List EE×Unit),True->((Ty.int IntKind.i64).pair ((Ty.bool.pair (Ty.int IntKind.u32).sl).pair (Ty.int IntKind.u32).sl)).sl.wf o.1/\True->True->o.1.Perm x.1/\Se (fun(z:EE×EE×Unit)=>x.2.1.2 z) o.1->True/\o.1.Perm x.1/\Se x.2.1.2 o.1
def Pz:A2 Aa.args->Prop:=fun(x:List EE×Unit)=>let k:=(1:Int);let f:=(0:Int);let d:=(x.1.length:Int);True/\∀(r:Bool×Unit),True/\True->r.1=decide (Ko x.1)->(r.1=true->List.Perm x.1 x.1/\Ko x.1)/\(r.1=false->(f<=d/\d<=d/\(↑(64:Nat):Int)*d<=(281474976710656:Int)/\d<=(9223372036854775807:Int))/\∃(ok:EE×EE×Unit->Prop),∃(φ:EE×EE×Unit->Int),(∀(y:EE×EE×Unit),((Ty.int IntKind.i64).pair ((Ty.bool.pair (Ty.int IntKind.u32).sl).pair (Ty.int IntKind.u32).sl)).wf y.1/\((Ty.int IntKind.i64).pair ((Ty.bool.pair (Ty.int IntKind.u32).sl).pair (Ty.int IntKind.u32).sl)).wf y.2.1/\True->ok y->True/\∀(z:Int×Unit),A7 z.1/\True->z.1=Qf y.1.1 y.2.1.1->false=false/\z.1=φ y)/\(Xg ok φ/\(Oo (List.replicate d.toNat AQ) x.1).length<=(20:Nat))/\∀(n:Unit) (o:List EE×Unit),True->((Ty.int IntKind.i64).pair ((Ty.bool.pair (Ty.int IntKind.u32).sl).pair (Ty.int IntKind.u32).sl)).sl.wf o.1/\True->True->o.1.Perm (Oo (List.replicate d.toNat AQ) x.1)/\Se φ o.1->∃(I:Int×Int×List EE×Unit->Prop),∃(μ: _->Nat),I (f,f,o)/\∀(p:Int×Int×List EE×Unit),let l:=(Int.toNat p.1);let i:=(List.getD p.2.2.1 (Int.toNat p.2.1) AQ);let g:=(IntKind.i64.wrap (p.1-k));let j:=(List.getD p.2.2.1 g.toNat AQ);let e:=(p.2.2.1.length:Int);let c:Prop:=(p.2.1<(↑o.1.length:Int));let b:Prop:=(j.1=i.1);let a:Prop:=(f<=IntKind.i64.wrap (p.1-k)/\IntKind.i64.wrap (p.1-k)<e);(Ty.int IntKind.i64).wf p.1/\(Ty.int IntKind.i64).wf p.2.1/\LX p.2.2.1/\True->I p->(decide c=true->∃(J:Int×List EE×Unit->Prop),((f<=p.2.1/\p.2.1<e)/\(decide (f<p.1)=true->a)/\(sel (decide (f<p.1)) (decide b) false=true->a/\False/\∀(r:QQ×Unit),eB r.1/\True->True->a/\J (p.1,List.set p.2.2.1 g.toNat (j.1,r.1),()))/\(sel (decide (f<p.1)) (decide b) false=false->(f<=p.1/\p.1<e)/\J (IntKind.i64.wrap (p.1+k),List.set p.2.2.1 l i,())))/\∀(m:Int×List EE×Unit),let h:=(m.1,IntKind.i64.wrap (p.2.1+k),m.2.1,());(Ty.int IntKind.i64).wf m.1/\LX m.2.1/\True->J m->I h/\μ h<μ p)/\(decide c=false->(f<=f/\f<=p.1/\p.1<=e)/\(List.drop (Int.toNat f) (List.take l p.2.2.1)).Perm x.1/\Ko (List.drop (Int.toNat f) (List.take l p.2.2.1))))
def Ve:A2 Ct.args->Prop:=fun(x:List EE×List EE×((QQ×QQ×Unit->Prop)×(QQ×QQ×Unit->(Bool×List Int)×List Int))×Unit)=>let w:=(1:Int);let t:=(x.1.length:Int);let s:=(Int.toNat w);let q:=(x.2.1.length:Int);let j:=(0:Int);(j<=j/\j<=Max.max t q/\(↑(64:Nat):Int)*Max.max t q<=(281474976710656:Int)/\Max.max t q<=(9223372036854775807:Int))/\∃(I:List EE×List EE×List EE×Unit->Prop),∃(μ: _->Nat),I (x.1,x.2.1,List.replicate (Int.toNat j) AQ,())/\∀(p:List EE×List EE×List EE×Unit),let n:=(gx AQ p.1 j);let m:=(gx AQ p.2.1 j);let l:=(p.1.length:Int);let k:=(p.2.1.length:Int);let g:Prop:=(m.1=n.1);let f:Prop:=(n.1<=m.1);let e:Prop:=(j<=j/\j<k);let d:Prop:=(k=j);let c:Prop:=(j<=w/\w<=k/\k<=k);let b:Prop:=(j<l);let y:=(sel (decide b) (decide f) false);let a:Prop:=(j<k);let z:=(decide a);let h:Prop:=(j<=j/\a);((Ty.int IntKind.i64).pair ((Ty.bool.pair (Ty.int IntKind.u32).sl).pair (Ty.int IntKind.u32).sl)).sl.wf p.1/\((Ty.int IntKind.i64).pair ((Ty.bool.pair (Ty.int IntKind.u32).sl).pair (Ty.int IntKind.u32).sl)).sl.wf p.2.1/\((Ty.int IntKind.i64).pair ((Ty.bool.pair (Ty.int IntKind.u32).sl).pair (Ty.int IntKind.u32).sl)).sl.wf p.2.2.1/\True->I p->(sel (decide b) true z=true->∃(J:List EE×List EE×Int×Bool×List Int×List Int×Bool×List Int×List Int×Unit->Prop),((decide b=true/\decide d=false->j<=j/\j<l)/\(decide b=true/\decide d=false->e)/\(sel (decide d) true y=true->(j<=j/\b)/\(j<=j/\b)/\(j<=w/\w<=l/\l<=l)/\(decide a=true->e)/\(sel z (decide g) false=true->h/\c/\J (List.drop s (List.take l.toNat p.1),List.drop s (List.take k.toNat p.2.1),n.1,n.2.1.1,n.2.1.2,n.2.2,m.2.1.1,m.2.1.2,m.2.2,()))/\(sel z (decide g) false=false->J (List.drop s (List.take l.toNat p.1),p.2.1,n.1,n.2.1.1,n.2.1.2,n.2.2,false,[],[],())))/\(sel (decide d) true y=false->h/\h/\c/\J (p.1,List.drop s (List.take k.toNat p.2.1),m.1,false,[],[],m.2.1.1,m.2.1.2,m.2.2,())))/\∀(A:List EE×List EE×Int×Bool×List Int×List Int×Bool×List Int×List Int×Unit),let v:=(A.1,A.2.1,p.2.2.1,());let i:=(((A.2.2.2.1,A.2.2.2.2.1),A.2.2.2.2.2.1),((A.2.2.2.2.2.2.1,A.2.2.2.2.2.2.2.1),A.2.2.2.2.2.2.2.2.1),());let o:=(A.2.2.1,x.2.2.1.2 i);let u:=(A.1,A.2.1,p.2.2.1++ [o],());((Ty.int IntKind.i64).pair ((Ty.bool.pair (Ty.int IntKind.u32).sl).pair (Ty.int IntKind.u32).sl)).sl.wf A.1/\((Ty.int IntKind.i64).pair ((Ty.bool.pair (Ty.int IntKind.u32).sl).pair (Ty.int IntKind.u32).sl)).sl.wf A.2.1/\(Ty.int IntKind.i64).wf A.2.2.1/\Ty.bool.wf A.2.2.2.1/\(Ty.int IntKind.u32).sl.wf A.2.2.2.2.1/\(Ty.int IntKind.u32).sl.wf A.2.2.2.2.2.1/\Ty.bool.wf A.2.2.2.2.2.2.1/\(Ty.int IntKind.u32).sl.wf A.2.2.2.2.2.2.2.1/\(Ty.int IntKind.u32).sl.wf A.2.2.2.2.2.2.2.2.1/\True->J A->Go.Proofs.Tryz.prog=Go.Proofs.Tryz.prog/\x.2.2.1.1 i/\(((Ty.bool.pair (Ty.int IntKind.u32).sl).pair (Ty.int IntKind.u32).sl).wf (x.2.2.1.2 i)->True/\∀(r:Int×Unit),A7 r.1/\True->r.1=KF (x.2.2.1.2 i)->(decide (r.1≠j)=true->((p.2.2.1.length+ [o].length)*(64:Nat)<=(140737488355328:Nat)/\p.2.2.1.length+ [o].length<=9223372036854775807)/\I u/\μ u<μ p)/\(decide (r.1≠j)=false->I v/\μ v<μ p)))/\(sel (decide b) true z=false->p.2.2.1=x.1)
def Sv:A2 Bh.args->Prop:=fun(x:QQ×QQ×Unit)=>V4 x.1/\∀(r:QQ×Unit),eB r.1/\True->r.1=rc (rv x.1)->r.1=rc (rv x.1)
def Yy:A2 Bm.args->Prop:=fun(x:List EE×Unit)=>(List.length x.1<=20/\(List.map (fun(x:Int×(Bool×List Int)×List Int)=>x.1) x.1).Nodup)/\∀(r:List EE×Unit),LX r.1/\True->r.1.Perm x.1/\Ko r.1->∃(ok:QQ×QQ×Unit->Prop),∃(φ:QQ×QQ×Unit->(Bool×List Int)×List Int),(∀(y:QQ×QQ×Unit),((Ty.bool.pair (Ty.int IntKind.u32).sl).pair (Ty.int IntKind.u32).sl).wf y.1/\((Ty.bool.pair (Ty.int IntKind.u32).sl).pair (Ty.int IntKind.u32).sl).wf y.2.1/\True->ok y->V4 y.1/\∀(z:QQ×Unit),eB z.1/\True->z.1=rc (rv y.1)->true=true/\z.1=φ y)/\(Jk EE= []/\List.length r.1<=100000/\∀(e:Int×(Bool×List Int)×List Int),e∈r.1->(ok,φ).1 (e.2,zr,())/\(ok,φ).2 (e.2,zr,())=e.2/\KF e.2≠0)/\∀(a:List EE×Unit),LX a.1/\True->a.1=r.1->List.Perm a.1 x.1/\Ko a.1
theorem Za (x:A2 Ab.args) (hw:awf Ab.args x) (_:Ab.pre x):Qa x:=by
 simp only[Qa];exact⟨trivial,fun r _ h=>h⟩
theorem Uv (x:A2 V0.args) (hw:awf V0.args x) (_:V0.pre x):Ki x:=by
 obtain⟨l,_⟩:=x;have hl:l.length<=9223372036854775807:=hw.1.1;change List (Int×(Bool×List Int)×List Int)at l;simp only[Ki];refine⟨fun p=>1<=p.1/\∀s t:Nat,s<t->t<p.1.toNat->t<l.length->(l.getD s AQ).1<(l.getD t AQ).1,fun p=>((l.length:Int)-p.1).toNat,⟨Int.le_refl _,fun s t h1 h2=>by simp at h2;omega⟩, ?_⟩;rintro⟨k,_⟩ _ ⟨h0,h1⟩;change Int at k;simp only at h0 h1⊢;refine⟨fun h=> ?_,fun h=> ?_⟩
 . have h:=of_decide_eq_true h;rw[wr (a:=k-1) (by omega) (by omega)];refine⟨⟨by omega,by omega⟩,⟨by omega,h⟩,fun hb=> ?_,fun hb=> ?_⟩
   . have hb:=of_decide_eq_true hb;refine(decide_eq_false fun hp=> ?_).symm;unfold Ko at hp;rw[List.pairwise_iff_getElem]at hp;have:=hp (k-1).toNat k.toNat (by omega) (by omega) (by omega);have e1:=S5 (d:=AQ) (l:=l) (i:=k) (by omega) h;have e2:=S5 (d:=AQ) (l:=l) (i:=k-1) (by omega) (by omega);rw[List.getElem?_eq_getElem (by omega)]at e1 e2;rw[Option.some.inj e1,Option.some.inj e2]at this;omega
   . have hb:=of_decide_eq_false hb;rw[wr (a:=k+1) (by omega) (by omega)];rw[E7 (by omega) h,E7 (by omega) (by omega)]at hb;refine⟨⟨by omega,fun s t h2 h3 h4=> ?_⟩,by omega⟩;by_cases ht:t=k.toNat
     . by_cases hs:s=(k-1).toNat
       . rw[ht,hs];omega
       . have:=h1 s (k-1).toNat (by omega) (by omega) (by omega);rw[ht];omega
     . exact h1 s t h2 (by omega) h4
 . have h:=of_decide_eq_false h;refine(decide_eq_true ?_).symm;unfold Ko;rw[List.pairwise_iff_getElem];intro i j hi hj hij;have:=h1 i j hij (by omega) hj;rw[List.getD_eq_getElem?_getD,List.getElem?_eq_getElem hi,List.getD_eq_getElem?_getD,List.getElem?_eq_getElem hj]at this;exact this
theorem Ce (x:A2 G0.args) (hw:awf G0.args x) (hp:G0.pre x):S3 x:=by
 obtain⟨l,a,b,⟨ok,φ⟩,_⟩:=x;change List (Int×(Bool×List Int)×List Int)at l;change Int at a b;obtain⟨⟨hok,htr,has⟩,a0,ab,bl,hl⟩:Xg ok φ/\0<=a/\a<=b/\b<=(l.length:Int)/\l.length<=100000:=hp;simp only[S3];have hq:∀x y z:LV,¬φ (y,x,())<0->¬φ (z,y,())<0->¬φ (z,x,())<0:=fun x y z h1 h2=>htr z y x h2 h1
 refine⟨fun p=>a+1<=p.1/\(p.1<=b\/p.1=a+1)/\p.2.1.Perm l/\p.2.1.take a.toNat=l.take a.toNat/\p.2.1.drop b.toNat=l.drop b.toNat/\(∀s t,a.toNat<=s->s<t->t<p.1.toNat->t<b.toNat->¬φ (p.2.1.getD t AQ,p.2.1.getD s AQ,())<0),fun p=>(b-p.1).toNat, ?_, ?_⟩
 . rw[wr (by omega) (by omega)];refine⟨Int.le_refl _, .inr rfl,List.Perm.refl _,rfl,rfl,fun s t h1 h2 h3 h4=> ?_⟩;change t<(a+1).toNat at h3;omega
 rintro⟨i,m,_⟩ _ ⟨h0,h1,h2,h3,h4,h5⟩;change Int at i;change List (Int×(Bool×List Int)×List Int)at m;simp only at h0 h1 h2 h3 h4 h5⊢;have hml:=h2.length_eq;refine⟨fun h=> ?_,fun h=> ?_⟩
 . have h:=of_decide_eq_true h;refine⟨fun p=>a<=p.1/\p.1<=i/\p.2.1.Perm l/\p.2.1.take a.toNat=l.take a.toNat/\p.2.1.drop b.toNat=l.drop b.toNat/\oG (fun x y=>¬φ (y,x,())<0) AQ p.2.1 a.toNat i.toNat p.1.toNat,fun p=>(p.1-a).toNat,⟨by show a<=i;omega,Int.le_refl _,h2,h3,h4,eX fun s t q1 q2 q3=>h5 s t q1 q2 q3 (by omega)⟩, ?_⟩;rintro⟨j,y,_⟩ _ ⟨g0,g1,g2,g3,g4,g5⟩;change Int at j;change List (Int×(Bool×List Int)×List Int)at y;simp only at g0 g1 g2 g3 g4 g5⊢;have hyl:=g2.length_eq;have ew:IntKind.i64.wrap (j-1)=j-1:=wr (by omega) (by omega);rw[ew];have et:(j-1).toNat=j.toNat-1:=by omega
   rw[et];refine⟨fun hj=>⟨by omega,by omega⟩,fun hj=> ?_,trivial,fun _=>hok _ _,fun _=>⟨fun hs=> ?_,fun hs=> ?_⟩⟩
   . have hj:=of_decide_eq_true hj;exact⟨by omega,by omega⟩
   . rw[J5]at hs;simp only[Bool.and_eq_true,decide_eq_true_eq]at hs;obtain⟨s1,s2⟩:=hs;refine⟨⟨by omega,by omega⟩,⟨by omega,by omega⟩,⟨by omega,by omega⟩,⟨by omega,by rw[List.length_set];omega⟩,⟨by omega,by omega, ?_, ?_, ?_, ?_⟩,by omega⟩
     . exact(gJ (d:=AQ) (l:=y) (j:=j.toNat) (by omega)).trans g2
     . exact(gK (d:=AQ) (l:=y) (by omega)).trans g3
     . exact(gI (d:=AQ) (l:=y) (by omega)).trans g4
     . exact kQ g5 (by omega) (by omega) (by omega) (has _ _ s2)
   . rw[J5]at hs;simp only[Bool.and_eq_false_iff,decide_eq_false_iff_not]at hs;rw[wr (by omega) (by omega)];refine⟨⟨by omega, .inl (by omega),g2,g3,g4,fun s t q1 q2 q3 q4=> ?_⟩,by omega⟩;refine oH g5 hq (by omega) (fun hh=> ?_) s t q1 q2 (by change t<(i+1).toNat at q3;omega);rcases hs with hs|hs
     . omega
     . exact hs
 . have h:=of_decide_eq_false h;refine⟨trivial,h2,h3,h4, ?_⟩;unfold Se;have:=QO (q:=fun x y=>¬φ (y,x,())<0) (d:=AQ) (l:=m) (a:=a.toNat) (b:=b.toNat) (by omega) fun s t q1 q2 q3=>h5 s t q1 q2 (by omega) q3
   exact this
theorem Fy (x:A2 J8.args) (hw:awf J8.args x) (hp:J8.pre x):Ak x:=by
 obtain⟨l,n,⟨ok,φ⟩,_⟩:=x;change List (Int×(Bool×List Int)×List Int)at l;change Int at n;obtain⟨hok,hn,hl⟩:Xg ok φ/\n=(l.length:Int)/\l.length<=20:=hp;simp only[Ak];refine⟨fun p=>(p.1=0/\p.2.1=20/\p.2.2.1=l)\/(p.1=20/\p.2.1=40/\n=20/\p.2.2.1.Perm l/\Se φ p.2.2.1),fun p=>(40-p.2.1).toNat, .inl ⟨rfl,rfl,rfl⟩, ?_⟩;rintro⟨a,b,m,_⟩ _ hI;change Int at a b;change List (Int×(Bool×List Int)×List Int)at m;simp only at hI⊢;refine⟨fun h=> ?_,fun h=> ?_⟩
 . have h:=of_decide_eq_true h;obtain⟨rfl,rfl,rfl⟩:a=0/\b=20/\m=l:=by
    rcases hI with h1| ⟨_,h1,_⟩
    . exact h1
    . omega
   refine⟨trivial,trivial,⟨hok,Int.le_refl _,by omega,by omega,by omega⟩, ?_⟩;rintro r ⟨o,_⟩ _ _ _ ⟨o1,o2,o3,o4⟩;simp only at o1 o2 o3 o4⊢;rw[wr (by omega) (by omega)];refine⟨.inr ⟨by trivial,by trivial,by omega,o1, ?_⟩,by simp⟩;have hol:=o1.length_eq;change Se φ ((o.drop 0).take (20-0))at o4;rw[List.drop_zero,List.take_of_length_le (by omega)]at o4;exact o4
 . have h:=of_decide_eq_false h;have hm:0<=a/\a<=n/\m.Perm l/\(a=0\/a=n/\Se φ m):=by
    rcases hI with⟨rfl,rfl,rfl⟩ | ⟨rfl,rfl,h20,hp,hs⟩
    . exact⟨Int.le_refl _,by omega,List.Perm.refl _, .inl rfl⟩
    . exact⟨by decide,by omega,hp, .inr ⟨by omega,hs⟩⟩
   obtain⟨m1,m2,m3,m4⟩:=hm;have hml:=m3.length_eq;refine⟨trivial,trivial,⟨hok,m1,m2,by omega,by omega⟩, ?_⟩;rintro r ⟨o,_⟩ _ _ _ ⟨o1,o2,o3,o4⟩;simp only at o1 o2 o3 o4⊢;have hol:=o1.length_eq;have hso:Se φ o:=by
    rcases m4 with m4| ⟨m4,m5⟩
    . change Se φ ((o.drop a.toNat).take (n.toNat-a.toNat))at o4;rw[m4]at o4;change Se φ ((o.drop 0).take (n.toNat-0))at o4;rw[List.drop_zero,List.take_of_length_le (by omega)]at o4;exact o4
    . rw[List.take_of_length_le (by omega),List.take_of_length_le (by omega)]at o2;rw[o2];exact m5
   refine⟨fun p=>p.1=20/\p.2.1.Perm l/\Se φ p.2.1,fun _=>0,⟨rfl,o1.trans m3,hso⟩, ?_⟩;rintro⟨k,z,_⟩ _ ⟨k1,k2,k3⟩;simp only at k1 k2 k3⊢;subst k1;refine⟨fun hk=> ?_,fun _=>⟨trivial,k2,k3⟩⟩;have hk:=of_decide_eq_true hk;omega
theorem Br (x:A2 F7.args) (hw:awf F7.args x) (hp:F7.pre x):Q7 x:=by
 obtain⟨l,⟨ok,φ⟩,_⟩:=x;obtain⟨hok,hl⟩:Xg ok φ/\l.length<=20:=hp;simp only[Q7];refine⟨trivial,trivial,⟨hok,trivial,hl⟩, ?_⟩;rintro r ⟨o,_⟩ _ _ _ h;exact⟨trivial,h⟩
theorem cA:Xg (fun _=>True) (fun z=>Qf z.1.1 z.2.1.1):=by
 refine⟨fun _ _=>trivial,fun a b c=> ?_,fun a b=> ?_⟩
 . simp only[Qf];split<;>split<;>split<;>(try split)<;>(try split)<;>(try split)<;>omega
 . simp only[Qf];split<;>split<;>(try split)<;>(try split)<;>omega
theorem nD {a b:Int} :¬Qf a b<0↔b<=a:=by
 unfold Qf;split
 . omega
 . split<;>omega
theorem lX {l:List LV} (h:Se (fun z=>Qf z.1.1 z.2.1.1) l) (hn:(l.map (·.1)).Nodup):Ko l:=by
 unfold Ko Se at*;unfold List.Nodup at hn;rw[List.pairwise_map]at hn;refine(h.and hn).imp fun {a b} hh=> ?_
 have h1:=nD.1 hh.1;have h2:=hh.2;simp only at h1;omega
theorem TW {α:Type} {l:List α} {d:α} :Oo (List.replicate ((l.length:Nat):Int).toNat d) l=l:=by
 unfold Oo;rw[List.length_replicate,Int.toNat_natCast,List.take_length,List.drop_of_length_le (by simp),List.append_nil]
theorem Yz (x:A2 Aa.args) (hw:awf Aa.args x) (hp:Aa.pre x):Pz x:=by
 obtain⟨l,_⟩:=x;change List (Int×(Bool×List Int)×List Int)at l;obtain⟨hl,hn⟩:l.length<=20/\(l.map fun e:Int×(Bool×List Int)×List Int=>e.1).Nodup:=hp;simp only[Pz];refine⟨trivial, ?_⟩;rintro⟨r,_⟩ _ hr;simp only at hr⊢;subst hr;refine⟨fun h=>⟨List.Perm.refl _,of_decide_eq_true h⟩,fun h=>⟨⟨by omega,by omega,by omega,by omega⟩,fun _=>True,fun z=>Qf z.1.1 z.2.1.1, ?_,⟨cA, ?_⟩, ?_⟩⟩
 . rintro⟨a,b,_⟩ _ _;refine⟨trivial, ?_⟩;rintro⟨z,_⟩ _ hz;exact⟨(by trivial),hz⟩
 . rw[TW];exact hl
 rintro r ⟨o,_⟩ _ _ _ ⟨o1,o2⟩;simp only[TW]at o1 o2⊢;have hol:=o1.length_eq;have hb:=lX o2 ((o1.map _).nodup_iff.2 hn);have hb2:=hb;unfold Ko at hb2;rw[List.pairwise_iff_getElem]at hb2;refine⟨fun p=>p.1=p.2.1/\0<=p.1/\p.1<=(o.length:Int)/\p.2.2.1=o,fun p=>((o.length:Int)-p.1).toNat,⟨rfl,Int.le_refl _,Int.natCast_nonneg _,rfl⟩, ?_⟩;rintro⟨n,i,m,_⟩ _ ⟨h0,h1,h2,h3⟩;change Int at n i;simp only at h0 h1 h2 h3⊢;subst h0 h3;refine⟨fun hi=> ?_,fun hi=> ?_⟩
 . have hi:=of_decide_eq_true hi;refine⟨fun p=>p.1=n+1/\p.2.1=m,⟨⟨h1,hi⟩,fun hh=> ?_,fun hh=> ?_,fun hh=> ?_⟩, ?_⟩
   . have hh:=of_decide_eq_true hh;rw[wr (by omega) (by omega)];exact⟨by omega,by omega⟩
   . rw[J5]at hh;simp only[Bool.and_eq_true,decide_eq_true_eq]at hh;obtain⟨g1,g2⟩:=hh;rw[wr (by omega) (by omega)]at g2;have:=hb2 (n-1).toNat n.toNat (by omega) (by omega) (by omega);rw[List.getD_eq_getElem?_getD,List.getElem?_eq_getElem (by omega),List.getD_eq_getElem?_getD,List.getElem?_eq_getElem (by omega)]at g2;simp only[Option.getD_some]at g2;omega
   . refine⟨⟨h1,hi⟩, ?_, ?_⟩
     . exact wr (by omega) (by omega)
     . show m.set n.toNat (m.getD n.toNat _)=m;rw[List.getD_eq_getElem?_getD,List.getElem?_eq_getElem (by omega)];exact List.set_getElem_self _
   . rintro⟨k,z,_⟩ _ ⟨k1,k2⟩;simp only at k1 k2⊢;subst k1 k2;rw[wr (by omega) (by omega)];exact⟨⟨(by trivial),by omega,by omega,(by trivial)⟩,by omega⟩
 . have hi:=of_decide_eq_false hi;refine⟨⟨Int.le_refl _,h1,h2⟩, ?_⟩;rw[G5 (by omega)];exact⟨o1,hb⟩
theorem ER (x:A2 Ct.args) (hw:awf Ct.args x) (hp:Ct.pre x):Ve x:=by
 obtain⟨l,b,⟨ok,φ⟩,_⟩:=x;change List (Int×(Bool×List Int)×List Int)at l;obtain⟨hb,hl,he⟩:b= []/\l.length<=100000/\∀e∈l,ok (e.2,zr,())/\φ (e.2,zr,())=e.2/\KF e.2≠0:=hp;subst hb;simp only[Ve];refine⟨⟨Int.le_refl _,by omega,by simp;omega,by simp;omega⟩,fun p=>p.2.1= []/\p.2.2.1++p.1=l,fun p=>p.1.length,⟨rfl,rfl⟩, ?_⟩;rintro⟨c,b,out,_⟩ _ ⟨h1,h2⟩;change List (Int×(Bool×List Int)×List Int)at c b out;simp only at h1 h2⊢;subst h1;cases c with
 |nil=>
  rw[List.append_nil]at h2;exact⟨fun h=>by simp[sel]at h,fun _=>h2⟩
 |cons e c=>
  obtain⟨i,⟨neg,mag⟩,den⟩:=e;have hel:=he (i,(neg,mag),den) (by rw[<-h2];simp);refine⟨fun _=>⟨fun p=>p.1=c/\p.2.1= []/\p.2.2.1=i/\p.2.2.2.1=neg/\p.2.2.2.2.1=mag/\p.2.2.2.2.2.1=den/\p.2.2.2.2.2.2.1=false/\p.2.2.2.2.2.2.2.1= []/\p.2.2.2.2.2.2.2.2.1= [],⟨fun h=> ?_,fun h=> ?_,fun h=>⟨⟨by decide,by simp⟩,⟨by decide,by simp⟩,⟨by decide,by simp;omega,Int.le_refl _⟩,fun h=> ?_,fun h=> ?_,fun _=>⟨?_,rfl,rfl,rfl,rfl,rfl,rfl,rfl,rfl⟩⟩,fun h=> ?_⟩, ?_⟩,fun h=>by simp[sel]at h⟩
  . simp at h
  . simp at h
  . simp at h
  . simp[sel]at h
  . show((((i,(neg,mag),den)::c).take (((i,(neg,mag),den)::c).length:Int).toNat)).drop 1=c;rw[Int.toNat_natCast,List.take_length];rfl
  . simp[sel]at h
  . rintro⟨c',b',i',neg',mag',den',n2,m2,d2,_⟩ _ ⟨k1,k2,k3,k4,k5,k6,k7,k8,k9⟩;simp only at k1 k2 k3 k4 k5 k6 k7 k8 k9⊢;subst k1 k2 k3 k4 k5 k6 k7 k8 k9;refine⟨trivial,hel.1,fun _=>⟨trivial, ?_⟩⟩;have hφ:φ (((neg',mag'),den'),((false,[]),[]),())=((neg',mag'),den'):=hel.2.1;rintro⟨r,_⟩ _ hr;simp only at hr⊢;have hr:r=KF (φ (((neg',mag'),den'),((false,[]),[]),())):=hr;rw[hφ]at hr⊢;refine⟨fun _=>⟨⟨?_, ?_⟩,⟨trivial, ?_⟩,by simp⟩,fun h=>absurd (hr▸of_decide_eq_false h) ?_⟩
    . have:=congrArg List.length h2;simp at this⊢;omega
    . have:=congrArg List.length h2;simp at this⊢;omega
    . rw[<-h2];simp
    . have:=hel.2.2;simpa using this
theorem BU (x:A2 Bh.args) (hw:awf Bh.args x) (hp:Bh.pre x):Sv x:=by
 simp only[Sv];exact⟨hp,fun r _ h=>h⟩
theorem cQ {x:CN} (h:x=ri 1\/x=ri (-1)):V4 x/\rc (rv x)=x/\KF x≠0:=by
 have key:∀k:Int,k.natAbs=1->V4 (ri k)/\rc (rv (ri k))=ri k/\KF (ri k)≠0:=fun k hk=>by
  refine⟨⟨?_, ?_⟩, ?_, ?_⟩
  . show nv (ic k).2< _;rw[A7u,hk];decide
  . rw[YV];decide
  . rw[jG,KA]
  . rw[A2r];intro h;rw[Int.sign_eq_zero_iff_zero]at h;omega
 rcases h with rfl|rfl<;>exact key _ rfl
theorem IE (x:A2 Bm.args) (hw:awf Bm.args x) (hp:Bm.pre x):Yy x:=by
 obtain⟨l,_⟩:=x;change List (Int×(Bool×List Int)×List Int)at l;obtain⟨hl,hn,he⟩:l.length<=20/\(l.map fun e:Int×(Bool×List Int)×List Int=>e.1).Nodup/\∀e∈l,e.2=ri 1\/e.2=ri (-1):=hp;simp only[Yy];refine⟨⟨hl,hn⟩, ?_⟩;rintro⟨r,_⟩ _ ⟨r1,r2⟩;simp only at r1 r2⊢;have hrl:=r1.length_eq;refine⟨fun y=>V4 y.1,fun y=>rc (rv y.1), ?_,⟨(by trivial),by omega,fun e h=> ?_⟩, ?_⟩
 . rintro⟨a,b,_⟩ _ ha;refine⟨ha, ?_⟩;rintro⟨z,_⟩ _ hz;exact⟨(by trivial),hz⟩
 . exact cQ (he e (r1.mem_iff.1 h))
 . rintro⟨z,_⟩ _ hz;simp only at hz⊢;subst hz;exact⟨r1,r2⟩
def ZT:An:= {loop:= [(2,⟨[0],[],[(3,false,[.val (.int .i64)])],[],[]⟩)]}
def WN:An:= {loop:= [(4,⟨[0,1],[],[(5,false,[.val (.int .i64)])],[],[]⟩)],plan:= [(6,[3,7],[],true, .done)]}
def FG:An:= {}
def LJ:A2 Mq.args->Prop:=fun(x:List Int×Unit)=>let f:=(1:Int);let c:=(x.1.length:Int);let a:=(0:Int);let g:=(Int.toNat a);∃(I:Int×Unit->Prop),∃(μ: _->Nat),I (c,())/\∀(p:Int×Unit),let e:=(Int.toNat p.1);let d:=(IntKind.i64.wrap (p.1-f),());let b:=(decide (gx a x.1 (IntKind.i64.wrap (p.1-f))=a));(Ty.int IntKind.i64).wf p.1/\True->I p->(decide (a<p.1)=true->a<=IntKind.i64.wrap (p.1-f)/\IntKind.i64.wrap (p.1-f)<c)/\(sel (decide (a<p.1)) b false=true->I d/\μ d<μ p)/\(sel (decide (a<p.1)) b false=false->(a<=a/\a<=p.1/\p.1<=c)/\(((0:Nat)+(List.drop g (List.take e x.1)).length)*(4:Nat)<=(140737488355328:Nat)/\(0:Nat)+(List.drop g (List.take e x.1)).length<=9223372036854775807)/\List.drop g (List.take e x.1)=nc (nv x.1))
def HT:A2 Ik.args->Prop:=fun(x:List Int×List Int×Unit)=>let f:Prop:=(x.1=x.2.1);let e:=(0:Int);let b:=(x.2.1.length:Int);let a:=(x.1.length:Int);(decide (a≠b)=true->false=decide f)/\(decide (a≠b)=false->∃(I:Int×Unit->Prop),∃(μ: _->Nat),I (e,())/\∀(p:Int×Unit),let d:=(IntKind.i64.wrap (p.1+1),());let c:Prop:=(gx e x.1 p.1≠gx e x.2.1 p.1);(Ty.int IntKind.i64).wf p.1/\True->I p->(decide (p.1<a)=true->(e<=p.1/\p.1<a)/\(e<=p.1/\p.1<b)/\(decide c=true->false=decide f)/\(decide c=false->I d/\μ d<μ p))/\(decide (p.1<a)=false->true=decide f))
def Pu:A2 Z7.args->Prop:=fun(x:Int×Unit)=>let a:=(Int.toNat (32:Int));(0:(Ty.int IntKind.u64).den)<=(32:Int)/\ [IntKind.u32.wrap x.1,IntKind.u32.wrap (Int.fdiv x.1 ((2:Int)^Min.min a IntKind.u64.bits))].length<=(4000000000:Nat)/\∀(r:List Int×Unit),ZO r.1/\True->r.1=nc (nv [IntKind.u32.wrap x.1,IntKind.u32.wrap (Int.fdiv x.1 ((2:Int)^Min.min a IntKind.u64.bits))])->r.1=nc x.1.toNat
theorem SA (x:A2 Mq.args) (hw:awf Mq.args x) (hp:Mq.pre x):LJ x:=by
 obtain⟨l,_⟩:=x;have hl:l.length<=4000000000:=hp;have hb:Ov l:=PO hw.1.2;change List Int at l;simp only[LJ];refine⟨fun p=>0<=p.1/\p.1<=(l.length:Int)/\∀i x,p.1.toNat<=i->l[i]? =some x->x=0,fun p=>p.1.toNat,⟨Int.natCast_nonneg _,Int.le_refl _,fun i x hi hx=> ?_⟩, ?_⟩
 . rw[List.getElem?_eq_none (by simpa using hi)]at hx;cases hx
 rintro⟨n,_⟩ _ ⟨h0,h1,h2⟩;change Int at n;simp only at h0 h1 h2⊢;refine⟨fun h=> ?_,fun h=> ?_,fun h=> ?_⟩
 . have h:=of_decide_eq_true h;rw[wr (by omega) (by omega)];exact⟨by omega,by omega⟩
 . rw[J5]at h;simp only[Bool.and_eq_true,decide_eq_true_eq]at h;obtain⟨h3,h4⟩:=h;rw[wr (by omega) (by omega)]at h4⊢;refine⟨⟨by omega,by omega,fun i x hi hx=> ?_⟩,by omega⟩;by_cases he:i=(n-1).toNat
   . subst he;rw[S5 (d:=(0:Int)) (by omega) (by omega)]at hx;cases hx;exact h4
   . exact h2 i x (by omega) hx
 . refine⟨⟨Int.le_refl _,h0,h1⟩, ?_⟩;have e:(l.take n.toNat).drop (Int.toNat 0)=l.take n.toNat:=rfl;rw[e];have hlen:(l.take n.toNat).length<=l.length:=by rw[List.length_take];omega
   refine⟨⟨by omega,by omega⟩,iT hb (by omega) h2 ?_⟩;rw[J5]at h;simp only[Bool.and_eq_false_iff,decide_eq_false_iff_not]at h;rcases h with h|h
   . exact .inl (by omega)
   . by_cases hn:n=0
     . exact .inl (by omega)
     . rw[wr (by omega) (by omega)]at h;refine .inr ⟨gx 0 l (n-1), ?_,h⟩;have:=S5 (d:=(0:Int)) (l:=l) (i:=n-1) (by omega) (by omega);rw[<-this];congr 1;omega
theorem NB (x:A2 Ik.args) (hw:awf Ik.args x) (_:Ik.pre x):HT x:=by
 obtain⟨a,b,_⟩:=x;have hl:a.length<=9223372036854775807:=hw.1.1;change List Int at a b;simp only[HT];refine⟨fun h=> ?_,fun h=> ?_⟩
 . have h:=of_decide_eq_true h;exact(decide_eq_false fun e=>h (by rw[e])).symm
 . have hlen:a.length=b.length:=by have:=of_decide_eq_false h;omega
   refine⟨fun p=>0<=p.1/\p.1<=(a.length:Int)/\a.take p.1.toNat=b.take p.1.toNat,fun p=>((a.length:Int)-p.1).toNat,⟨Int.le_refl _,Int.natCast_nonneg _,by simp⟩, ?_⟩;rintro⟨i,_⟩ _ ⟨h0,h1,h2⟩;change Int at i;simp only at h0 h1 h2⊢;refine⟨fun h=> ?_,fun h=> ?_⟩
   . have h:=of_decide_eq_true h;refine⟨⟨h0,h⟩,⟨h0,by omega⟩,fun he=> ?_,fun he=> ?_⟩
     . have he:=of_decide_eq_true he;exact(decide_eq_false fun e=>he (by rw[e])).symm
     . have he:gx 0 a i=gx 0 b i:=by simpa using he
       rw[wr (by omega) (by omega)];refine⟨⟨by omega,by omega, ?_⟩,by omega⟩;rw[show(i+1).toNat=i.toNat+1 from by omega,List.take_add_one,List.take_add_one,S5 (d:=(0:Int)) h0 h,S5 (d:=(0:Int)) h0 (by omega),h2,he]
   . have h:=of_decide_eq_false h;rw[G5 (by omega),G5 (by omega)]at h2;exact(decide_eq_true h2).symm
theorem Yp (x:A2 Z7.args) (hw:awf Z7.args x) (_:Z7.pre x):Pu x:=by
 obtain⟨v,_⟩:=x;change Int at v;have hv:IntKind.u64.min<=v/\v<=IntKind.u64.max:=hw.1;rw[jP,jO]at hv;simp only[Pu];refine⟨by decide,by simp, ?_⟩;rintro⟨r,_⟩ _ hr;simp only at hr⊢;rw[hr];congr 1;rw[show Min.min (Int.toNat 32) IntKind.u64.bits=32 from rfl];simp only[nv,jR];rw[Int.fdiv_eq_ediv_of_nonneg _ (by decide),show(2:Int)^32=4294967296 from rfl];omega
def ZU:An:= {}
def ZV:An:= {}
def WO:An:= {}
def OE:An:= {}
def ZW:An:= {}
def eC:An:= {}
def LK:A2 Mr.args->Prop:=fun(x:Bool×List Int×Unit)=>List.length x.2.1<=4000000000/\∀(r:List Int×Unit),ZO r.1/\True->r.1=nc (nv x.2.1)->(sel x.1 (decide ((0:Int)<(r.1.length:Int))) false,r.1)=ic (iv (x.1,x.2.1))
def LL:A2 Ms.args->Prop:=fun(x:(Bool×List Int)×Unit)=>VQ x.1.2/\∀(r:(Bool×List Int)×Unit),OB r.1/\True->r.1=ic (iv x.1)->r.1=ic (iv x.1)
def HU:A2 Il.args->Prop:=fun(x:(Bool×List Int)×(Bool×List Int)×Unit)=>((x.1.1==x.2.1.1)=true->True)/\∀(r:Bool×Unit),((x.1.1==x.2.1.1)=true->(True/\True)/\r.1=decide (x.1.2=x.2.1.2))->sel (x.1.1==x.2.1.1) r.1 false=decide (x.1=x.2.1)
def Yq:A2 Ei.args->Prop:=fun(x:Int×Unit)=>(decide (x.1<0)=true->True/\∀(r:List Int×Unit),ZO r.1/\True->r.1=nc (IntKind.u64.wrap (IntKind.u64.wrap (IntKind.i64.wrap (-IntKind.i64.wrap (x.1+1)))+(1:Int))).toNat->VQ r.1/\∀(a:(Bool×List Int)×Unit),OB a.1/\True->a.1=ic (iv (true,r.1))->a.1=ic x.1)/\(decide (x.1<0)=false->True/\∀(r:List Int×Unit),ZO r.1/\True->r.1=nc (IntKind.u64.wrap x.1).toNat->VQ r.1/\∀(a:(Bool×List Int)×Unit),OB a.1/\True->a.1=ic (iv (false,r.1))->a.1=ic x.1)
def LM:A2 Mt.args->Prop:=fun(x:(Bool×List Int)×Unit)=>let b:=(iv x.1);VQ x.1.2/\∀(r:(Bool×List Int)×Unit),let a:Prop:=((r.1.2.length:Int)=(0:Int));OB r.1/\True->r.1=ic b->(r.1.1=true->(-1:Int)=b.sign)/\(r.1.1=false->(decide a=true->(0:Int)=b.sign)/\(decide a=false->(1:Int)=b.sign))
def SC:A2 Rz.args->Prop:=fun(x:(Bool×List Int)×Unit)=>VQ x.1.2/\∀(r:(Bool×List Int)×Unit),OB r.1/\True->r.1=ic (iv (!x.1.1,x.1.2))->r.1=ic (-iv x.1)
theorem SB (x:A2 Mr.args) (hw:awf Mr.args x) (hp:Mr.pre x):LK x:=by
 obtain⟨b,l,_⟩:=x;change Bool at b;change List Int at l;have hl:l.length<=1000000000:=hp;simp only[LK];refine⟨by omega, ?_⟩;rintro⟨r,_⟩ _ hr;simp only at hr⊢;rw[A7f,hr,J5];have e:decide ((0:Int)<((nc (nv l)).length:Int))=decide (nv l≠0):=by
  rw[decide_eq_decide];constructor
  . intro h h0;rw[h0,Fo]at h;simp at h
  . intro h;have:(nc (nv l)).length≠0:=fun h1=>h (fI.1 (List.eq_nil_of_length_eq_zero h1))
    omega
 rw[e]
theorem SD (x:A2 Ms.args) (hw:awf Ms.args x) (hp:Ms.pre x):LL x:=by
 simp only[LL];exact⟨hp,fun r _ h=>h⟩
theorem NC (x:A2 Il.args) (hw:awf Il.args x) (hp:Il.pre x):HU x:=by
 obtain⟨⟨a,l⟩,⟨b,m⟩,_⟩:=x;change Bool at a b;change List Int at l m;simp only[HU];refine⟨fun _=>trivial, ?_⟩;rintro⟨r,_⟩ hr;simp only at hr⊢;by_cases h:a=b
 . subst h;have:=(hr (by simp)).2;rw[this];simp[sel]
 . have:(a==b)=false:=by simpa using h
   rw[this];simp[sel,h]
theorem HV (x:A2 Ei.args) (hw:awf Ei.args x) (_:Ei.pre x):Yq x:=by
 obtain⟨v,_⟩:=x;change Int at v;have hv:IntKind.i64.min<=v/\v<=IntKind.i64.max:=hw.1;rw[NM,XP]at hv;have hs:∀n:Nat,n<=9223372036854775808->VQ (nc n):=fun n hn=>by
  have:(nc n).length<=2:=QC (by omega);unfold VQ;omega
 simp only[Yq];refine⟨fun h=>⟨trivial, ?_⟩,fun h=>⟨trivial, ?_⟩⟩
 . have h:=of_decide_eq_true h;rintro⟨r,_⟩ _ hr;simp only at hr⊢;have e:(IntKind.u64.wrap (IntKind.u64.wrap (IntKind.i64.wrap (-IntKind.i64.wrap (v+1)))+1)).toNat=v.natAbs:=by
    rw[wr (a:=v+1) (by omega) (by omega),wr (by omega) (by omega),w64 (a:= -(v+1)) (by omega) (by omega),w64 (by omega) (by omega)];omega
   rw[e]at hr;subst hr;refine⟨hs _ (by omega), ?_⟩;rintro⟨s,_⟩ _ hs;simp only at hs⊢;rw[hs,A5b,Xf];congr 1;omega
 . have h:=of_decide_eq_false h;rintro⟨r,_⟩ _ hr;simp only at hr⊢;have e:(IntKind.u64.wrap v).toNat=v.natAbs:=by rw[Uw];omega
   rw[e]at hr;subst hr;refine⟨hs _ (by omega), ?_⟩;rintro⟨s,_⟩ _ hs;simp only at hs⊢;rw[hs,eZ,Xf];congr 1;omega
theorem SE (x:A2 Mt.args) (hw:awf Mt.args x) (hp:Mt.pre x):LM x:=by
 obtain⟨a,_⟩:=x;simp only[LM];refine⟨hp, ?_⟩;rintro⟨r,_⟩ _ hr;simp only at hr⊢;subst hr;generalize iv a=v;refine⟨fun h=> ?_,fun h=>⟨fun h2=> ?_,fun h2=> ?_⟩⟩
 . have h:v<0:=of_decide_eq_true h;exact(Int.sign_eq_neg_one_of_neg h).symm
 . have h2:=of_decide_eq_true h2;have:nc v.natAbs= []:=List.eq_nil_of_length_eq_zero (by show(ic v).2.length=0;omega);rw[fI]at this;rw[show v=0 from by omega];rfl
 . have h:¬v<0:=of_decide_eq_false h;have h2:=of_decide_eq_false h2;have:v≠0:=fun h0=>h2 (by rw[h0,iE];rfl)
   exact(Int.sign_eq_one_of_pos (by omega)).symm
theorem TK (x:A2 Rz.args) (hw:awf Rz.args x) (hp:Rz.pre x):SC x:=by
 obtain⟨⟨b,l⟩,_⟩:=x;simp only[SC];refine⟨hp, ?_⟩;rintro⟨r,_⟩ _ hr;simp only at hr⊢;rw[hr,A5c]
def ZX:An:= {join:= [(11,⟨[4,7,10],[2],[],[(5,119,[.val .bool, .val (.sl (.int .u32))]),(7,119,[.val .bool, .val (.sl (.int .u32))])],[]⟩)],plan:= [(5,[0,3],[5],true, .done),(10,[0,2],[4,5],true, .done)]}
def ZZ:An:= {}
def ZY:An:= {}
def WP:An:= {}
def IL:An:= {plan:= [(1,[0,1],[],true, .done)]}
def OF:An:= {}
def LN:A2 Mu.args->Prop:=fun(x:(Bool×List Int)×(Bool×List Int)×Unit)=>VQ x.2.1.2/\∀(r:Int×Unit),A7 r.1/\True->r.1=(iv x.2.1).sign->(decide (r.1=0)=true->True/\∀(r:QQ×Unit),eB r.1/\True->r.1=rc (0:Rat)->r.1=rc (ME x.1 x.2.1))/\(decide (r.1=0)=false->VQ x.2.1.2/\∀(r:(Bool×List Int)×Unit),OB r.1/\True->r.1=ic (iv x.2.1)->((!r.1.1)=true->True)/\∀(c:Bool×Unit),((!r.1.1)=true->(True/\True)/\c.1=decide (r.1.2= [(1:Int)]))->(sel (!r.1.1) c.1 false=true->VQ x.1.2/\∀(a:(Bool×List Int)×Unit),OB a.1/\True->a.1=ic (iv x.1)->(a.1,r.1.2)=rc (ME x.1 x.2.1))/\(sel (!r.1.1) c.1 false=false->False/\∀(r:(Bool×List Int)×Unit),OB r.1/\True->True->False/\∀(r:(Bool×List Int)×(Bool×List Int)×Bool×Unit),OB r.1/\OB r.2.1/\True/\True->True->False/\∀(a:(Bool×List Int)×(Bool×List Int)×Bool×Unit),OB a.1/\OB a.2.1/\True/\True->True->∃(J:Bool×List Int×Bool×List Int×Unit->Prop),((a.1.1=true->VQ r.1.2/\∀(b:(Bool×List Int)×Unit),OB b.1/\True->b.1=ic (-iv r.1)->VQ a.1.2/\∀(r:(Bool×List Int)×Unit),OB r.1/\True->r.1=ic (-iv a.1)->J (b.1.1,b.1.2,r.1.1,r.1.2,()))/\(a.1.1=false->J (r.1.1,r.1.2,a.1.1,a.1.2,())))/\∀(p:Bool×List Int×Bool×List Int×Unit),Ty.bool.wf p.1/\(Ty.int IntKind.u32).sl.wf p.2.1/\Ty.bool.wf p.2.2.1/\(Ty.int IntKind.u32).sl.wf p.2.2.2.1/\True->J p->((p.1,p.2.1),p.2.2.2.1)=rc (ME x.1 x.2.1)))
def LP:A2 Mx.args->Prop:=fun(x:Unit)=>((false,[]),[(1:Int)])=rc (0:Rat)
def LO:A2 Mw.args->Prop:=fun(x:QQ×Unit)=>let a:=(false,x.1.2);((iv a=(0:Int)\/iv a=(1:Int))/\sV2 x.1.1.2/\sV2 x.1.2)/\∀(r:QQ×Unit),eB r.1/\True->r.1=rc (ME x.1.1 a)->r.1=rc (rv x.1)
def HW:A2 Im.args->Prop:=fun(x:QQ×QQ×Unit)=>True/\∀(r:Bool×Unit),True/\True->r.1=decide (x.1.1=x.2.1.1)->(r.1=true->True)/\∀(a:Bool×Unit),(r.1=true->(True/\True)/\a.1=decide (x.1.2=x.2.1.2))->sel r.1 a.1 false=decide (x.1=x.2.1)
def Si:A2 Az.args->Prop:=fun(x:QQ×Unit)=>CK x.1/\∀(r:QQ×Unit),eB r.1/\True->r.1=rc (rv x.1)->True/\∀(a:Bool×Unit),True/\True->a.1=decide (x.1=r.1)->a.1=decide (x.1=rc (rv x.1))
def Yr:A2 Ej.args->Prop:=fun(x:Int×Unit)=>True/\∀(r:(Bool×List Int)×Unit),OB r.1/\True->r.1=ic x.1->True/\∀(a:(Bool×List Int)×Unit),OB a.1/\True->a.1=ic (1:Int)->((iv a.1=0\/iv a.1=1)/\sV2 r.1.2/\sV2 a.1.2)/\∀(b:QQ×Unit),eB b.1/\True->b.1=rc (ME r.1 a.1)->b.1=ri x.1
theorem SF (x:A2 Mu.args) (hw:awf Mu.args x) (hp:Mu.pre x):LN x:=by
 obtain⟨a,b,_⟩:=x;obtain⟨h01,p1,p2⟩:(iv b=0\/iv b=1)/\a.2.length<=100000000/\b.2.length<=100000000:=hp;have q1:VQ a.2:=by unfold VQ;omega
 have q2:VQ b.2:=by unfold VQ;omega
 simp only[LN];refine⟨q2, ?_⟩;rintro⟨r,_⟩ _ hr;simp only at hr⊢;refine⟨fun h=>⟨trivial, ?_⟩,fun h=>⟨q2, ?_⟩⟩
 . have h:=of_decide_eq_true h;rw[hr,Int.sign_eq_zero_iff_zero]at h;rintro⟨s,_⟩ _ hs;simp only at hs⊢;rw[hs,kJ h]
 . have h:=of_decide_eq_false h;have h1:iv b=1:=by
    rcases h01 with h0|h0
    . rw[h0]at hr;exact absurd hr h
    . exact h0
   rintro⟨s,_⟩ _ hs;simp only at hs⊢;rw[h1,oA]at hs;subst hs;refine⟨fun _=>trivial, ?_⟩;rintro⟨t,_⟩ ht;have ht:=(ht rfl).2;simp only at ht;have ht:t=true:=by rw[ht];simp
   refine⟨fun _=>⟨q1, ?_⟩,fun h=> ?_⟩
   . rintro⟨u,_⟩ _ hu;simp only at hu⊢;rw[hu,aL h1,KA];rfl
   . simp only[ht,sel]at h;cases h
theorem SH (x:A2 Mx.args) (hw:awf Mx.args x) (_:Mx.pre x):LP x:=by
 simp only[LP];exact A2o.symm
theorem SG (x:A2 Mw.args) (hw:awf Mw.args x) (hp:Mw.pre x):LO x:=by
 obtain⟨a,_⟩:=x;obtain⟨⟨p1,p2⟩,p3⟩:(a.1.2.length<=1000000/\a.2.length<=1000000)/\nv a.2<=1:=hp;simp only[LO];refine⟨⟨?_,by unfold sV2;omega,by unfold sV2;omega⟩, ?_⟩
 . rw[eZ];omega
 . rintro⟨r,_⟩ _ hr;simp only at hr⊢;rw[hr,A2s]
theorem ND (x:A2 Im.args) (hw:awf Im.args x) (hp:Im.pre x):HW x:=by
 obtain⟨⟨a,l⟩,⟨b,m⟩,_⟩:=x;simp only[HW];refine⟨trivial, ?_⟩;rintro⟨r,_⟩ _ hr;refine⟨fun _=>trivial, ?_⟩;rintro⟨s,_⟩ hs;simp only at hr hs⊢;by_cases h:a=b
 . subst h;have hr:r=true:=by rw[hr];simp
   have:=(hs hr).2;rw[this,hr];simp[sel]
 . have hr:r=false:=by rw[hr];simp[h]
   rw[hr];simp[sel,h]
theorem BK (x:A2 Az.args) (hw:awf Az.args x) (hp:Az.pre x):Si x:=by
 obtain⟨a,_⟩:=x;simp only[Si];refine⟨hp, ?_⟩;rintro⟨r,_⟩ _ hr;refine⟨trivial, ?_⟩;rintro⟨s,_⟩ _ hs;simp only at hr hs⊢;rw[hs,hr]
theorem HX (x:A2 Ej.args) (hw:awf Ej.args x) (_:Ej.pre x):Yr x:=by
 obtain⟨v,_⟩:=x;change Int at v;have hv:IntKind.i64.min<=v/\v<=IntKind.i64.max:=hw.1;rw[NM,XP]at hv;simp only[Yr];refine⟨trivial, ?_⟩;rintro⟨r,_⟩ _ hr;refine⟨trivial, ?_⟩;rintro⟨s,_⟩ _ hs;simp only at hr hs⊢;subst hr hs;have h2:(ic v).2.length<=2:=by rw[A4w];exact QC (by omega)
 refine⟨⟨.inr (bK 1),by unfold sV2;omega,by rw[oA];show 1<= _;decide⟩, ?_⟩;rintro⟨t,_⟩ _ ht;simp only at ht⊢;rw[ht,aL (bK 1),bK,KA]
def IM:An:= {loop:= [(4,⟨[0,1],[],[(5,false,[.val (.int .i64)])],[],[]⟩)],plan:= [(6,[4,9,16,25,30],[],false, .done)]}
def Sj:A2 Ba.args->Prop:=fun(x:List EE×List EE×Unit)=>let i:=(0:Int);let d:=(x.2.1.length:Int);let c:=(x.1.length:Int);let b:Prop:=(x.1=x.2.1/\∀(e:Int×(Bool×List Int)×List Int),e∈x.1->e.2=rc (rv e.2));(decide (c≠d)=true->false=decide b)/\(decide (c≠d)=false->∃(I:Int×Unit->Prop),∃(μ: _->Nat),I (i,())/\∀(p:Int×Unit),let j:=(gx AQ x.2.1 p.1);let h:=(IntKind.i64.wrap (p.1+1),());let f:=(gx AQ x.1 p.1);let a:Prop:=(f.1≠j.1);let g:=(decide a);(Ty.int IntKind.i64).wf p.1/\True->I p->(decide (p.1<c)=true->(i<=p.1/\p.1<c)/\(i<=p.1/\p.1<d)/\(decide a=false->i<=p.1/\p.1<c)/\(decide a=false->CK f.2)/\∀(r:Bool×Unit),(decide a=false->(True/\True)/\r.1=decide (f.2=rc (rv f.2)))->((sel g true !r.1)=false->i<=p.1/\p.1<c)/\((sel g true !r.1)=false->i<=p.1/\p.1<d)/\((sel g true !r.1)=false->True)/\∀(k:Bool×Unit),((sel g true !r.1)=false->(True/\True)/\k.1=decide (f.2=j.2))->((sel (sel g true !r.1) true !k.1)=true->false=decide b)/\((sel (sel g true !r.1) true !k.1)=false->I h/\μ h<μ p))/\(decide (p.1<c)=false->true=decide b))
theorem BL (x:A2 Ba.args) (hw:awf Ba.args x) (hp:Ba.pre x):Sj x:=by
 obtain⟨a,b,_⟩:=x;have hl:a.length<=9223372036854775807:=hw.1.1;change List (Int×(Bool×List Int)×List Int)at a b;have hwh:∀e∈a,CK e.2:=hp;simp only[Sj];refine⟨fun h=> ?_,fun h=> ?_⟩
 . have h:=of_decide_eq_true h;exact(decide_eq_false fun e=>h (by rw[e.1])).symm
 . have hlen:a.length=b.length:=by have:=of_decide_eq_false h;omega
   refine⟨fun p=>0<=p.1/\p.1<=(a.length:Int)/\a.take p.1.toNat=b.take p.1.toNat/\∀e∈a.take p.1.toNat,e.2=rc (rv e.2),fun p=>((a.length:Int)-p.1).toNat,⟨Int.le_refl _,Int.natCast_nonneg _,by simp,by simp⟩, ?_⟩;rintro⟨i,_⟩ _ ⟨h0,h1,h2,h3⟩;change Int at i;simp only at h0 h1 h2 h3⊢;refine⟨fun h=> ?_,fun h=> ?_⟩
   . have h:=of_decide_eq_true h;have ma:=S6 (d:=AQ) h0 h;have ga:=S5 (d:=AQ) h0 h;have gb:=S5 (d:=AQ) (l:=b) h0 (by omega);have hta:a.take (i+1).toNat=a.take i.toNat++ [gx AQ a i]:=by
      rw[show(i+1).toNat=i.toNat+1 from by omega,List.take_add_one,ga];rfl
     have htb:b.take (i+1).toNat=b.take i.toNat++ [gx AQ b i]:=by
      rw[show(i+1).toNat=i.toNat+1 from by omega,List.take_add_one,gb];rfl
     generalize gx AQ a i=e at*;generalize gx AQ b i=f at*;obtain⟨ei,ev⟩:=e;obtain⟨fi,fv⟩:=f;simp only at ma ga gb hta htb⊢;refine⟨⟨h0,h⟩,⟨h0,by omega⟩,fun _=>⟨h0,h⟩,fun _=>hwh _ ma, ?_⟩;rintro⟨r,_⟩ hr;refine⟨fun _=>⟨h0,h⟩,fun _=>⟨h0,by omega⟩,fun _=>trivial, ?_⟩;rintro⟨s,_⟩ hs;change Bool at r s;simp only at hr hs⊢;rw[Q9]at hs;rw[Q9,Q9];have key:(decide (ei≠fi) || !r|| !s)=false↔ei=fi/\ev=rc (rv ev)/\ev=fv:=by
      by_cases hi:ei=fi
      . have hr:=(hr (by simp[hi])).2;by_cases hc:ev=rc (rv ev)
        . have hr:r=true:=by rw[hr];exact decide_eq_true hc
          have hs:=(hs (by simp[hi,hr])).2;rw[hs,hr];simp[hi, <-hc]
        . have hr:r=false:=by rw[hr];exact decide_eq_false hc
          rw[hr];simp[hc]
      . simp[hi]
     refine⟨fun hb=> ?_,fun hb=> ?_⟩
     . refine(decide_eq_false fun hall=> ?_).symm;obtain⟨hab,hcan⟩:=hall;subst hab;rw[ga]at gb;have gb:=Option.some.inj gb;rw[Prod.mk.injEq]at gb;have:=key.2 ⟨gb.1,hcan _ ma,gb.2⟩;rw[this]at hb;cases hb
     . obtain⟨k1,k2,k3⟩:=key.1 hb;rw[wr (by omega) (by omega)];refine⟨⟨by omega,by omega, ?_, ?_⟩,by omega⟩
       . rw[hta,htb,h2,k1,k3]
       . rw[hta];intro y hy;rcases List.mem_append.1 hy with hy|hy
         . exact h3 y hy
         . rw[List.mem_singleton.1 hy];exact k2
   . have h:=of_decide_eq_false h;rw[G5 (by omega),G5 (by omega)]at h2;rw[G5 (by omega)]at h3;exact(decide_eq_true ⟨h2,h3⟩).symm
noncomputable def Xt:F3:= [(100,L9)]
def Wh:An:= {join:= [(3,⟨[0,3],[0,2,4,5],[(6,false,[.val (.int .i64)])],[],[]⟩)],plan:= [(3,[0],[6,7],false, .done)]}
noncomputable def Xu:F3:= [(100,L9)]
def Wi:An:= {join:= [(3,⟨[0,3],[0,2,4,5],[(6,false,[.val (.int .i64)])],[],[]⟩)],plan:= [(3,[0],[6,7],false, .done)]}
def IT:An:= {loop:= [(13,⟨[2,4,14,15,56,57],[0],[(58,false,[.val (.int .i64)])],[],[(2, .row (.int .i64) 3)]⟩),(20,⟨[14,15,18,19],[0,2],[(20,false,[.val (.int .i64)]),(21,false,[.val (.int .i64)])],[(4,113,[.own (.pair (.int .i64) (.pair (.pair .bool (.sl (.int .u32))) (.sl (.int .u32)))) 124])],[]⟩)],plan:= [(19,[0,4,5,9],[],true, .done),(21,[3,7],[],true, .done),(24,[5,10],[11],false, .done)]}
noncomputable def KH:F3:= [(90,P4),(94,Q8),(95,P5),(97,F1),(100,L9),(102,Bm),(101,V8 (Jw ⟨Tryz.prog,tys⟩ [(102,Xt,Wh),(119,Xu,Wi)] Tryz.f101.results.toList (Tryz.f101.body.getD .skip) Tryz.f101.ntmps))]
def Sr:A2 Bg.args->Prop:=fun(x:Int×List (Int×Int)×Int×Unit)=>let D:=(140737488355328:Nat);let w:=(1:Int);let q:=(x.2.1.length:Int);let l:=(0:Int);let A:=(decide (x.2.2.1<l));let z:=(gx (l,l) x.2.1 x.2.2.1);let k:Prop:=(q<=x.2.2.1);let h:Prop:=(l<=x.2.2.1/\x.2.2.1<q);let b:Prop:=(l<=w/\w<(↑(2:Nat):Int));let a:Prop:=(l<=l/\l<(↑(2:Nat):Int));True/\∀(r:Int×Unit),A7 r.1/\True->r.1=M6 x.1 x.2.1->(decide (r.1≠l)=true->(M6 x.1 x.2.1≠l->Jk EE= []/\r.1=M6 x.1 x.2.1)/\(M6 x.1 x.2.1=l->Jk EE=Lz x.1 x.2.1 x.2.2.1/\r.1=Rl x.1 x.2.1 x.2.2.1))/\(decide (r.1≠l)=false->(sel A true (decide k)=true->(M6 x.1 x.2.1≠l->Jk EE= []/\(12:Int)=M6 x.1 x.2.1)/\(M6 x.1 x.2.1=l->Jk EE=Lz x.1 x.2.1 x.2.2.1/\(12:Int)=Rl x.1 x.2.1 x.2.2.1))/\(sel A true (decide k)=false->F2 x.1 x.2.1/\∀(H:List Int×List (List (Int×Int))×Unit),Cg H.1/\(List.length H.2.1<=9223372036854775807/\∀(x:List (Int×Int)),x∈H.2.1->x.length<=9223372036854775807/\∀(L:Int×Int),L∈x->A7 L.1/\A7 L.2)/\True->H.1=B8 x.1 x.2.1/\H.2.1=Y1 x.1 x.2.1->(List.Pairwise (fun(x1 x2:Int)=>x1<x2) H.1/\List.length H.1<=100000)/\∀(K:Int×Bool×Unit),A7 K.1/\True/\True->K.2.1=decide (x.2.2.1∈H.1)->(K.2.1=true->(M6 x.1 x.2.1≠l->Jk EE= []/\(20:Int)=M6 x.1 x.2.1)/\(M6 x.1 x.2.1=l->Jk EE=Lz x.1 x.2.1 x.2.2.1/\(20:Int)=Rl x.1 x.2.1 x.2.2.1))/\(K.2.1=false->(∃(n:Int),∃(ls:List Ln),F2 n ls/\H.2.1=Y1 n ls)/\∀(G:List Int×List (Int×Int)×Unit),let y:=(G.2.1.length:Int);Cg G.1/\(List.length G.2.1<=9223372036854775807/\∀(x:Int×Int),x∈G.2.1->A7 x.1/\A7 x.2)/\True->(∀(n:Int) (ls:List Ln),F2 n ls->H.2.1=Y1 n ls->KC n ls G.1 G.2.1)->(l<=x.1/\x.1<=x.1/\(↑(8:Nat):Int)*x.1<=281474976710656/\x.1<=9223372036854775807)/\∃(I:Int×List Int×Unit->Prop),∃(μ: _->Nat),I (l,List.replicate (Int.toNat x.1) l,())/\∀(p:Int×List Int×Unit),let t:=(p.2.1.length:Int);let s:=(IntKind.i64.wrap (p.1+w),List.set p.2.1 (gx l G.1 p.1).toNat p.1,());let i:Prop:=(p.1<(G.1.length:Int));(Ty.int IntKind.i64).wf p.1/\Cg p.2.1/\True->I p->(decide i=true->(l<=p.1/\i)/\(l<=gx l G.1 p.1/\gx l G.1 p.1<t)/\I s/\μ s<μ p)/\(decide i=false->True/\∀(M:QQ×Unit),eB M.1/\True->M.1=ri w->h/\b/\h/\a/\∃(I:Int×Int×List EE×Unit->Prop),∃(μ: _->Nat),I (z.2,z.1,[(x.2.2.1,M.1)],())/\∀(F:Int×Int×List EE×Unit),let o:=(gx (l,l) G.2.1 F.1);let m:=(gx (l,l) G.2.1 F.2.1);let j:Prop:=(l<=F.1/\F.1<y);let g:Prop:=((gx (l,l) x.2.1 o.1).1=F.1);let f:Prop:=(List.getD p.2.1 (Int.toNat F.2.1) l<List.getD p.2.1 (Int.toNat F.1) l);let d:Prop:=((gx (l,l) x.2.1 m.1).1=m.2);let c:Prop:=(l<=F.2.1/\F.2.1<y);(Ty.int IntKind.i64).wf F.1/\(Ty.int IntKind.i64).wf F.2.1/\((Ty.int IntKind.i64).pair ((Ty.bool.pair (Ty.int IntKind.u32).sl).pair (Ty.int IntKind.u32).sl)).sl.wf F.2.2.1/\True->I F->(decide (F.1≠F.2.1)=true->(l<=F.1/\F.1<t)/\(l<=F.2.1/\F.2.1<t)/\(decide f=true->j/\a/\∃(J:Int×Unit->Prop),((l<=o.1/\o.1<q)/\a/\(decide g=true->J (w,()))/\(decide g=false->J ((-1:Int),())))/\∀(p:Int×Unit),(Ty.int IntKind.i64).wf p.1/\True->J p->True/\∀(r:QQ×Unit),let B:=(o.1,r.1);let u:=(o.2,F.2.1,F.2.2.1++ [B],());eB r.1/\True->r.1=ri p.1->((F.2.2.1.length+ [B].length)*(64:Nat)<=D/\F.2.2.1.length+ [B].length<=9223372036854775807)/\j/\b/\I u/\μ u<μ F)/\(decide f=false->c/\a/\c/\b/\∃(J:Int×Unit->Prop),((l<=m.1/\m.1<q)/\a/\(decide d=true->J (w,()))/\(decide d=false->J ((-1:Int),())))/\∀(p:Int×Unit),(Ty.int IntKind.i64).wf p.1/\True->J p->True/\∀(r:QQ×Unit),let C:=(m.1,r.1);let v:=(F.1,m.2,F.2.2.1++ [C],());eB r.1/\True->r.1=ri p.1->((F.2.2.1.length+ [C].length)*(64:Nat)<=D/\F.2.2.1.length+ [C].length<=9223372036854775807)/\c/\b/\I v/\μ v<μ F))/\(decide (F.1≠F.2.1)=false->(F.2.2.1.length<=(20:Nat)/\(List.map (fun(x:Int×(Bool×List Int)×List Int)=>x.1) F.2.2.1).Nodup/\∀(e:Int×(Bool×List Int)×List Int),e∈F.2.2.1->e.2=ri w\/e.2=ri (-1:Int))/\∀(r:List EE×Unit),LX r.1/\True->r.1.Perm F.2.2.1/\Ko r.1->(M6 x.1 x.2.1≠l->r.1= []/\l=M6 x.1 x.2.1)/\(M6 x.1 x.2.1=l->r.1=Lz x.1 x.2.1 x.2.2.1/\l=Rl x.1 x.2.1 x.2.2.1))))))
theorem lA {n:Int} {ls:List Ln} {line:Int} (h:line<0\/(ls.length:Int)<=line):Lz n ls line= []/\Rl n ls line=12:=by
 unfold Lz Rl;rw[if_neg (by omega),if_neg (by omega)];exact⟨rfl,rfl⟩
theorem YB {n:Int} {ls:List Ln} {line:Int} (h0:0<=line) (h1:line<(ls.length:Int)) (h:line∈B8 n ls):Lz n ls line= []/\Rl n ls line=20:=by
 unfold Lz Rl;rw[if_pos ⟨h0,h1⟩,if_pos h,if_pos ⟨h0,h1⟩,if_pos h];exact⟨rfl,rfl⟩
theorem fF {n:Int} {ls:List Ln} {line:Int} (h0:0<=line) (h1:line<(ls.length:Int)) (h:line∉B8 n ls):Lz n ls line=Ib n ls line/\Rl n ls line=0:=by
 unfold Lz Rl;rw[if_pos ⟨h0,h1⟩,if_neg h,if_pos ⟨h0,h1⟩,if_neg h];exact⟨rfl,rfl⟩
theorem BR (x:A2 Bg.args) (hw:awf Bg.args x) (hp:Bg.pre x):Sr x:=by
 obtain⟨n,ls,line,_⟩:=x;change Int at n line;change List (Int×Int)at ls;have hl:ls.length<=20:=hp;simp only[Sr];refine⟨trivial, ?_⟩;rintro⟨e,_⟩ _ he;simp only at he⊢;subst he;refine⟨fun h=> ?_,fun h=> ?_⟩
 . have h:=of_decide_eq_true h;exact⟨fun _=>⟨by trivial,by trivial⟩,fun h'=>absurd h' h⟩
 have h:M6 n ls=0:=by simpa using h
 have hok:=NR.1 h;obtain⟨n0,n1,nb⟩:=id hok;refine⟨fun hr=> ?_,fun hr=> ?_⟩
 . rw[Q9]at hr;simp only[Bool.or_eq_true,decide_eq_true_eq]at hr;obtain⟨e1,e2⟩:=lA (n:=n) hr;exact⟨fun h'=>absurd h h',fun _=>⟨e1.symm,e2.symm⟩⟩
 rw[Q9]at hr;simp only[Bool.or_eq_false_iff,decide_eq_false_iff_not]at hr;have l0:0<=line:=by omega
 have l1:line<(ls.length:Int):=by omega
 refine⟨hok, ?_⟩;rintro⟨F,N,_⟩ _ ⟨hF,hN⟩;simp only at hF hN⊢;subst hF hN;have hfl:(B8 n ls).length<=16384:=Zm hok (k:=ls.length) (Nat.le_refl _);refine⟨⟨Hr n ls,by omega⟩, ?_⟩;rintro⟨at',inn,_⟩ _ hin;simp only at hin⊢;subst hin;refine⟨fun hin=> ?_,fun hin=> ?_⟩
 . obtain⟨e1,e2⟩:=YB l0 l1 (of_decide_eq_true hin);exact⟨fun h'=>absurd h h',fun _=>⟨e1.symm,e2.symm⟩⟩
 have hnf:=of_decide_eq_false hin;refine⟨⟨n,ls,hok,rfl⟩, ?_⟩;rintro⟨ord,up,_⟩ _ hR;simp only at hR⊢;have hR:=hR n ls hok rfl;have hol:=hR.len;have hul:=hR.ulen;change List Int at ord;change List (Int×Int)at up;refine⟨⟨n0,Int.le_refl _,by omega,by omega⟩,fun p=>0<=p.1/\p.1<=(ord.length:Int)/\p.2.1.length=n.toNat/\∀(j:Nat) (b:Int),(j:Int)<p.1->ord[j]? =some b->A6 p.2.1 b=(j:Int),fun p=>((ord.length:Int)-p.1).toNat,⟨Int.le_refl _,Int.natCast_nonneg _,by simp,fun j b hj=>(by have hj:(j:Int)<0:=hj;omega)⟩, ?_⟩;rintro⟨i,pl,_⟩ _ ⟨h0,h1,h2,h3⟩;change Int at i;change List Int at pl;simp only at h0 h1 h2 h3⊢;refine⟨fun hi=> ?_,fun hi=> ?_⟩
 . have hi:=of_decide_eq_true hi;have hg:=S5 (d:=(0:Int)) (l:=ord) h0 hi;have b0:=(hR.at' _ _ hg).1;have b1:=(hR.at' _ _ hg).2.1;have hnd:=hR.nod;generalize gx 0 ord i=b at*;rw[wr (by omega) (by omega)];refine⟨⟨h0,hi⟩,⟨b0,by omega⟩,⟨by omega,by omega,by rw[List.length_set];exact h2,fun j c hj hc=> ?_⟩,by omega⟩;have c0:=(hR.at' _ _ hc).1;have c1:=(hR.at' _ _ hc).2.1;rw[M3 (by omega)];by_cases hcb:c.toNat=b.toNat
   . rw[if_pos hcb];have hcb:c=b:=by omega
     subst hcb;have hj2:j<ord.length:=by omega
     have:j=i.toNat:=(List.getElem?_inj hj2 hnd).1 (hc.trans hg.symm);omega
   . rw[if_neg hcb];refine h3 j c ?_ hc;have:j≠i.toNat:=fun hji=>hcb (by rw[hji]at hc;rw[hg]at hc;rw[Option.some.inj hc])
     omega
 have hi:=of_decide_eq_false hi;have hplc:dU n ls up pl:=A5v hok hR fun j b hj=>by
  have hjl:j<ord.length:=by
   rcases Nat.lt_or_ge j ord.length with h|h
   . exact h
   . rw[List.getElem?_eq_none h]at hj;cases hj
  exact h3 j b (by omega) hj
 refine⟨trivial, ?_⟩;rintro⟨one,_⟩ _ hone;simp only at hone⊢;subst hone;have hln:gx (0,0) ls line=Ht ls line:=E7 l0 l1;have hst:=ZK.start (up:=up) (pl:=pl) hok l0 l1;refine⟨⟨l0,l1⟩,⟨by decide,by decide⟩,⟨l0,l1⟩,⟨by decide,by decide⟩,fun p=>ZK n ls up pl line p.1 p.2.1 p.2.2.1,fun p=>(A6 pl p.1+A6 pl p.2.1).toNat,by rw[hln];exact hst, ?_⟩;rintro⟨a,b,out,_⟩ _ hC;change Int at a b;simp only at hC⊢;have hlen:=hC.len hok l0 l1 hnf;obtain⟨a0,a1,b0,b1,hlab,_⟩:=id hC;have hua:∀v:Int,0<=v->v<n->gx (0,0) up v=M1 up v:=fun v v0 v1=>E7 v0 (by omega)
 have hla:∀v:Int,pl.getD v.toNat 0=A6 pl v:=fun v=>rfl
 refine⟨fun hab=> ?_,fun hab=> ?_⟩
 . have hab:=of_decide_eq_true hab;refine⟨⟨a0,by omega⟩,⟨b0,by omega⟩,fun hlt=> ?_,fun hlt=> ?_⟩
   . have hlt:A6 pl b<A6 pl a:=of_decide_eq_true hlt;have hnew:=hC.left hok hplc hlt;obtain⟨c1,c2,c3,c4,c5,c6⟩:=hplc.climb hok a0 a1 b0 b1 hlab hlt;have hm:=K8 c1;have hp1:=(hplc.at' a a0 a1).1;have hp2:=(hplc.at' _ c4 c5).1;have hp3:=(hplc.at' b b0 b1).1;rw[hua a a0 a1];have hle:gx (0,0) ls (M1 up a).1=Ht ls (M1 up a).1:=E7 hm.1 hm.2;rw[hle];refine⟨⟨a0,by omega⟩,⟨by decide,by decide⟩,fun p=>p.1=Xs ls (M1 up a).1 a,⟨hm,⟨by decide,by decide⟩,fun hs=> ?_,fun hs=> ?_⟩, ?_⟩
     . show(1:Int)= _;unfold Xs;rw[if_pos (of_decide_eq_true hs)]
     . show(-1:Int)= _;unfold Xs;rw[if_neg (of_decide_eq_false hs)]
     rintro⟨s,_⟩ _ hs;simp only at hs⊢;refine⟨trivial, ?_⟩;rintro⟨r,_⟩ _ hr;simp only at hr⊢;subst hr;rw[hs];exact⟨⟨by simp only[List.length_singleton];omega,by simp only[List.length_singleton];omega⟩,⟨a0,by omega⟩,⟨by decide,by decide⟩,hnew,by omega⟩
   . have hlt:¬A6 pl b<A6 pl a:=of_decide_eq_false hlt;have hlt:A6 pl a<A6 pl b:=by
      have:A6 pl a≠A6 pl b:=fun h=>hab (hplc.inj a b a0 a1 b0 b1 h)
      omega
     have hnew:=hC.right hok hplc hlt;obtain⟨c1,c2,c3,c4,c5,c6⟩:=hplc.climb hok b0 b1 a0 a1 hlab.symm hlt;have hm:=K8 c1;have hp1:=(hplc.at' b b0 b1).1;have hp2:=(hplc.at' _ c4 c5).1;have hp3:=(hplc.at' a a0 a1).1;rw[hua b b0 b1];have hle:gx (0,0) ls (M1 up b).1=Ht ls (M1 up b).1:=E7 hm.1 hm.2;rw[hle];refine⟨⟨b0,by omega⟩,⟨by decide,by decide⟩,⟨b0,by omega⟩,⟨by decide,by decide⟩,fun p=>p.1=Xs ls (M1 up b).1 (M1 up b).2,⟨hm,⟨by decide,by decide⟩,fun hs=> ?_,fun hs=> ?_⟩, ?_⟩
     . show(1:Int)= _;unfold Xs;rw[if_pos (of_decide_eq_true hs)]
     . show(-1:Int)= _;unfold Xs;rw[if_neg (of_decide_eq_false hs)]
     rintro⟨s,_⟩ _ hs;simp only at hs⊢;refine⟨trivial, ?_⟩;rintro⟨r,_⟩ _ hr;simp only at hr⊢;subst hr;rw[hs];exact⟨⟨by simp only[List.length_singleton];omega,by simp only[List.length_singleton];omega⟩,⟨b0,by omega⟩,⟨by decide,by decide⟩,hnew,by omega⟩
 . have hab:a=b:=by simpa using hab
   subst hab;obtain⟨d1,d2,d3⟩:=hC.done hok l0 l1 hnf;refine⟨⟨by omega,d2,d3⟩, ?_⟩;rintro⟨r,_⟩ _ ⟨r1,r2⟩;simp only at r1 r2⊢;obtain⟨e1,e2⟩:=fF (n:=n) l0 l1 hnf;exact⟨fun h'=>absurd h h',fun _=>⟨by rw[e1];exact A1k r2 (PV n ls line) (r1.trans d1),e2.symm⟩⟩
abbrev mP:List Ln:= [(0,1),(1,2),(0,2)]
theorem A0q:Lz 3 mP 2= [(0,ri (-1)),(1,ri (-1)),(2,ri 1)]:=by
 have e1:Lz 3 mP 2=Ib 3 mP 2:=by
  unfold Lz;rw[if_pos (by decide),if_neg (by decide)]
 have c0:Ow 3 mP 2 0= -1:=by decide
 have c1:Ow 3 mP 2 1= -1:=by decide
 have c2:Ow 3 mP 2 2=1:=by decide
 rw[e1];unfold Ib;have er:List.range mP.length= [0,1,2]:=by decide
 rw[er];simp[c0,c1,c2]
theorem HP (x:A2 Eg.args) (hw:awf Eg.args x) (_:Eg.pre x):Yi x:=by
 have n1:M6 3 mP=0:=by decide
 have e2:(mP.take (Int.toNat 2)).drop (Int.toNat 0)= [(0,1),(1,2)]:=rfl;have n2:M6 3 [(0,1),(1,2)]=0:=by decide
 have l1:D1 3 mP= [0,0,0]:=by decide
 have f1:B8 3 mP= [0,1]:=by decide
 have b1:Eb 3 [(0,1),(1,2)]= [0,1]:=by decide
 have p1:Rl 3 mP 2=0:=by decide
 simp only[Yi,e2,n1,n2,l1,f1,b1,p1,A0q,if_true];refine⟨trivial, ?_⟩;rintro⟨a,e,_⟩ _ ⟨ha,he⟩;refine⟨trivial, ?_⟩;rintro⟨b,f,_⟩ _ ⟨hb,hf⟩;refine⟨⟨by decide,by decide,by decide⟩,by decide, ?_⟩;rintro⟨c,g,_⟩ _ ⟨_,hc⟩;obtain⟨hc,hg⟩:=hc trivial;refine⟨by decide, ?_⟩;rintro⟨v,h,_⟩ _ ⟨_,hv⟩;obtain⟨hv,hh⟩:=hv trivial;simp only at ha he hb hf hc hg hv hh⊢;subst ha he hb hf hc hg hv hh;refine⟨fun _=>trivial, ?_⟩;rintro⟨r4,_⟩ h4;have h4:=(h4 rfl).2;simp only at h4;have h4:r4=true:=by rw[h4];rfl
 subst h4;refine⟨fun _=>trivial, ?_⟩;rintro⟨r5,_⟩ h5;have h5:=(h5 rfl).2;simp only at h5;have h5:r5=true:=by rw[h5];rfl
 subst h5;refine⟨fun _=>trivial, ?_⟩;rintro⟨r6,_⟩ h6;have h6:=(h6 rfl).2;simp only at h6;have h6:r6=true:=by rw[h6];rfl
 subst h6;refine⟨fun _=>trivial, ?_⟩;rintro⟨r7,_⟩ h7;have h7:=(h7 rfl).2;simp only at h7;subst h7;refine⟨fun _=>trivial, ?_⟩;rintro⟨r8,_⟩ h8;have h8:=(h8 rfl).2;simp only at h8;subst h8;refine⟨fun _=>trivial, ?_⟩;rintro⟨r9,_⟩ h9;have h9:=(h9 rfl).2;simp only at h9;subst h9;have hwh:∀e∈ [((0:Int),ri (-1)),(1,ri (-1)),(2,ri 1)],CK e.2/\e.2=rc (rv e.2):=fun e he=>by
  rcases List.mem_cons.1 he with rfl|he
  . exact⟨SK (by decide),by rw[jG,KA]⟩
  . rcases List.mem_cons.1 he with rfl|he
    . exact⟨SK (by decide),by rw[jG,KA]⟩
    . rw[List.mem_singleton.1 he];exact⟨SK (by decide),by rw[jG,KA]⟩
 refine⟨fun _ e he=>(hwh e he).1, ?_⟩;rintro⟨r10,_⟩ h10;have h10:=(h10 rfl).2;simp only at h10;have h10:r10=true:=by
  rw[h10];exact decide_eq_true ⟨by trivial,fun e he=>(hwh e he).2⟩
 subst h10;rfl
theorem O1 {P:Program} {tys:List (Nat×TI)} {sp:F3} {f:FuncId} {fn:Func} {s:A8} {vc:A2 s.args->Prop} (an:An) (hf:P.funcs[f]? =some fn) (hv:∀x,awf s.args x->s.pre x->vc x) (hty:G9 P tys=true) (hsp:Ll P sp) (he:∀x,A7w P tys sp an s fn x=vc x:=by intro x;kernel_rfl) (hb:fn.body.isSome=true:=by kernel_rfl) (hn:Nat.ble s.args.length fn.ntmps=true:=by kernel_rfl) (hok:V3 fn.ntmps (fn.body.getD .skip)=true:=by kernel_rfl):B6 P f s:=
 oY hf hb hn hok hty hsp he hv
theorem DZ:B6 Tryz.prog 41 Sa:=O1 eD Tryz.func41 TL A3 (A1)
theorem JR:B6 Tryz.prog 52 Bb:=O1 IN Tryz.func52 BM A3 (A0 DZ (A1))
theorem GN:B6 Tryz.prog 19 Iq:=O1 WS Tryz.func19 NG A3 (A0 JR (A1))
theorem F6:B6 Tryz.prog 34 U5:=O1 AI Tryz.func34 Uo A3 (A1)
theorem L6:B6 Tryz.prog 35 El:=O1 OH Tryz.func35 IC A3 (A1)
theorem Bo:B6 Tryz.prog 33 Q1:=O1 Vi Tryz.func33 Qr A3 (A0 F6 (A0 L6 (A1)))
theorem GM:B6 Tryz.prog 60 Io:=O1 WQ Tryz.func60 NE A3 (A1)
theorem cF:B6 Tryz.prog 61 My:=O1 aA Tryz.func61 SI A3 (A1)
theorem Xi:B6 Tryz.prog 31 R5:=O1 Wd Tryz.func31 Sl A3 (A0 Bo (A0 F6 (A0 L6 (A0 GM (A0 cF (A1))))))
theorem cG:B6 Tryz.prog 62 Mz:=O1 aB Tryz.func62 SJ A3 (A1)
theorem O6:B6 Tryz.prog 32 U4:=O1 AH Tryz.func32 Un A3 (A0 F6 (A0 GM (A0 cG (A1))))
theorem Am:B6 Tryz.prog 63 X0:=O1 CV Tryz.func63 Vv A3 (A0 F6 (A0 L6 (A1)))
theorem Uy:B6 Tryz.prog 64 Cs:=O1 MB Tryz.func64 EQ A3 (A0 L6 (A1))
theorem CE:B6 Tryz.prog 67 Ft:=O1 TA Tryz.func67 KP A3 (A1)
theorem Jx:B6 Tryz.prog 65 U2:=O1 AF Tryz.func65 Ul A3 (A0 F6 (A0 L6 (A0 CE (A1))))
theorem AX:B6 Tryz.prog 36 U3:=O1 AG Tryz.func36 Um A3 (A0 O6 (A0 F6 (A0 L6 (A0 Am (A0 Uy (A0 Jx (A1)))))))
theorem Rq:B6 Tryz.prog 66 O4:=O1 Qy Tryz.func66 Nn A3 (A0 F6 (A0 L6 (A1)))
theorem AY:B6 Tryz.prog 37 U6:=O1 AJ Tryz.func37 Uq A3 (A0 O6 (A0 F6 (A0 L6 (A0 Am (A0 Jx (A0 Rq (A1)))))))
theorem Xj:B6 Tryz.prog 38 R6:=O1 We Tryz.func38 Sm A3 (A0 O6 (A0 F6 (A0 L6 (A0 Am (A0 Uy (A1))))))
theorem DY:B6 Tryz.prog 39 X1:=O1 CW Tryz.func39 Vw A3 (A0 O6 (A0 Bo (A0 Am (A1))))
theorem Vn:B6 Tryz.prog 40 Q2:=O1 Vj Tryz.func40 Qs A3 (A0 O6 (A0 F6 (A0 L6 (A0 CE (A1)))))
theorem YO:B6 Tryz.prog 68 Ir:=O1 WT Tryz.func68 NH A3 (A1)
theorem QK:B6 Tryz.prog 69 Ek:=O1 OG Tryz.func69 IA A3 (A1)
theorem JS:B6 Tryz.prog 42 Bc:=O1 IP Tryz.func42 BN A3 (A0 DZ (A0 YO (A0 QK (A1))))
theorem YN:B6 Tryz.prog 11 Ip:=O1 WR Tryz.func11 NF A3 (A0 GN (A0 Xi (A0 O6 (A0 Bo (A0 F6 (A0 L6 (A0 AX (A0 AY (A0 Xj (A0 DY (A0 Vn (A0 DZ (A0 JS (A1))))))))))))))
theorem cB:B6 Tryz.prog 24 Mp:=O1 ZS Tryz.func24 RZ A3 (A1)
theorem KZ:B6 Tryz.prog 9 Mo:=O1 ZR Tryz.func9 RY A3 (A1)
theorem Q5:B6 Tryz.prog 25 Y7:=O1 FB Tryz.func25 Yj A3 (A0 KZ (A1))
theorem DX:B6 Tryz.prog 26 W8:=O1 CS Tryz.func26 Vt A3 (A0 Q5 (A1))
theorem Kv:B6 Tryz.prog 27 Ij:=O1 WM Tryz.func27 NA A3 (A1)
theorem Pb:B6 Tryz.prog 59 Y8:=O1 FC Tryz.func59 Yk A3 (A0 Q5 (A1))
theorem GH:B6 Tryz.prog 28 Y9:=O1 FD Tryz.func28 Yl A3 (A0 Q5 (A0 Kv (A0 Pb (A1))))
theorem GI:B6 Tryz.prog 29 Z4:=O1 FE Tryz.func29 Ym A3 (A0 Q5 (A0 Kv (A0 Pb (A1))))
theorem AW:B6 Tryz.prog 30 U0:=O1 AE Tryz.func30 Uk A3 (A0 Q5 (A0 Kv (A1)))
theorem YL:B6 Tryz.prog 8 Ii:=O1 WL Tryz.func8 MZ A3 (A0 YN (A0 cB (A0 Q5 (A0 DX (A0 Kv (A0 GH (A0 GI (A0 AW (A1)))))))))
theorem G8:B6 Tryz.prog 107 E9:=O1 Sw Tryz.func107 Oh A3 (A1)
theorem B7:B6 Tryz.prog 110 C4:=O1 Qc Tryz.func110 Lb A3 (A1)
theorem D9:B6 Tryz.prog 108 E8:=O1 Lp Tryz.func108 Iy A3 (A0 B7 (A1))
theorem T8:B6 Tryz.prog 109 G7:=O1 Lm Tryz.func109 Iw A3 (A0 D9 (A0 B7 (A1)))
theorem Oc:B6 Tryz.prog 70 K6:=O1 Nw Tryz.func70 Jv A3 (A0 G8 (A0 D9 (A0 T8 (A0 B7 (A1)))))
theorem S9:B6 Tryz.prog 155 J7:=O1 IJ Tryz.func155 BH A3 (A1)
theorem Ny:B6 Tryz.prog 71 K2:=O1 (sp:=Od) Ns Tryz.func71 Jr A3 (A0 G8 (A0 D9 (A0 T8 (V1 (Ev (cx:=⟨Tryz.prog,tys⟩) (fn:=Tryz.f111) (c:=Tryz.f111.body.getD .skip) Tryz.func111 (by kernel_rfl) (by kernel_rfl) A3 (K7 (A0 B7 (A0 S9 (V1 (Ev (cx:=⟨Tryz.prog,tys⟩) (fn:=Tryz.f112) (c:=Tryz.f112.body.getD .skip) Tryz.func112 (by kernel_rfl) (by kernel_rfl) A3 (K7 (A1) (P1))) (A1)))) (P1))) (A1)))))
theorem Q4:B6 Tryz.prog 114 F9:=O1 Qx Tryz.func114 Nh A3 (A0 B7 (A1))
theorem Oz:B6 Tryz.prog 115 P3:=O1 EY Tryz.func115 Yf A3 (A1)
theorem Bn:B6 Tryz.prog 122 N8:=O1 Vf Tryz.func122 Em A3 (A1)
theorem Ed:B6 Tryz.prog 116 I4:=O1 Qb Tryz.func116 La A3 (A0 D9 (A0 B7 (A0 Bn (A1))))
theorem Nz:B6 Tryz.prog 72 K3:=O1 (sp:=Oe) Nt Tryz.func72 Js A3 (A0 G8 (A0 D9 (A0 B7 (A0 Q4 (A0 Oz (A0 Ed (V1 (Ev (cx:=⟨Tryz.prog,tys⟩) (fn:=Tryz.f111) (c:=Tryz.f111.body.getD .skip) Tryz.func111 (by kernel_rfl) (by kernel_rfl) A3 (K7 (A0 B7 (A0 S9 (V1 (Ev (cx:=⟨Tryz.prog,tys⟩) (fn:=Tryz.f113) (c:=Tryz.f113.body.getD .skip) Tryz.func113 (by kernel_rfl) (by kernel_rfl) A3 (K7 (A1) (P1))) (A1)))) (P1))) (A1))))))))
theorem Jl:B6 Tryz.prog 118 I0:=O1 Jg Tryz.func118 Gi A3 (A0 D9 (A0 B7 (A1)))
theorem Ob:B6 Tryz.prog 73 K5:=O1 (sp:=Og) Nv Tryz.func73 Ju A3 (A0 G8 (A0 D9 (A0 B7 (A0 Q4 (A0 Ed (A0 Jl (V1 (Ev (cx:=⟨Tryz.prog,tys⟩) (fn:=Tryz.f111) (c:=Tryz.f111.body.getD .skip) Tryz.func111 (by kernel_rfl) (by kernel_rfl) A3 (K7 (A0 B7 (A0 S9 (V1 (Ev (cx:=⟨Tryz.prog,tys⟩) (fn:=Tryz.f117) (c:=Tryz.f117.body.getD .skip) Tryz.func117 (by kernel_rfl) (by kernel_rfl) A3 (K7 (A1) (P1))) (A1)))) (P1))) (A1))))))))
theorem Me:B6 Tryz.prog 74 J0:=O1 (sp:=Nb) Lo Tryz.func74 Ix A3 (A0 G8 (A0 D9 (A0 B7 (A0 Q4 (A0 Oz (V1 (Ev (cx:=⟨Tryz.prog,tys⟩) (fn:=Tryz.f111) (c:=Tryz.f111.body.getD .skip) Tryz.func111 (by kernel_rfl) (by kernel_rfl) A3 (K7 (A0 B7 (A0 S9 (V1 (Ev (cx:=⟨Tryz.prog,tys⟩) (fn:=Tryz.f119) (c:=Tryz.f119.body.getD .skip) Tryz.func119 (by kernel_rfl) (by kernel_rfl) A3 (K7 (A1) (P1))) (A1)))) (P1))) (A1)))))))
theorem Qj:B6 Tryz.prog 75 L2:=O1 (sp:=Qo) Qd Tryz.func75 Lc A3 (A0 G8 (A0 T8 (A0 Q4 (V1 (Ev (cx:=⟨Tryz.prog,tys⟩) (fn:=Tryz.f111) (c:=Tryz.f111.body.getD .skip) Tryz.func111 (by kernel_rfl) (by kernel_rfl) A3 (K7 (A0 B7 (A0 S9 (V1 (Ev (cx:=⟨Tryz.prog,tys⟩) (fn:=Tryz.f120) (c:=Tryz.f120.body.getD .skip) Tryz.func120 (by kernel_rfl) (by kernel_rfl) A3 (K7 (A1) (P1))) (A1)))) (P1))) (A1)))))
theorem Oa:B6 Tryz.prog 123 K4:=O1 Nu Tryz.func123 Jt A3 (A0 D9 (A0 B7 (A0 Bn (A1))))
theorem Ku:B6 Tryz.prog 76 I6:=O1 (sp:=Ky) Kl Tryz.func76 Ho A3 (A0 G8 (A0 B7 (A0 Bn (A0 Oa (V1 (Ev (cx:=⟨Tryz.prog,tys⟩) (fn:=Tryz.f111) (c:=Tryz.f111.body.getD .skip) Tryz.func111 (by kernel_rfl) (by kernel_rfl) A3 (K7 (A0 B7 (A0 S9 (V1 (Ev (cx:=⟨Tryz.prog,tys⟩) (fn:=Tryz.f121) (c:=Tryz.f121.body.getD .skip) Tryz.func121 (by kernel_rfl) (by kernel_rfl) A3 (K7 (A1) (P1))) (A1)))) (P1))) (A1))))))
theorem Qk:B6 Tryz.prog 170 N9:=O1 Qe Tryz.func170 Ld A3 (A1)
theorem Bv:B6 Tryz.prog 136 M0:=O1 Kn Tryz.func136 Hp A3 (A0 Qk (A1))
theorem Md:B6 Tryz.prog 89 W5:=O1 CP Tryz.func89 Gs A3 (A0 Bv (A1))
theorem GF:B6 Tryz.prog 124 Y4:=O1 EX Tryz.func124 Ye A3 (A0 Bv (A1))
theorem Kt:B6 Tryz.prog 77 I5:=O1 Kk Tryz.func77 Hn A3 (A0 Md (A0 G8 (A0 B7 (A0 GF (A1)))))
theorem Oy:B6 Tryz.prog 43 K1:=JK (A0 Oc (A0 Ny (A0 Nz (A0 Ob (A0 Me (A0 Qj (A0 Ku (A0 Kt (A1))))))))) Yd
theorem DT:B6 Tryz.prog 51 W4:=O1 CO Tryz.func51 Vq A3 (A0 Oy (A0 Md (A1)))
theorem JW:B6 Tryz.prog 18 Bf:=O1 IS Tryz.func18 BQ A3 (A0 Oy (A0 DT (A1)))
theorem AV:B6 Tryz.prog 20 T9:=O1 AD Tryz.func20 Uj A3 (A1)
theorem Pa:B6 Tryz.prog 21 Y5:=O1 EZ Tryz.func21 Yg A3 (A1)
theorem Bw:B6 Tryz.prog 90 P4:=O1 FJ Tryz.func90 Yw A3 (A1)
theorem Ig:B6 Tryz.prog 91 R9:=O1 Wj Tryz.func91 Ss A3 (A1)
theorem Fp:B6 Tryz.prog 93 O9:=O1 Sy Tryz.func93 Oi A3 (A1)
theorem Gp:B6 Tryz.prog 92 Q3:=O1 Vl Tryz.func92 Qu A3 (A0 Fp (A1))
theorem BB:B6 Tryz.prog 53 U9:=O1 AO Tryz.func53 Uu A3 (A0 Bw (A0 Ig (A0 Gp (A0 Fp (A1)))))
theorem Hg:B6 Tryz.prog 94 Q8:=O1 IU Tryz.func94 BS A3d (A0 Ig (A0 Gp (A1)))
theorem EB:B6 Tryz.prog 54 X2:=O1 CX Tryz.func54 Vy A3 (A0 Bw (A0 Hg (A1)))
theorem Jm:B6 Tryz.prog 78 I1:=O1 Ji Tryz.func78 Gj A3 (A1)
theorem Pe:B6 Tryz.prog 95 P5:=O1 FK Tryz.func95 Yx A3 (A1)
theorem Rp:B6 Tryz.prog 169 Ay:=O1 IK Tryz.func169 BI A3 (A1)
theorem MG:B6 Tryz.prog 137 Cp:=O1 LY Tryz.func137 EN A3 (A0 Rp (A1))
theorem AZ:B6 Tryz.prog 138 U7:=O1 AL Tryz.func138 Us A3 (A1)
theorem X8:B6 Tryz.prog 97 F1:=O1 Gd Tryz.func97 Ex A3 (A0 MG (A0 AZ (A1)))
theorem Vo:B6 Tryz.prog 99 O0:=O1 Vk Tryz.func99 Qt A3 (A1)
theorem BA:B6 Tryz.prog 55 U8:=O1 (sp:=BD) AN Tryz.func55 Ut A3 (A0 Bw (A0 Hg (A0 Pe (A0 X8 (V1 (Ev (cx:=⟨Tryz.prog,tys⟩) (fn:=Tryz.f96) (c:=Tryz.f96.body.getD .skip) Tryz.func96 (by kernel_rfl) (by kernel_rfl) A3 (K7 (A1) (K7 (A1) (K7 (A1) (P1))))) (V1 (Ev (cx:=⟨Tryz.prog,tys⟩) (fn:=Tryz.f98) (c:=Tryz.f98.body.getD .skip) Tryz.func98 (by kernel_rfl) (by kernel_rfl) A3 (K7 (A0 Jm (A0 Vo (A1))) (P1))) (A1)))))))
theorem GG:B6 Tryz.prog 171 Y6:=O1 FA Tryz.func171 Yh A3 (A1)
theorem Mg:B6 Tryz.prog 193 Eh:=O1 OD Tryz.func193 HS A3 (A1)
theorem Gn:B6 Tryz.prog 172 Q0:=O1 Vh Tryz.func172 Qq A3 (A0 Mg (A1))
theorem DW:B6 Tryz.prog 139 W7:=O1 CR Tryz.func139 Vs A3 (A0 GG (A0 Gn (A1)))
theorem Dz:B6 Tryz.prog 100 L9:=O1 AK Tryz.func100 Ur A3 (A0 DW (A1))
theorem Mf:B6 Tryz.prog 196 W9:=O1 CU Tryz.func196 Vu A3 (A0 Mg (A1))
theorem Pd:B6 Tryz.prog 181 Z8:=O1 FH Tryz.func181 Yu A3 (A0 Mf (A1))
theorem MH:B6 Tryz.prog 194 Cq:=O1 LZ Tryz.func194 EO A3 (A0 Mf (A1))
theorem JV:B6 Tryz.prog 173 Be:=O1 IR Tryz.func173 BP A3 (A0 Pd (A0 MH (A1)))
theorem MK:B6 Tryz.prog 140 Ct:=O1 MC Tryz.func140 ER A3 (A0 JV (A1))
theorem BC:B6 Tryz.prog 174 V0:=O1 AP Tryz.func174 Uv A3 (A1)
theorem Ea:B6 Tryz.prog 211 G0:=O1 Dx Tryz.func211 Ce A3 (A1)
theorem Ge:B6 Tryz.prog 212 Hj:=Ic fun _ h=>h
theorem Ie:B6 Tryz.prog 195 J8:=O1 Hy Tryz.func195 Fy A3 (A0 Ea (A0 Ge (A1)))
theorem Dk:B6 Tryz.prog 175 F7:=O1 Dd Tryz.func175 Br A3 (A0 Ie (A1))
theorem DU:B6 Tryz.prog 134 W6:=O1 CQ Tryz.func134 Vr A3 (A0 Rp (A1))
theorem GQ:B6 Tryz.prog 176 Ab:=O1 FM Tryz.func176 Za A3 (A0 DU (A1))
theorem MJ:B6 Tryz.prog 177 QW:=Ic fun _ h=>h
theorem GP:B6 Tryz.prog 141 Aa:=O1 FL Tryz.func141 Yz A3 (A0 BC (A0 Dk (A0 GQ (A0 MJ (A1)))))
theorem MI:B6 Tryz.prog 215 Cr:=O1 MA Tryz.func215 EP A3 (A1)
theorem GJ:B6 Tryz.prog 200 Z6:=O1 FF Tryz.func200 Yn A3 (A0 Mg (A0 MI (A1)))
theorem GO:B6 Tryz.prog 178 Z9:=O1 FI Tryz.func178 Yv A3 (A0 GJ (A1))
theorem Xk:B6 Tryz.prog 179 R7:=O1 Wg Tryz.func179 Sp A3 (A0 Gn (A1))
theorem EA:B6 Tryz.prog 180 GY:=Ic fun _ h=>h
theorem JU:B6 Tryz.prog 143 Bd:=O1 IQ Tryz.func143 BO A3 (A0 GO (A0 Xk (A0 EA (A0 Pd (A1)))))
theorem JY:B6 Tryz.prog 142 Bh:=O1 IV Tryz.func142 BU A3 (A0 JU (A1))
theorem QL:B6 Tryz.prog 102 Bm:=O1 OI Tryz.func102 IE A3 (A0 MK (A0 GP (A0 JY (A1))))
theorem JX:B6 Tryz.prog 56 Bg:=O1 (sp:=KH) IT Tryz.func56 BR A3 (A0 Bw (A0 Hg (A0 Pe (A0 X8 (A0 Dz (A0 QL (V1 (Ev (cx:=⟨Tryz.prog,tys⟩) (fn:=Tryz.f101) (c:=Tryz.f101.body.getD .skip) Tryz.func101 (by kernel_rfl) (by kernel_rfl) A3 (K7 (A0 Dz (A1)) (K7 (A0 Dz (A1)) (P1)))) (A1))))))))
theorem Tt:B6 Tryz.prog 146 Ik:=O1 WN Tryz.func146 NB A3 (A1)
theorem YM:B6 Tryz.prog 145 Il:=O1 WO Tryz.func145 NC A3 (A0 Tt (A1))
theorem GL:B6 Tryz.prog 104 Im:=O1 WP Tryz.func104 ND A3 (A0 YM (A0 Tt (A1)))
theorem LA:B6 Tryz.prog 187 Mq:=O1 ZT Tryz.func187 SA A3 (A1)
theorem Xh:B6 Tryz.prog 153 Mr:=O1 ZU Tryz.func153 SB A3 (A0 LA (A1))
theorem LB:B6 Tryz.prog 149 Ms:=O1 ZV Tryz.func149 SD A3 (A0 Xh (A1))
theorem cC:B6 Tryz.prog 147 Mt:=O1 ZW Tryz.func147 SE A3 (A0 LB (A1))
theorem cE:B6 Tryz.prog 148 Mx:=O1 ZZ Tryz.func148 SH A3 (A1)
theorem fS:B6 Tryz.prog 150 lU:=Ic fun _ h=>h
theorem TJ:B6 Tryz.prog 151 YZ:=Ic fun _ h=>h
theorem fT:B6 Tryz.prog 152 Rz:=O1 eC Tryz.func152 TK A3 (A0 Xh (A1))
theorem LD:B6 Tryz.prog 105 Mu:=O1 ZX Tryz.func105 SF A3 (A0 Tt (A0 cC (A0 cE (A0 LB (A0 fS (A0 TJ (A0 fT (A1))))))))
theorem cD:B6 Tryz.prog 144 Mw:=O1 ZY Tryz.func144 SG A3 (A0 LD (A1))
theorem JP:B6 Tryz.prog 103 Az:=O1 IL Tryz.func103 BK A3 (A0 GL (A0 cD (A1)))
theorem JQ:B6 Tryz.prog 57 Ba:=O1 IM Tryz.func57 BL A3 (A0 JP (A0 GL (A1)))
theorem GK:B6 Tryz.prog 154 Z7:=O1 FG Tryz.func154 Yp A3 (A0 LA (A1))
theorem QI:B6 Tryz.prog 106 Ei:=O1 OE Tryz.func106 HV A3 (A0 Xh (A0 GK (A1)))
theorem QJ:B6 Tryz.prog 58 Ej:=O1 OF Tryz.func58 HX A3 (A0 LD (A0 QI (A1)))
theorem QH:B6 Tryz.prog 22 Eg:=O1 OC Tryz.func22 HP A3 (A0 Pa (A0 BB (A0 EB (A0 BA (A0 JX (A0 JQ (A0 QJ (A1))))))))
theorem Vm:B6 Tryz.prog 4 L8:=O1 Vg Tryz.func4 Qp A3 (A0 YL (A0 KZ (A0 JW (A0 GN (A0 AV (A0 Pa (A0 QH (A1))))))))
end Go.Proofs.YtomjbooonannkaaGreat
