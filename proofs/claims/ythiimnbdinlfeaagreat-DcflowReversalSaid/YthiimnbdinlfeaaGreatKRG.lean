/- Part. -/
import Derived.Test.YthiimnbdinlfeaaGreatKRF
set_option linter.all false
namespace Go.Proofs.YthiimnbdinlfeaaGreat
open Go.Proofs.Tryz
open Go.Vc Go.Gw
open Go.IntKind (i64 u64 u32)
def E7j:An:= {loop:= [(2,⟨[0],[],[(3,false,vI)],[],[]⟩)]}
def E4l:An:= {loop:= [(4,⟨[0,1],[],[(5,false,vI)],[],[]⟩)],plan:= [(6,[3,7],[],true,(pR 0 3 (.q 3 (pR 4 3 (.q 7 (.p 8 .done))))))]}
def C6h:An:= {}
def F3d:An:= {join:= [(8,⟨[0,1,5,7],[0],[(6,false,vU)],[],[]⟩),(10,⟨[0,1,5,7],[0],[(6,false,vU)],[],[]⟩)],loop:= [(4,⟨[0,1,5],[],[(6,false,vU),(7,false,vI)],[],[(0, .row (.int .u32) 70)]⟩)]}
def F2s:An:= {join:= [(12,⟨[0,1,6,8],[0],[(9,false,vU)],[],[]⟩),(17,⟨[0,1,6,8,9],[0],[(7,false,vU),(10,false,vU)],[],[]⟩)],loop:= [(7,⟨[0,1,6],[],[(7,false,vU),(8,false,vI)],[],[(0, .row (.int .u32) 70)]⟩)]}
def D5p:An:= {loop:= [(7,⟨[0,1],[],[(5,false,vI)],[],[]⟩)],plan:= [(9,[3,7],[],true,(pR 0 3 (.q 3 (pR 4 3 (.q 7 (.p 8 .done)))))),(11,[3,7],[],true,(pR 0 3 (.q 3 (pR 4 3 (.q 7 (.p 8 .done))))))]}
def F3b:An:= {loop:= [(7,⟨[0,1,5,6],[],[(7,false,vU),(8,false,vI)],[],[(0, .row (.int .u32) 70)]⟩),(3,⟨[0,1,5],[],[(6,false,vI)],[],[(0, .row (.int .u32) 70)]⟩)],plan:= [(9,[6,11,16],[],true,(pR 0 6 (.q 6 (pR 7 4 (.q 11 (pR 12 4 (.q 16 (pR 17 5 .done))))))))]}
def D9e:An:= {loop:= [(6,⟨[0],[],[(4,false,vU),(5,false,vI)],[],[]⟩)]}
def D0t:A9 A9m.args->Prop:=fun(x:List Int×Unit)=>let f:=(1:Int);let c:=(x.1.length:Int);let a:=(0:Int);let g:=a.toNat;∃(I:Int×Unit->Prop),∃(μ: _->Nat),I (c,())/\∀(p:Int×Unit),let e:=p.1.toNat;let d:=(i64.wrap (p.1-f),());let b:=(decide (gx a x.1 (i64.wrap (p.1-f))=a));(Ty.int i64).wf p.1/\True->I p->(decide (a<p.1)=true->a<=i64.wrap (p.1-f)/\i64.wrap (p.1-f)<c)/\(sel (decide (a<p.1)) b false=true->I d/\μ d<μ p)/\(sel (decide (a<p.1)) b false=false->(a<=a/\a<=p.1/\p.1<=c)/\(((0:Nat)+(List.drop g (List.take e x.1)).length)*(4:Nat)<=(140737488355328:Nat)/\(0:Nat)+(List.drop g (List.take e x.1)).length<=9223372036854775807)/\List.drop g (List.take e x.1)=nc (nv x.1))
def C8i:A9 A5r.args->Prop:=fun(x:List Int×List Int×Unit)=>let f:Prop:=(x.1=x.2.1);let e:=(0:Int);let b:=(x.2.1.length:Int);let a:=(x.1.length:Int);(decide (a≠b)=true->false=decide f)/\(decide (a≠b)=false->∃(I:Int×Unit->Prop),∃(μ: _->Nat),I (e,())/\∀(p:Int×Unit),let d:=(i64.wrap (p.1+1),());let c:Prop:=(gx e x.1 p.1≠gx e x.2.1 p.1);(Ty.int i64).wf p.1/\True->I p->(decide (p.1<a)=true->(e<=p.1/\p.1<a)/\(e<=p.1/\p.1<b)/\(decide c=true->false=decide f)/\(decide c=false->I d/\μ d<μ p))/\(decide (p.1<a)=false->true=decide f))
def A8f:A9 T5.args->Prop:=fun(x:Int×Unit)=>let a:=((32:Int).toNat);(0:(Ty.int u64).den)<=(32:Int)/\sh0 [u32.wrap x.1,u32.wrap (Int.fdiv x.1 ((2:Int)^Min.min a u64.bits))]/\∀(r:List Int×Unit),WfU r.1/\True->r.1=nc (nv [u32.wrap x.1,u32.wrap (Int.fdiv x.1 ((2:Int)^Min.min a u64.bits))])->r.1=nc x.1.toNat
def D7m:A9 B5z.args->Prop:=fun(x:List Int×List Int×Unit)=>let f:=(1:Int);let e:=(0:Int);let b:=(x.1.length:Int);let a:=(x.2.1.length:Int);(e<=i64.wrap (Max.max b a+f)/\i64.wrap (Max.max b a+f)<=i64.wrap (Max.max b a+f)/\(↑(4:Nat):Int)*i64.wrap (Max.max b a+f)<=(281474976710656:Int)/\i64.wrap (Max.max b a+f)<=(9223372036854775807:Int))/\∃(I:Int×Int×List Int×Unit->Prop),∃(μ: _->Nat),I (e,e,List.replicate (i64.wrap (Max.max b a+f)).toNat e,())/\∀(p:Int×Int×List Int×Unit),let d:=(p.2.2.1.length:Int);(Ty.int u64).wf p.1/\(Ty.int i64).wf p.2.1/\WfU p.2.2.1/\True->I p->(decide (p.2.1<d)=true->∃(J:Int×Unit->Prop),((decide (p.2.1<b)=true->(e<=p.2.1/\p.2.1<b)/\J (u64.wrap (p.1+u64.wrap (gx e x.1 p.2.1)),()))/\(decide (p.2.1<b)=false->J (p.1,())))/\∀(g:Int×Unit),(Ty.int u64).wf g.1/\True->J g->∃(J:Int×Unit->Prop),((decide (p.2.1<a)=true->(e<=p.2.1/\p.2.1<a)/\J (u64.wrap (g.1+u64.wrap (gx e x.2.1 p.2.1)),()))/\(decide (p.2.1<a)=false->J g))/\∀(h:Int×Unit),let c:=(Int.fdiv h.1 ((2:Int)^Min.min ((32:Int).toNat) u64.bits),i64.wrap (p.2.1+f),List.set p.2.2.1 p.2.1.toNat (u32.wrap h.1),());(Ty.int u64).wf h.1/\True->J h->(e<=p.2.1/\p.2.1<d)/\(0:(Ty.int u64).den)<=(32:Int)/\I c/\μ c<μ p)/\(decide (p.2.1<d)=false->sh0 p.2.2.1/\∀(r:List Int×Unit),WfU r.1/\True->r.1=nc (nv p.2.2.1)->r.1=nc (nv x.1+nv x.2.1))
def D6v:A9 B5l.args->Prop:=fun(x:List Int×List Int×Unit)=>let f:=(nv x.1-nv x.2.1);let c:=(0:Int);(sh1 x.1/\sh1 x.2.1)/\∀(r:Int×Unit),G1 r.1/\True->r.1=B3y (nv x.1) (nv x.2.1)->(decide (r.1<c)=true->(nv x.1<nv x.2.1->B2r Int= []/\false=false)/\(nv x.2.1<=nv x.1->B2r Int=nc f/\false=true))/\(decide (r.1<c)=false->sh0 x.1/\∀(r:List Int×Unit),let a:=(r.1.length:Int);WfU r.1/\True->r.1=nc (nv x.1)->sh0 x.2.1/\∀(i:List Int×Unit),let e:=(i.1.length:Int);WfU i.1/\True->i.1=nc (nv x.2.1)->(c<=a/\a<=a/\(↑(4:Nat):Int)*a<=(281474976710656:Int)/\a<=(9223372036854775807:Int))/\∃(I:Int×Int×List Int×Unit->Prop),∃(μ: _->Nat),I (c,c,List.replicate a.toNat c,())/\∀(p:Int×Int×List Int×Unit),let d:=(gx c r.1 p.2.1);(Ty.int u64).wf p.1/\(Ty.int i64).wf p.2.1/\WfU p.2.2.1/\True->I p->(decide (p.2.1<a)=true->∃(J:Int×Unit->Prop),((decide (p.2.1<e)=true->(c<=p.2.1/\p.2.1<e)/\J (u64.wrap (p.1+u64.wrap (gx c i.1 p.2.1)),()))/\(decide (p.2.1<e)=false->J (p.1,())))/\∀(j:Int×Unit),let g:Prop:=(u64.wrap d<j.1);(Ty.int u64).wf j.1/\True->J j->(c<=p.2.1/\p.2.1<a)/\∃(J:Int×Int×Unit->Prop),((decide g=true->J ((1:Int),u64.wrap (u64.wrap d+(4294967296:Int)),()))/\(decide g=false->J (c,u64.wrap d,())))/\∀(h:Int×Int×Unit),let b:=(h.1,i64.wrap (p.2.1+1),List.set p.2.2.1 p.2.1.toNat (u32.wrap (u64.wrap (h.2.1-j.1))),());(Ty.int u64).wf h.1/\(Ty.int u64).wf h.2.1/\True->J h->(c<=p.2.1/\p.2.1<(p.2.2.1.length:Int))/\I b/\μ b<μ p)/\(decide (p.2.1<a)=false->sh0 p.2.2.1/\∀(r:List Int×Unit),WfU r.1/\True->r.1=nc (nv p.2.2.1)->(nv x.1<nv x.2.1->r.1= []/\true=false)/\(nv x.2.1<=nv x.1->r.1=nc f/\true=true)))
def B9c:A9 A1i.args->Prop:=fun(x:List Int×List Int×Unit)=>let i:=(1:Int);let e:=(nv x.1);let d:=(nv x.2.1);let c:=(0:Int);sh0 x.1/\∀(r:List Int×Unit),let a:=(r.1.length:Int);WfU r.1/\True->r.1=nc e->sh0 x.2.1/\∀(j:List Int×Unit),let b:=(j.1.length:Int);WfU j.1/\True->j.1=nc d->(decide (a≠b)=true->(decide (a<b)=true->(-1:Int)=B3y e d)/\(decide (a<b)=false->i=B3y e d))/\(decide (a≠b)=false->∃(I:Int×Unit->Prop),∃(μ: _->Nat),I (i64.wrap (a-i),())/\∀(p:Int×Unit),let h:Prop:=(gx c j.1 p.1<gx c r.1 p.1);let g:Prop:=(gx c r.1 p.1<gx c j.1 p.1);let f:=(i64.wrap (p.1-i),());(Ty.int i64).wf p.1/\True->I p->(decide (c<=p.1)=true->(c<=p.1/\p.1<a)/\(c<=p.1/\p.1<b)/\(decide g=true->(-1:Int)=B3y e d)/\(decide g=false->(c<=p.1/\p.1<a)/\(c<=p.1/\p.1<b)/\(decide h=true->i=B3y e d)/\(decide h=false->I f/\μ f<μ p)))/\(decide (c<=p.1)=false->c=B3y e d))
def D6j:A9 B6c.args->Prop:=fun(x:List Int×List Int×Unit)=>let g:=(0:Int);let c:=(x.1.length:Int);let b:=(x.2.1.length:Int);(g<=i64.wrap (c+b)/\i64.wrap (c+b)<=i64.wrap (c+b)/\(↑(4:Nat):Int)*i64.wrap (c+b)<=(281474976710656:Int)/\i64.wrap (c+b)<=(9223372036854775807:Int))/\∃(I:Int×List Int×Unit->Prop),∃(μ: _->Nat),I (g,List.replicate (i64.wrap (c+b)).toNat g,())/\∀(p:Int×List Int×Unit),(Ty.int i64).wf p.1/\WfU p.2.1/\True->I p->(decide (p.1<c)=true->∃(I_1:Int×Int×List Int×Unit->Prop),∃(u: _->Nat),I_1 (g,g,p.2.1,())/\∀(j:Int×Int×List Int×Unit),let i:=(i64.wrap (p.1+j.2.1));let h:=(j.2.2.1.length:Int);let f:=(i64.wrap (p.1+1),List.set j.2.2.1 (i64.wrap (p.1+b)).toNat (u32.wrap j.1),());let e:Prop:=(g<=i64.wrap (p.1+j.2.1)/\i64.wrap (p.1+j.2.1)<h);let a:=(u64.wrap (j.1+u64.wrap (u64.wrap (List.getD j.2.2.1 i.toNat g)+u64.wrap (u64.wrap (gx g x.1 p.1)*u64.wrap (gx g x.2.1 j.2.1)))));let d:=(a.fdiv ((2:Int)^Min.min ((32:Int).toNat) u64.bits),i64.wrap (j.2.1+1),List.set j.2.2.1 i.toNat (u32.wrap a),());(Ty.int u64).wf j.1/\(Ty.int i64).wf j.2.1/\WfU j.2.2.1/\True->I_1 j->(decide (j.2.1<b)=true->e/\(g<=p.1/\p.1<c)/\(g<=j.2.1/\j.2.1<b)/\e/\(0:(Ty.int u64).den)<=(32:Int)/\I_1 d/\u d<u j)/\(decide (j.2.1<b)=false->(g<=i64.wrap (p.1+b)/\i64.wrap (p.1+b)<h)/\I f/\μ f<μ p))/\(decide (p.1<c)=false->sh0 p.2.1/\∀(r:List Int×Unit),WfU r.1/\True->r.1=nc (nv p.2.1)->r.1=nc (nv x.1*nv x.2.1))
def C3z:A9 A4b.args->Prop:=fun(x:List Int×Unit)=>let d:=(0:Int);let c:=(18446744073709551616:Nat);sh0 x.1/\∀(r:List Int×Unit),let b:=(r.1.length:Int);WfU r.1/\True->r.1=nc (nv x.1)->(decide ((2:Int)<b)=true->(nv x.1<c->d=(↑(nv x.1):Int)/\false=true)/\(c<=nv x.1->false=false))/\(decide ((2:Int)<b)=false->∃(I:Int×Int×Unit->Prop),∃(μ: _->Nat),I (d,i64.wrap (b-(1:Int)),())/\∀(p:Int×Int×Unit),let a:=(u64.wrap (↑(BitVec.ofInt u64.bits (u64.wrap (p.1*2^Min.min ((32:Int).toNat) u64.bits)) |||BitVec.ofInt u64.bits (u64.wrap (gx d r.1 p.2.1))).toNat:Int),i64.wrap (p.2.1-1),());(Ty.int u64).wf p.1/\(Ty.int i64).wf p.2.1/\True->I p->(decide (d<=p.2.1)=true->(0:(Ty.int u64).den)<=(32:Int)/\(d<=p.2.1/\p.2.1<b)/\I a/\μ a<μ p)/\(decide (d<=p.2.1)=false->(nv x.1<c->p.1=(↑(nv x.1):Int)/\true=true)/\(c<=nv x.1->true=false)))
theorem D4w (x:A9 A9m.args) (hw:awf A9m.args x) (hp:A9m.pre x):D0t x:=by
 obtain⟨l,_⟩:=x;have hl:l.length<=35184372088832:=hp;have hb:A5 l:=A2 hw.1.2;change List Int at l;simp only[D0t];refine⟨fun p=>0<=p.1/\p.1<=(l.length:Int)/\∀i x,p.1.toNat<=i->l[i]? =some x->x=0,fun p=>p.1.toNat,⟨g0d _,g0k _,fun i x hi hx=> ?_⟩, ?_⟩
 . rw[g1u (by simpa using hi)]at hx;cases hx
 rintro⟨n,_⟩ _ ⟨h0,h1,u⟩;change Int at n;simp only at h0 h1 u⊢;refine⟨fun h=> ?_,fun h=> ?_,fun h=> ?_⟩
 . have h:=g0a h;rw[wr (by omega) (by omega)];exact⟨by omega,by omega⟩
 . rw[J5]at h;simp only[g0c,g1y]at h;obtain⟨h3,h4⟩:=h;rw[wr (by omega) (by omega)]at h4⊢;refine⟨⟨by omega,by omega,fun i x hi hx=> ?_⟩,by omega⟩;by_cases he:i=(n-1).toNat
   . subst he;rw[J9 (d:=(0:Int)) (by omega) (by omega)]at hx;cases hx;exact h4
   . exact u i x (by omega) hx
 . refine⟨⟨g0k _,h0,h1⟩, ?_⟩;have e:(l.take n.toNat).drop (Int.toNat 0)=l.take n.toNat:=rfl;rw[e];have a0:(l.take n.toNat).length<=l.length:=by rw[g0q];omega
   refine⟨⟨by omega,by omega⟩,F7e hb (by omega) u ?_⟩;rw[J5]at h;simp only[g7p,g1r]at h;rcases h with h|h
   . exact .inl (by omega)
   . by_cases hn:n=0
     . exact .inl (by omega)
     . rw[wr (by omega) (by omega)]at h;refine .inr ⟨gx 0 l (n-1), ?_,h⟩;have:=J9 (d:=(0:Int)) (l:=l) (i:=n-1) (by omega) (by omega);rw[<-this];congr 1;omega
theorem D3x (x:A9 A5r.args) (hw:awf A5r.args x) (_:A5r.pre x):C8i x:=by
 obtain⟨a,b,_⟩:=x;have hl:a.length<=9223372036854775807:=hw.1.1;change List Int at a b;simp only[C8i];refine⟨fun h=> ?_,fun h=> ?_⟩
 . have h:=g0a h;exact(g1e fun e=>h (by rw[e])).symm
 . have a0:a.length=b.length:=by have:=g0b h;omega
   refine⟨fun p=>0<=p.1/\p.1<=(a.length:Int)/\a.take p.1.toNat=b.take p.1.toNat,fun p=>((a.length:Int)-p.1).toNat,⟨g0k _,g0d _,by simp⟩, ?_⟩;rintro⟨i,_⟩ _ ⟨h0,h1,h2⟩;change Int at i;simp only at h0 h1 h2⊢;refine⟨fun h=> ?_,fun h=> ?_⟩
   . have h:=g0a h;refine⟨⟨h0,h⟩,⟨h0,by omega⟩,fun u=> ?_,fun u=> ?_⟩
     . have u:=g0a u;exact(g1e fun e=>u (by rw[e])).symm
     . have u:gx 0 a i=gx 0 b i:=by simpa using u
       rw[wr (by omega) (by omega)];refine⟨⟨by omega,by omega, ?_⟩,by omega⟩;rw[show(i+1).toNat=i.toNat+1 from by omega,g1z,g1z,J9 (d:=(0:Int)) h0 h,J9 (d:=(0:Int)) h0 (by omega),h2,u]
   . have h:=g0b h;rw[D9 (by omega),D9 (by omega)]at h2;exact(g0z h2).symm
theorem B7f (x:A9 T5.args) (hw:awf T5.args x) (_:T5.pre x):A8f x:=by
 obtain⟨v,_⟩:=x;change Int at v;have hv:u64.min<=v/\v<=u64.max:=hw.1;rw[E7n,C7o]at hv;simp only[A8f];refine⟨by decide,by simp, ?_⟩;rintro⟨r,_⟩ _ u;simp only at u⊢;rw[u];congr 1;rw[show Min.min (Int.toNat 32) u64.bits=32 from rfl];simp only[nv,A1l];rw[g2d _ (by decide),show(2:Int)^32=4294967296 from rfl];omega
theorem H0u (v:Int) (_:0<=v):Int.fdiv v (2^Min.min (Int.toNat 32) u64.bits)=v/4294967296:=by
 rw[show Min.min (Int.toNat 32) u64.bits=32 from rfl,g2d _ (by decide)];rfl
theorem D8z (x:A9 B5z.args) (hw:awf B5z.args x) (hp:B5z.pre x):D7m x:=by
 obtain⟨a,b,_⟩:=x;have ha:A5 a:=A2 hw.1.2;have hb:A5 b:=A2 hw.2.1.2;change List Int at a b;obtain⟨la,lb⟩:a.length<=17592186044416/\b.length<=17592186044416:=hp;simp only[D7m];have em:i64.wrap (Max.max (a.length:Int) (b.length:Int)+1)=((max a.length b.length+1:Nat):Int):=by
  rw[wr (by omega) (by omega)];omega
 rw[em];have a4:max a.length b.length+1<=17592186044417:=by omega
 refine⟨⟨by omega,g0k _,by simp;omega,by omega⟩, ?_⟩;have a2:a.length<=max a.length b.length+1:=by omega
 have a3:b.length<=max a.length b.length+1:=by omega
 have u:=G0e ha hb;generalize max a.length b.length+1=n at a4 a2 a3 u;refine⟨fun p=>0<=p.2.1/\p.2.1<=(n:Int)/\0<=p.1/\p.1<=1/\p.2.2.1.length=n/\nv (p.2.2.1.take p.2.1.toNat)+4294967296^p.2.1.toNat*p.1.toNat=nv (a.take p.2.1.toNat)+nv (b.take p.2.1.toNat),fun p=>((n:Int)-p.2.1).toNat,⟨g0k _,g0d _,g0k _,by show(0:Int)<=1;omega,by simp,by simp[nv]⟩, ?_⟩;rintro⟨c,i,out,_⟩ ⟨_,_,a5,_⟩ ⟨h0,h1,h2,h3,h4,h5⟩;change Int at c i;change List Int at out;simp only at h0 h1 h2 h3 h4 h5⊢;have ho:A5 out:=A2 a5.2;have da:=R6 ha i.toNat;have db:=R6 hb i.toNat;refine⟨fun h=> ?_,fun h=> ?_⟩
 . have h:=g0a h;refine⟨fun p=>p.1=c+(dg a i.toNat:Int),⟨fun hi=> ?_,fun hi=> ?_⟩, ?_⟩
   . have hi:=g0a hi;refine⟨⟨h0,hi⟩, ?_⟩;show u64.wrap _= _;rw[A8l ha h0 hi,w64 (a:=(dg a i.toNat:Int)) (by omega) (by omega),w64 (by omega) (by omega)]
   . have hi:=g0b hi;show c= _;rw[B8u (by omega)];omega
   rintro⟨c1,_⟩ _ a0;simp only at a0⊢;refine⟨fun p=>p.1=c1+(dg b i.toNat:Int),⟨fun hi=> ?_,fun hi=> ?_⟩, ?_⟩
   . have hi:=g0a hi;refine⟨⟨h0,hi⟩, ?_⟩;show u64.wrap _= _;rw[A8l hb h0 hi,w64 (a:=(dg b i.toNat:Int)) (by omega) (by omega),w64 (by omega) (by omega)]
   . have hi:=g0b hi;show c1= _;rw[B8u (by omega)];omega
   rintro⟨c2,_⟩ _ a1;simp only at a1⊢;subst a0 a1;refine⟨⟨h0,h⟩,by decide, ?_⟩;rw[H0u _ (by omega),wr (by omega) (by omega),A1l];refine⟨⟨by omega,by omega,by omega,by omega,by rw[g0j];exact h4, ?_⟩,by omega⟩;rw[show(i+1).toNat=i.toNat+1 from by omega,N0 (by omega),G3 a,G3 b,g2a];exact E3z h5 (by omega)
 . have h:=g0b h;refine⟨by omega, ?_⟩;rintro⟨r,_⟩ _ hr;simp only at hr⊢;rw[hr];congr 1;rw[show i.toNat=n from by omega,g0o (by omega),g0o a2,g0o a3]at h5;have hc:c.toNat=0:=C4z (P:=4294967296^n) (x:=nv a+nv b) (by rw[<-h5];exact Nat.le_add_left ..) u;rw[hc,g5z,g2x]at h5;exact h5
theorem C5y (x:A9 A1i.args) (hw:awf A1i.args x) (hp:A1i.pre x):B9c x:=by
 obtain⟨a,b,_⟩:=x;change List Int at a b;obtain⟨la,lb⟩:a.length<=17592186044416/\b.length<=17592186044416:=hp;simp only[B9c];refine⟨by omega, ?_⟩;rintro⟨r,_⟩ ⟨⟨a3,_⟩,_⟩ hr;simp only at hr a3⊢;subst hr;refine⟨by omega, ?_⟩;rintro⟨s,_⟩ ⟨⟨a4,_⟩,_⟩ hs;simp only at hs a4⊢;subst hs;have ha:=G8 (nv a);have hb:=G8 (nv b);refine⟨fun a1=>⟨fun h=> ?_,fun h=> ?_⟩,fun a1=> ?_⟩
 . have h:=g0a h;exact(B3g (C3d (by omega))).symm
 . have h:=g0b h;have a1:=g0a a1;exact(D9l (C3d (by omega))).symm
 . have a2:(nc (nv a)).length=(nc (nv b)).length:=by have:=g0b a1;omega
   have ea:=F4 (nv a);have eb:=F4 (nv b);generalize nc (nv a)=r at*;generalize nc (nv b)=s at*;rw[<-ea, <-eb];refine⟨fun p=> -1<=p.1/\p.1<(r.length:Int)/\r.drop (p.1+1).toNat=s.drop (p.1+1).toNat,fun p=>(p.1+1).toNat, ?_, ?_⟩
   . rw[wr (by omega) (by omega)];refine⟨by omega,by omega, ?_⟩;rw[g2c (by omega),g2c (by omega)]
   rintro⟨i,_⟩ _ ⟨h0,h1,h2⟩;change Int at i;simp only at h0 h1 h2⊢;refine⟨fun h=> ?_,fun h=> ?_⟩
   . have h:=g0a h;refine⟨⟨h,h1⟩,⟨h,by omega⟩,fun a0=> ?_,fun a0=>⟨⟨h,h1⟩,⟨h,by omega⟩,fun u=> ?_,fun u=> ?_⟩⟩
     . exact(B3g (F1b ha hb a2 h h1 h2 (g0a a0))).symm
     . exact(D9l (F1b hb ha a2.symm h (by omega) h2.symm (g0a u))).symm
     . have a0:=g0b a0;have u:=g0b u;rw[wr (by omega) (by omega)];refine⟨⟨by omega,by omega, ?_⟩,by omega⟩;rw[show i-1+1=i from by omega,S0 h h1,S0 h (by omega),h2,show gx 0 r i=gx 0 s i from by omega]
   . have h:=g0b h;rw[show(i+1).toNat=0 from by omega,g3n,g3n]at h2;rw[h2,E2g]
theorem D9k (x:A9 B5l.args) (hw:awf B5l.args x) (hp:B5l.pre x):D6v x:=by
 obtain⟨a,b,_⟩:=x;change List Int at a b;have a6:A5 a:=A2 hw.1.2;have a9:A5 b:=A2 hw.2.1.2;obtain⟨la,lb⟩:a.length<=17592186044416/\b.length<=17592186044416:=hp;simp only[D6v];refine⟨⟨la,lb⟩, ?_⟩;rintro⟨d,_⟩ _ hd;simp only at hd⊢;subst hd;refine⟨fun h=> ?_,fun h=> ?_⟩
 . have h:=g0a h;refine⟨fun _=>⟨by trivial,by trivial⟩,fun u=> ?_⟩;unfold B3y at h;rw[g0u (by omega)]at h;split at h<;>omega
 . have h:=g0b h;have u:nv b<=nv a:=by
    rcases g2i (nv a) (nv b)with h1|h1
    . rw[B3g h1]at h;omega
    . exact h1
   refine⟨by omega, ?_⟩;rintro⟨r,_⟩ _ hr;simp only at hr⊢;refine⟨by omega, ?_⟩;rintro⟨s,_⟩ _ hs;simp only at hs⊢;have a1:A5 r:=hr▸G8 _;have a3:A5 s:=hs▸G8 _;have a2:nv r=nv a:=by rw[hr,F4]
   have a4:nv s=nv b:=by rw[hs,F4]
   have ab:r.length<=a.length:=by rw[hr];exact C0 a6
   have a7:s.length<=r.length:=by rw[hr,hs];exact H7 u
   rw[<-a2, <-a4]at u⊢;clear hr hs a2 a4;refine⟨⟨by omega,g0k _,by simp;omega,by omega⟩, ?_⟩;refine⟨fun p=>0<=p.2.1/\p.2.1<=(r.length:Int)/\0<=p.1/\p.1<=1/\p.2.2.1.length=r.length/\nv (r.take p.2.1.toNat)+4294967296^p.2.1.toNat*p.1.toNat=nv (p.2.2.1.take p.2.1.toNat)+nv (s.take p.2.1.toNat),fun p=>((r.length:Int)-p.2.1).toNat,⟨g0k _,g0d _,g0k _,by show(0:Int)<=1;omega,by simp,by simp[nv]⟩, ?_⟩;rintro⟨c,i,out,_⟩ ⟨_,_,a8,_⟩ ⟨h0,h1,h2,h3,h4,h5⟩;change Int at c i;change List Int at out;simp only at h0 h1 h2 h3 h4 h5⊢;have ho:A5 out:=A2 a8.2;have da:=R6 a1 i.toNat;have db:=R6 a3 i.toNat;refine⟨fun h=> ?_,fun h=> ?_⟩
   . have h:=g0a h;refine⟨fun p=>p.1=c+(dg s i.toNat:Int),⟨fun hi=> ?_,fun hi=> ?_⟩, ?_⟩
     . have hi:=g0a hi;refine⟨⟨h0,hi⟩, ?_⟩;show u64.wrap _= _;rw[A8l a3 h0 hi,w64 (a:=(dg s i.toNat:Int)) (by omega) (by omega),w64 (by omega) (by omega)]
     . have hi:=g0b hi;show c= _;rw[B8u (by omega)];omega
     rintro⟨c1,_⟩ _ a5;change Int at c1;simp only at a5⊢;refine⟨⟨h0,h⟩, ?_⟩;rw[A8l a1 h0 h,w64 (a:=(dg r i.toNat:Int)) (by omega) (by omega)];refine⟨fun p=>0<=p.1/\p.1<=1/\p.2.1=(dg r i.toNat:Int)+4294967296*p.1/\c1<=p.2.1/\p.2.1-c1<=4294967295,⟨fun hi=> ?_,fun hi=> ?_⟩, ?_⟩
     . have hi:=g0a hi;show(0:Int)<=1/\(1:Int)<=1/\u64.wrap _=(dg r i.toNat:Int)+4294967296*1/\c1<=u64.wrap _ /\u64.wrap _-c1<= _;rw[w64 (by omega) (by omega)];omega
     . have hi:=g0b hi;show(0:Int)<=0/\(0:Int)<=1/\(dg r i.toNat:Int)=(dg r i.toNat:Int)+4294967296*0/\c1<=(dg r i.toNat:Int)/\(dg r i.toNat:Int)-c1<= _;omega
     rintro⟨c2,x2,_⟩ _ ⟨k1,k2,k3,k4,k5⟩;change Int at c2 x2;simp only at k1 k2 k3 k4 k5⊢;refine⟨⟨h0,by omega⟩, ?_⟩;rw[wr (by omega) (by omega),w64 (a:=x2-c1) (by omega) (by omega),w32 (by omega) (by omega)];refine⟨⟨by omega,by omega,by omega,by omega,by rw[g0j];exact h4, ?_⟩,by omega⟩;rw[show(i+1).toNat=i.toNat+1 from by omega,N0 (by omega),G3 r,G3 s,g2a];exact D6d h5 (by omega)
   . have h:=g0b h;refine⟨by omega, ?_⟩;rintro⟨q,_⟩ _ hq;simp only at hq⊢;refine⟨fun aa=>by omega,fun _=>⟨?_,by trivial⟩⟩;rw[hq];congr 1;rw[show i.toNat=r.length from by omega,g0o (g0w _),g0o (by omega),g0o a7]at h5;have a0:nv out<4294967296^out.length:=B0z ho;rw[h4]at a0;have hc:c.toNat=0:=C4z (P:=4294967296^r.length) (x:=nv out) (by omega) a0;rw[hc,g5z,g2x]at h5;omega
theorem D9c (x:A9 B6c.args) (hw:awf B6c.args x) (hp:B6c.pre x):D6j x:=by
 obtain⟨a,b,_⟩:=x;have ha:A5 a:=A2 hw.1.2;have hb:A5 b:=A2 hw.2.1.2;change List Int at a b;obtain⟨la,lb⟩:a.length<=17592186044416/\b.length<=17592186044416:=hp;simp only[D6j];have em:i64.wrap ((a.length:Int)+(b.length:Int))=((a.length+b.length:Nat):Int):=by
  rw[wr (by omega) (by omega)];omega
 rw[em];refine⟨⟨by omega,g0k _,by simp;omega,by omega⟩, ?_⟩;refine⟨fun p=>0<=p.1/\p.1<=(a.length:Int)/\p.2.1.length=a.length+b.length/\nv p.2.1=nv (a.take p.1.toNat)*nv b/\∀j,p.1.toNat+b.length<=j->dg p.2.1 j=0,fun p=>((a.length:Int)-p.1).toNat,⟨g0k _,g0d _,by rw[g1a,g0i],by simp[nv,B6g],fun j _=>C8o _ _⟩, ?_⟩;rintro⟨i,out,_⟩ ⟨_,a5,_⟩ ⟨h0,h1,h2,h3,h4⟩;change Int at i;change List Int at out;simp only at h0 h1 h2 h3 h4⊢;have ho:A5 out:=A2 a5.2;refine⟨fun h=> ?_,fun h=> ?_⟩
 . have h:=g0a h;have da:=R6 ha i.toNat;refine⟨fun p=>0<=p.2.1/\p.2.1<=(b.length:Int)/\0<=p.1/\p.1<=4294967295/\p.2.2.1.length=a.length+b.length/\nv p.2.2.1+4294967296^(i.toNat+p.2.1.toNat)*p.1.toNat=nv out+4294967296^i.toNat*(dg a i.toNat*nv (b.take p.2.1.toNat))/\∀j,i.toNat+b.length<=j->dg p.2.2.1 j=0,fun p=>((b.length:Int)-p.2.1).toNat,⟨g0k _,g0d _,g0k _,by show(0:Int)<=4294967295;omega,h2,by simp[nv],h4⟩, ?_⟩;rintro⟨c,j,o,_⟩ ⟨_,_,a1,_⟩ ⟨g0,g1,g2,g3,g4,g5,g6⟩;change Int at c j;change List Int at o;simp only at g0 g1 g2 g3 g4 g5 g6⊢;have a0:A5 o:=A2 a1.2;refine⟨fun u=> ?_,fun u=> ?_⟩
   . have u:=g0a u;have db:=R6 hb j.toNat;rw[wr (a:=i+j) (by omega) (by omega)];refine⟨⟨by omega,by omega⟩,⟨h0,h⟩,⟨g0,u⟩,⟨by omega,by omega⟩,by decide, ?_⟩;rw[A8l ha h0 h,A8l hb g0 u,Y5 a0,show(i+j).toNat=i.toNat+j.toNat from by omega];have dk:=R6 a0 (i.toNat+j.toNat);have hm:dg a i.toNat*dg b j.toNat<=4294967295*4294967295:=g8a da db;have a4:(dg a i.toNat:Int)*(dg b j.toNat:Int)=((dg a i.toNat*dg b j.toNat:Nat):Int):=(g4c _ _).symm;rw[w64 (a:=(dg a i.toNat:Int)) (by omega) (by omega),w64 (a:=(dg b j.toNat:Int)) (by omega) (by omega),w64 (a:=(dg o (i.toNat+j.toNat):Int)) (by omega) (by omega),a4];have a6:=g5;generalize a2:dg a i.toNat*dg b j.toNat=M at hm;rw[w64 (a:=(M:Int)) (by omega) (by omega),w64 (a:=(dg o (i.toNat+j.toNat):Int)+(M:Int)) (by omega) (by omega),w64 (by omega) (by omega),H0u _ (by omega),wr (by omega) (by omega),A1l];refine⟨⟨by omega,by omega,by omega,by omega,by rw[g0j];exact g4, ?_,fun q hq=> ?_⟩,by omega⟩
     . have hs:=B1l (l:=o) (k:=i.toNat+j.toNat) (v:=(c+((dg o (i.toNat+j.toNat):Int)+(M:Int)))%4294967296) (by omega);rw[show(j+1).toNat=j.toNat+1 from by omega,G3 b, <-g3z i.toNat,g2a,g3e (dg a i.toNat)];have e1:dg a i.toNat*(4294967296^j.toNat*dg b j.toNat)=4294967296^j.toNat*M:=by rw[<-a2,g9g]
       rw[e1,g3e (4294967296^i.toNat), <-g2m (4294967296^i.toNat) (4294967296^j.toNat), <-g4l, <-g3z (nv out), <-g5];generalize 4294967296^(i.toNat+j.toNat)=P at*;have hd:((c+((dg o (i.toNat+j.toNat):Int)+(M:Int)))%4294967296).toNat+4294967296*((c+((dg o (i.toNat+j.toNat):Int)+(M:Int)))/4294967296).toNat=c.toNat+dg o (i.toNat+j.toNat)+M:=by omega
       have a3:=g3q (P* ·) hd;simp only[g3e, <-g2m]at a3;omega
     . rw[C8n (by omega),g0u (by omega)];exact g6 q hq
   . have u:=g0b u;rw[wr (a:=i+(b.length:Int)) (by omega) (by omega),wr (by omega) (by omega),w32 g2 g3];refine⟨⟨by omega,by omega⟩,⟨by omega,by omega,by rw[g0j];exact g4, ?_,fun q hq=> ?_⟩,by omega⟩
     . have hs:=B1l (l:=o) (k:=(i+(b.length:Int)).toNat) (v:=c) (by omega);rw[g6 _ (by omega),g5z,g2x]at hs;rw[hs,show(i+(b.length:Int)).toNat=i.toNat+b.length from by omega];rw[show j.toNat=b.length from by omega,g0o (g0w b.length)]at g5;rw[g5,show(i+1).toNat=i.toNat+1 from by omega,G3,g4a,h3,g2m]
     . rw[C8n (by omega),g0u (by omega)];exact g6 q (by omega)
 . have h:=g0b h;refine⟨by omega, ?_⟩;rintro⟨r,_⟩ _ hr;simp only at hr⊢;rw[hr,h3,g0o (by omega)]
theorem C9a (x:A9 A4b.args) (hw:awf A4b.args x) (hp:A4b.pre x):C3z x:=by
 obtain⟨a,_⟩:=x;have ha:A5 a:=A2 hw.1.2;change List Int at a;have la:a.length<=35184372088832:=hp;have n1:=C0 ha;simp only[C3z];refine⟨hp, ?_⟩;rintro⟨r,_⟩ _ hr;simp only at hr⊢;have a3:nv r=nv a:=by rw[hr,F4]
 have a0:A5 r:=hr▸G8 _;refine⟨fun h=> ?_,fun h=> ?_⟩
 . have h:=g0a h;have u:4294967296^2<=nv a:=G7d (by rw[<-hr];omega);exact⟨fun h3=>by omega,fun _=>by trivial⟩
 . have h:=g0b h;have a2:r.length<=2:=by omega
   rw[wr (a:=(r.length:Int)-1) (by omega) (by omega)];refine⟨fun p=> -1<=p.2.1/\p.2.1<(r.length:Int)/\p.1=(nv (r.drop (p.2.1+1).toNat):Int),fun p=>(p.2.1+1).toNat,⟨by show(-1:Int)<=(r.length:Int)-1;omega,by show(r.length:Int)-1< _;omega, ?_⟩, ?_⟩
   . show(0:Int)= _;rw[g2c (by show r.length<=((r.length:Int)-1+1).toNat;omega)];rfl
   rintro⟨v,i,_⟩ _ ⟨i0,i1,hv⟩;change Int at v i;simp only at i0 i1 hv⊢;refine⟨fun u=> ?_,fun u=> ?_⟩
   . have u:=g0a u;have hg:=C0f a0 u i1;have a4:nv (r.drop (i+1).toNat)<4294967296:=by
      have h3:=B0z (l:=r.drop (i+1).toNat) fun y hy=>a0 y (g4r hy)
      have h4:4294967296^(r.drop (i+1).toNat).length<=4294967296^1:=g1v (by decide) (by rw[g2l];omega);omega
     rw[wr (a:=i-1) (by omega) (by omega),show Min.min (Int.toNat 32) u64.bits=32 from rfl,w64 (a:=v*2^32) (by omega) (by omega),w64 (a:=gx 0 r i) (by omega) (by omega)];have a1:=D2k (v:=gx 0 r i) (b:=v) (k:=32) (by omega) (by omega) (by omega) (by omega) (by omega);rw[show u64.bits=64 from rfl,a1,w64 (by omega) (by omega)];refine⟨by decide,⟨u,i1⟩,⟨by omega,by omega, ?_⟩,by omega⟩;rw[show i-1+1=i from by omega,S0 u i1];show _=(((gx 0 r i).toNat+4294967296*nv (r.drop (i+1).toNat):Nat):Int);omega
   . have u:=g0b u;rw[show(i+1).toNat=0 from by omega,g3n,a3]at hv;refine⟨fun _=>⟨hv,by trivial⟩,fun h3=> ?_⟩;have h4:=B0z a0;have h5:4294967296^r.length<=4294967296^2:=g1v (by decide) a2;omega
def E6o:An:= {loop:= [(6,⟨[],[],[(3,false,vI),(4,false,[.val (.int .u32)])],[],[]⟩)]}
def F2u:An:= {}
def E1u:An:= {join:= [(15,⟨[0,1,4,11],[0],[(5,false,[.val (.sl (.int .u32))])],[],[]⟩),(11,⟨[0,1,4,11],[],[(5,false,[.val (.sl (.int .u32))])],[],[(0, .row (.int .u32) 70)]⟩)],loop:= [(10,⟨[0,1,4],[],[(5,false,[.val (.sl (.int .u32))]),(11,false,vI)],[],[(0, .row (.int .u32) 70)]⟩)],plan:= [(7,[],[],true,(pR 0 3 (pR 4 3 (.e 3 (.e 7 (pR 8 3 .done))))))]}
def F2w:An:= {loop:= [(2,⟨[],[],[(0,false,[.val (.sl (.int .u32))]),(1,false,[.val (.sl (.int .u32))])],[],[]⟩)]}
def D3k:A9 A8h.args->Prop:=fun(x:List Int×Unit)=>let e:=(↑(A0j (nv x.1)):Int);let d:=(1:Int);let c:=(0:Int);sh0 x.1/\∀(r:List Int×Unit),let a:=(r.1.length:Int);WfU r.1/\True->r.1=nc (nv x.1)->(decide (a=c)=true->c=e)/\(decide (a=c)=false->(c<=i64.wrap (a-d)/\i64.wrap (a-d)<a)/\∃(I:Int×Int×Unit->Prop),∃(μ: _->Nat),I (i64.wrap ((32:Int)*i64.wrap (a-d)),gx c r.1 (i64.wrap (a-d)),())/\∀(p:Int×Int×Unit),let b:=(i64.wrap (p.1+d),Int.fdiv p.2.1 ((2:Int)^Min.min d.toNat u32.bits),());(Ty.int i64).wf p.1/\(Ty.int u32).wf p.2.1/\True->I p->(decide (c<p.2.1)=true->(0:(Ty.int u64).den)<=d/\I b/\μ b<μ p)/\(decide (c<p.2.1)=false->p.1=e))
def D6c:A9 B5v.args->Prop:=fun(x:List Int×Int×Unit)=>let e:=(x.1.length:Int);let d:=(0:Int);let c:=(↑(nv x.1/(2:Nat)^x.2.1.toNat%(2:Nat)):Int);let a:=(32:Int);let b:Prop:=(e<=i64.wrap (Int.tdiv x.2.1 a));a≠d/\(decide b=true->d=c)/\(decide b=false->a≠d/\(d<=i64.wrap (Int.tdiv x.2.1 a)/\i64.wrap (Int.tdiv x.2.1 a)<e)/\a≠d/\(0:(Ty.int u64).den)<=u64.wrap (Int.tmod x.2.1 a)/\u32.wrap (↑(BitVec.ofInt u32.bits ((gx d x.1 (i64.wrap (Int.tdiv x.2.1 a))).fdiv ((2:Int)^Min.min (u64.wrap (Int.tmod x.2.1 a)).toNat u32.bits))&&&BitVec.ofInt u32.bits (1:Int)).toNat:Int)=c)
def C4f:A9 A4f.args->Prop:=fun(x:List Int×List Int×Unit)=>let j:=(0:Nat);let m:Prop:=(nv x.2.1=j->true=false);let i:=(1:Int);let h:=(nv x.1%nv x.2.1);let g:=(nv x.1/nv x.2.1);let f:=(32:Int);let d:=(18446744073709551616:Nat);let c:=(0:Int);let b:=(x.1.length:Int);sh0 x.2.1/\∀(r:List Int×Unit),let l:=(r.1.length:Int);WfU r.1/\True->r.1=nc (nv x.2.1)->(decide (l=c)=true->(nv x.2.1=j->false=false)/\(nv x.2.1≠j->B2r Int=nc g/\B2r Int=nc h/\false=true))/\(decide (l=c)=false->sh0 x.1/\∀(s:Int×Bool×Unit),B2m s.1/\True/\True->(nv x.1<d->s.1=(↑(nv x.1):Int)/\s.2.1=true)/\(d<=nv x.1->s.2.1=false)->sh0 r.1/\∀(o:Int×Bool×Unit),B2m o.1/\True/\True->(nv r.1<d->o.1=(↑(nv r.1):Int)/\o.2.1=true)/\(d<=nv r.1->o.2.1=false)->(sel s.2.1 o.2.1 false=true->o.1≠c/\o.1≠c/\True/\∀(r:List Int×Unit),WfU r.1/\True->r.1=nc (u64.wrap (Int.tdiv s.1 o.1)).toNat->True/\∀(u:List Int×Unit),WfU u.1/\True->u.1=nc (Int.tmod s.1 o.1).toNat->m/\(nv x.2.1≠j->r.1=nc g/\u.1=nc h/\true=true))/\(sel s.2.1 o.2.1 false=false->(c<=b/\b<=b/\(↑(4:Nat):Int)*b<=(281474976710656:Int)/\b<=(9223372036854775807:Int))/\sh1 x.1/\∀(u:Int×Unit),G1 u.1/\True->u.1=(↑(A0j (nv x.1)):Int)->∃(I:List Int×Int×List Int×Unit->Prop),∃(μ: _->Nat),I ([],i64.wrap (u.1-i),List.replicate b.toNat c,())/\∀(p:List Int×Int×List Int×Unit),let k:=(i64.wrap (Int.tdiv p.2.1 f));let a:Prop:=(c<=i64.wrap (Int.tdiv p.2.1 f)/\i64.wrap (Int.tdiv p.2.1 f)<(p.2.2.1.length:Int));(Ty.int u32).sl.wf p.1/\(Ty.int i64).wf p.2.1/\WfU p.2.2.1/\True->I p->(decide (c<=p.2.1)=true->∃(J:List Int×List Int×Unit->Prop),((sh1 p.1/\sh1 p.1)/\∀(q:List Int×Unit),WfU q.1/\True->q.1=nc (nv p.1+nv p.1)->∃(J_1:List Int×Unit->Prop),(c<=p.2.1/\∀(r:Int×Unit),(u32.min<=r.1/\r.1<=u32.max)/\True->r.1=(↑(nv x.1/(2:Nat)^Int.toNat p.2.1%(2:Nat)):Int)->(decide (r.1=i)=true->(sh1 q.1/\sh1 [i])/\∀(r:List Int×Unit),WfU r.1/\True->r.1=nc (nv q.1+nv [i])->J_1 r)/\(decide (r.1=i)=false->J_1 q))/\∀(n:List Int×Unit),(Ty.int u32).sl.wf n.1/\True->J_1 n->(sh1 n.1/\sh1 r.1)/\∀(t:List Int×Bool×Unit),WfU t.1/\True/\True->(nv n.1<nv r.1->t.1= []/\t.2.1=false)/\(nv r.1<=nv n.1->t.1=nc (nv n.1-nv r.1)/\t.2.1=true)->(t.2.1=true->f≠c/\a/\f≠c/\(0:(Ty.int u64).den)<=u64.wrap (Int.tmod p.2.1 f)/\a/\J (t.1,List.set p.2.2.1 k.toNat (u32.wrap (↑(BitVec.ofInt u32.bits (List.getD p.2.2.1 k.toNat c) |||BitVec.ofInt u32.bits (u32.wrap (i*(2:Int)^Min.min (u64.wrap (Int.tmod p.2.1 f)).toNat u32.bits))).toNat:Int)),()))/\(t.2.1=false->J (n.1,p.2.2.1,())))/\∀(n:List Int×List Int×Unit),let e:=(n.1,i64.wrap (p.2.1-i),n.2.1,());(Ty.int u32).sl.wf n.1/\WfU n.2.1/\True->J n->I e/\μ e<μ p)/\(decide (c<=p.2.1)=false->sh0 p.2.2.1/\∀(r:List Int×Unit),WfU r.1/\True->r.1=nc (nv p.2.2.1)->sh0 p.1/\∀(q:List Int×Unit),WfU q.1/\True->q.1=nc (nv p.1)->m/\(nv x.2.1≠j->r.1=nc g/\q.1=nc h/\true=true))))
def D8l:A9 B2z.args->Prop:=fun(x:List Int×List Int×Unit)=>sh0 x.1/\∀(r:List Int×Unit),WfU r.1/\True->r.1=nc (nv x.1)->sh0 x.2.1/\∀(c:List Int×Unit),WfU c.1/\True->c.1=nc (nv x.2.1)->∃(I:List Int×List Int×Unit->Prop),∃(μ: _->Nat),I (r.1,c)/\∀(p:List Int×List Int×Unit),let a:Prop:=((0:Int)<(p.2.1.length:Int));(Ty.int u32).sl.wf p.1/\(Ty.int u32).sl.wf p.2.1/\True->I p->(decide a=true->(sh2 p.1/\sh2 p.2.1)/\∀(r:List Int×List Int×Bool×Unit),let b:=(p.2.1,r.2.1,());WfU r.1/\WfU r.2.1/\True/\True->(nv p.2.1=0->r.2.2.1=false)/\(nv p.2.1≠0->r.1=nc (nv p.1/nv p.2.1)/\r.2.1=nc (nv p.1%nv p.2.1)/\r.2.2.1=true)->I b/\μ b<μ p)/\(decide a=false->p.1=nc ((nv x.1).gcd (nv x.2.1)))
theorem D5c (x:A9 A8h.args) (hw:awf A8h.args x) (hp:A8h.pre x):D3k x:=by
 obtain⟨a,_⟩:=x;have ha:A5 a:=A2 hw.1.2;change List Int at a;have la:a.length<=17592186044416:=hp;have n1:=C0 ha;have a2:=G0u ha;simp only[D3k];refine⟨by show a.length<=35184372088832;omega, ?_⟩;rintro⟨r,_⟩ _ u;simp only at u⊢;have a1:nv r=nv a:=by rw[u,F4]
 have a0:A5 r:=u▸G8 _;refine⟨fun h=> ?_,fun h=> ?_⟩
 . have h:=g0a h;have h0:nv a=0:=by rw[<-a1,g0m (l:=r) (by omega)];rfl
   rw[h0];rfl
 . have h:=g0b h;have a3:r.length<=a.length:=by rw[u];exact n1
   have h0:nv a≠0:=fun e=>h (by rw[u,e,O4];rfl)
   have ht:=G3m h0;rw[<-u]at ht;rw[wr (a:=(r.length:Int)-1) (by omega) (by omega),wr (a:=32*((r.length:Int)-1)) (by omega) (by omega),A8l a0 (by omega) (by omega),show((r.length:Int)-1).toNat=r.length-1 from by omega];have hd:=R6 a0 (r.length-1);refine⟨⟨by omega,by omega⟩,fun p=>0<=p.1/\0<=p.2.1/\p.1+(A0j p.2.1.toNat:Int)=(A0j (nv a):Int),fun p=>p.2.1.toNat,⟨by show(0:Int)<=32*((r.length:Int)-1);omega,g0d _, ?_⟩, ?_⟩
   . show 32*((r.length:Int)-1)+(A0j ((dg r (r.length-1):Nat):Int).toNat:Int)= _;rw[g0i,ht];omega
   rintro⟨n,v,_⟩ _ ⟨h1,h2,h3⟩;change Int at n v;simp only at h1 h2 h3⊢;refine⟨fun h4=> ?_,fun h4=> ?_⟩
   . have h4:=g0a h4;have hh:=F5o (n:=v.toNat) (by omega);have e:Int.fdiv v (2^Min.min (Int.toNat 1) u32.bits)=v/2:=by
      show Int.fdiv v (2^1)= _;rw[g2d _ (by decide)];rfl
     rw[e,wr (a:=n+1) (by omega) (by omega)];refine⟨by decide,⟨by omega,by omega, ?_⟩,by omega⟩;rw[show(v/2).toNat=v.toNat/2 from by omega];omega
   . have h4:=g0b h4;rw[show v.toNat=0 from by omega,C2o]at h3;omega
theorem D9x (x:A9 B5v.args) (hw:awf B5v.args x) (hp:B5v.pre x):D6c x:=by
 obtain⟨a,n,_⟩:=x;have u:A5 a:=A2 hw.1.2;have hn:=(show i64.min<=n/\n<=i64.max from hw.2.1);rw[C0m,C7y]at hn;change List Int at a;change Int at n;have a1: -9223372036854775808<=n/\n<=9223372036854775807:=hn;have n0:0<=n:=hp;simp only[D6c];have e1:i64.wrap (Int.tdiv n 32)=((n.toNat/32:Nat):Int):=by
  rw[g7x n0,wr (by omega) (by omega)];omega
 have e2:u64.wrap (Int.tmod n 32)=((n.toNat%32:Nat):Int):=by
  rw[g3k n0,w64 (by omega) (by omega)];omega
 rw[e1,e2];have hb:=G7v u n.toNat;refine⟨by decide,fun h=> ?_,fun h=> ?_⟩
 . have h:=g0a h;rw[B8u (by omega),h2v]at hb;rw[<-hb];rfl
 . have h:=g0b h;have h5:n.toNat%32<=31:=by omega
   refine⟨by decide,⟨by omega,by omega⟩,by decide,g0d _, ?_⟩;rw[g0i,show Min.min (n.toNat%32) u32.bits=n.toNat%32 from by show Min.min (n.toNat%32) 32= _;omega];rw[A8l u (by omega) (by omega),g0i, <-hb];have hd:=R6 u (n.toNat/32);have e3:Int.fdiv (dg a (n.toNat/32):Int) (2^(n.toNat%32))=((dg a (n.toNat/32)/2^(n.toNat%32):Nat):Int):=by
    rw[show((2:Int)^(n.toNat%32))=((2^(n.toNat%32):Nat):Int)from by rw[g6v];rfl,g2d _ (g0d _)];rfl
   have a0:dg a (n.toNat/32)/2^(n.toNat%32)<=dg a (n.toNat/32):=g6j _ _;rw[e3];generalize dg a (n.toNat/32)/2^(n.toNat%32)=Z at*;rw[show u32.bits=32 from rfl,F9x (g0d _) (by omega),w32 (by omega) (by omega),g0i]
theorem C9m (x:A9 A4f.args) (hw:awf A4f.args x) (hp:A4f.pre x):C4f x:=by
 obtain⟨a,b,_⟩:=x;have ha:A5 a:=A2 hw.1.2;have hb:A5 b:=A2 hw.2.1.2;change List Int at a b;obtain⟨la,lb⟩:a.length<=8796093022208/\b.length<=8796093022208:=hp;have n2:=C0 hb;simp only[C4f];refine⟨by show b.length<=35184372088832;omega, ?_⟩;rintro⟨d,_⟩ _ hd;simp only at hd⊢;have ac:nv d=nv b:=by rw[hd,F4]
 have ar:d.length<=b.length:=by rw[hd];exact n2
 refine⟨fun h=> ?_,fun h=> ?_⟩
 . have h:=g0a h;have h0:nv b=0:=by rw[<-ac,g0m (l:=d) (by omega)];rfl
   exact⟨fun _=>by trivial,fun h1=>absurd h0 h1⟩
 have h:=g0b h;have a3:nv b≠0:=fun e=>h (by rw[hd,e,O4];rfl)
 refine⟨by show a.length<=35184372088832;omega, ?_⟩;rintro⟨u,su,_⟩ ⟨ab,_⟩ ⟨u1,u2⟩;refine⟨by show d.length<=35184372088832;omega, ?_⟩;rintro⟨v,sv,_⟩ _ ⟨v1,v2⟩;change Int at u v;change Bool at su sv;simp only at u1 u2 v1 v2 ab⊢;rw[ac]at v1 v2;refine⟨fun hs=> ?_,fun _=> ?_⟩
 . rw[J5,g0c]at hs;have a1:nv a<18446744073709551616:=by
    rcases g2i (nv a) 18446744073709551616 with h1|h1
    . exact h1
    . rw[u2 h1]at hs;exact absurd hs.1 (by decide)
   have a2:nv b<18446744073709551616:=by
    rcases g2i (nv b) 18446744073709551616 with h1|h1
    . exact h1
    . rw[v2 h1]at hs;exact absurd hs.2 (by decide)
   have hu:=(u1 a1).1;have hv:=(v1 a2).1;have e1:Int.tdiv u v=((nv a/nv b:Nat):Int):=by rw[hu,hv];rfl
   have e2:Int.tmod u v=((nv a%nv b:Nat):Int):=by rw[hu,hv];rfl
   have hq:nv a/nv b<=nv a:=g6j _ _;refine⟨by omega,by omega,trivial, ?_⟩;rintro⟨q,_⟩ _ a5;refine⟨trivial, ?_⟩;rintro⟨m,_⟩ _ hm;simp only at a5 hm⊢;refine⟨fun h0=>absurd h0 a3,fun _=>⟨?_, ?_,by trivial⟩⟩
   . rw[a5,e1];generalize nv a/nv b=Q at*;rw[w64 (by omega) (by omega)];rfl
   . rw[hm,e2];rfl
 . refine⟨⟨by omega,g0k _,by omega,by omega⟩,by show a.length<=17592186044416;omega, ?_⟩;rintro⟨n,_⟩ _ hn;change Int at n;simp only at hn⊢;have ap:=G0u ha;have a9:=E6i (nv a);rw[hn,wr (a:=(A0j (nv a):Int)-1) (by omega) (by omega)];clear hn u1 u2 v1 v2 ab;refine⟨fun p=> -1<=p.2.1/\p.2.1<=(A0j (nv a):Int)-1/\p.1=nc (nv a/2^(p.2.1+1).toNat%nv b)/\nv p.2.2.1=nv a/2^(p.2.1+1).toNat/nv b*2^(p.2.1+1).toNat/\p.2.2.1.length=a.length,fun p=>(p.2.1+1).toNat,⟨by show(-1:Int)<=(A0j (nv a):Int)-1;omega,g0k _, ?_, ?_, ?_⟩, ?_⟩
   . show []= _;rw[show(((A0j (nv a):Int)-1)+1).toNat=A0j (nv a)from by omega,g3t a9,Nat.zero_mod,O4]
   . show nv (List.replicate _ 0)= _;rw[B6g,show(((A0j (nv a):Int)-1)+1).toNat=A0j (nv a)from by omega,g3t a9,h2v,g7j]
   . show(List.replicate _ 0).length= _;simp
   rintro⟨r,i,q,_⟩ ⟨_,_,ak,_⟩ ⟨i0,i1,hr,hq,ae⟩;change List Int at r q;change Int at i;have ad:A5 q:=A2 ak.2;simp only at i0 i1 hr hq ae⊢;refine⟨fun hi=> ?_,fun hi=> ?_⟩
   . have hi:=g0a hi;obtain⟨b0,b1,b2⟩:=G3l (a:=nv a) (b:=nv b) (i:=i.toNat) a3;rw[show(i+1).toNat=i.toNat+1 from by omega]at hr hq;have aa:nv a/2^(i.toNat+1)%nv b<nv b:=g5t _ (g2p a3);have am:nv a/2^i.toNat%2<2:=g5t _ (by decide);have a8:nv r=nv a/2^(i.toNat+1)%nv b:=by rw[hr,F4]
     rw[<-a8]at b1 b2 aa;have ai:r.length<=8796093022208:=by
      have:=H7 (g5o aa);rw[a8, <-hr]at this;omega
     have aj:r=nc (nv r):=by rw[a8];exact hr
     clear hr a8;generalize hM:nv a/2^(i.toNat+1)/nv b=M at*;generalize aq:nv a/2^i.toNat%2=bt at*;have e1:i64.wrap (Int.tdiv i 32)=((i.toNat/32:Nat):Int):=by
      rw[g7x hi,wr (by omega) (by omega)];omega
     have e2:u64.wrap (Int.tmod i 32)=((i.toNat%32:Nat):Int):=by
      rw[g3k hi,w64 (by omega) (by omega)];omega
     have h5:i.toNat%32<=31:=by omega
     have ah:i.toNat/32<q.length:=by omega
     rw[e1,e2,wr (a:=i-1) (by omega) (by omega)];refine⟨fun p=>p.1=nc (nv a/2^i.toNat%nv b)/\nv p.2.1=nv a/2^i.toNat/nv b*2^i.toNat/\p.2.1.length=a.length,⟨⟨by show r.length<= _;omega,by show r.length<= _;omega⟩, ?_⟩, ?_⟩
     . rintro⟨r2,_⟩ _ a6;simp only at a6⊢;have l2:r2.length<=8796093022209:=by
        have:=D8j (nv r) (nv r);rw[a6];rw[<-aj]at this;omega
       refine⟨fun p=>p.1=nc (2*nv r+bt),⟨hi, ?_⟩, ?_⟩
       . rintro⟨z,_⟩ _ hz;simp only at hz⊢;refine⟨fun h1=> ?_,fun h1=> ?_⟩
         . have h1:=g0a h1;refine⟨⟨by show r2.length<= _;omega,by show([1]:List Int).length<= _;decide⟩, ?_⟩;rintro⟨r3,_⟩ _ a0;simp only at a0⊢;rw[a0,a6,F4,H1h];congr 1;omega
         . have h1:=g0b h1;show r2= _;rw[a6];congr 1;omega
       rintro⟨r3,_⟩ _ a0;simp only at a0⊢;have ag:nv r3=2*nv r+bt:=by rw[a0,F4]
       have l3:r3.length<=8796093022210:=by
        have e:2*nv r+bt<=(nv r+nv r)+(nv r+nv r)\/nv r=0:=by omega
        rw[a0];rcases e with e|e
        . have a1:=H7 e;have a2:=D8j (nv r+nv r) (nv r+nv r);rw[<-a6]at a2;omega
        . have a1:=H7 (m:=2*nv r+bt) (n:=1) (by omega);rw[C1v]at a1;have:([1]:List Int).length=1:=rfl;omega
       refine⟨⟨by show r3.length<= _;omega,by show d.length<= _;omega⟩, ?_⟩;rintro⟨r5,ok,_⟩ _ a7;change Bool at ok;simp only at a7⊢;rw[ag,ac]at a7;refine⟨fun a4=> ?_,fun a4=> ?_⟩
       . have af:nv b<=2*nv r+bt:=by
          rcases g2i (2*nv r+bt) (nv b)with h1|h1
          . rw[(a7.1 h1).2]at a4;exact absurd a4 (by decide)
          . exact h1
         rw[g1c af]at b1 b2;obtain⟨bb,s1,s2⟩:=G8j (q:=q) ad (M:=M) (i:=i.toNat) hq ah;have ao:=R6 ad (i.toNat/32);obtain⟨o1,o2⟩:=G1b (d:=dg q (i.toNat/32)) (b:=bb) (s:=i.toNat%32) s1 (by omega) h5;refine⟨by decide,⟨by omega,by omega⟩,by decide,g0d _,⟨by omega,by omega⟩, ?_, ?_, ?_⟩
         . show r5= _;rw[(a7.2 af).1,b2]
         . show nv (q.set _ _)= _;rw[g0i,g0i,show Min.min (i.toNat%32) u32.bits=i.toNat%32 from by show Min.min (i.toNat%32) 32= _;omega];rw[Y5 ad,Int.one_mul,show((2:Int)^(i.toNat%32))=((2^(i.toNat%32):Nat):Int)from by rw[g6v];rfl];have aw:2^(i.toNat%32)<=2^31:=g1v (by decide) h5;have av:(0:Int)<=((2^(i.toNat%32):Nat):Int):=g0d _;rw[w32 (a:=((2^(i.toNat%32):Nat):Int)) (by omega) (by omega),show u32.bits=32 from rfl,o1,w32 (by omega) (by omega),s2,b1]
         . show(q.set _ _).length= _;rw[g0j];exact ae
       . have au:2*nv r+bt<nv b:=by
          rcases g2i (2*nv r+bt) (nv b)with h1|h1
          . exact h1
          . rw[(a7.2 h1).2]at a4;exact absurd a4 (by decide)
         rw[g0u (by omega)]at b1 b2;refine⟨?_, ?_,ae⟩
         . show r3= _;rw[a0,b2,h1s]
         . show nv q= _;rw[hq,b1,g2x,g2a];grind
     . rintro⟨r',q',_⟩ _ ⟨j1,j2,j3⟩;simp only at j1 j2 j3⊢;refine⟨⟨by omega,by omega, ?_, ?_,j3⟩,by omega⟩
       . rw[show i-1+1=i from by omega];exact j1
       . rw[show i-1+1=i from by omega];exact j2
   . have hi:=g0b hi;rw[show(i+1).toNat=0 from by omega,h2u,h2g]at hr hq;rw[g8m]at hq;have ai:r.length<=8796093022208:=by
      have:=H7 (g5o (g5t (nv a) (g2p a3)));rw[<-hr]at this;omega
     refine⟨by show q.length<= _;omega, ?_⟩;rintro⟨q',_⟩ _ a5;refine⟨by show r.length<= _;omega, ?_⟩;rintro⟨r',_⟩ _ hr';simp only at a5 hr'⊢;refine⟨fun h=>absurd h a3,fun _=>⟨by rw[a5,hq],by rw[hr',hr,F4],by trivial⟩⟩
theorem D8u (x:A9 B2z.args) (hw:awf B2z.args x) (hp:B2z.pre x):D8l x:=by
 obtain⟨a,b,_⟩:=x;have ha:A5 a:=A2 hw.1.2;have hb:A5 b:=A2 hw.2.1.2;change List Int at a b;obtain⟨la,lb⟩:a.length<=8796093022208/\b.length<=8796093022208:=hp;have n1:=C0 ha;have n2:=C0 hb;simp only[D8l];refine⟨by show a.length<=35184372088832;omega, ?_⟩;rintro⟨r,_⟩ _ hr;refine⟨by show b.length<=35184372088832;omega, ?_⟩;rintro⟨s,_⟩ _ hs;simp only at hr hs⊢;refine⟨fun p=>p.1=nc (nv p.1)/\p.2.1=nc (nv p.2.1)/\Nat.gcd (nv p.1) (nv p.2.1)=Nat.gcd (nv a) (nv b)/\p.1.length<=8796093022208/\p.2.1.length<=8796093022208,fun p=>nv p.2.1,⟨by show r=nc (nv r);rw[hr,F4],by show s=nc (nv s);rw[hs,F4],by show Nat.gcd (nv r) (nv s)= _;rw[hr,hs,F4,F4],by show r.length<= _;rw[hr];omega,by show s.length<= _;rw[hs];omega⟩, ?_⟩;rintro⟨u,v,_⟩ _ ⟨e1,e2,hg,l1,l2⟩;change List Int at u v;simp only at e1 e2 hg l1 l2⊢;refine⟨fun h=> ?_,fun h=> ?_⟩
 . have h:=g0a h;have a3:0<nv v:=by
    rcases g4t (nv v)with h1|h1
    . rw[h1,O4]at e2;rw[e2]at h;exact absurd h (by simp)
    . exact h1
   refine⟨⟨l1,l2⟩, ?_⟩;rintro⟨q,m,ok,_⟩ _ a2;simp only at a2⊢;obtain⟨_,hm,_⟩:=a2.2 (by omega);have a0:nv m=nv u%nv v:=by rw[hm,F4]
   have a1:=g5t (nv u) a3;refine⟨⟨e2,by rw[a0];exact hm, ?_,l2, ?_⟩,by rw[a0];exact a1⟩
   . rw[a0, <-hg,g6o (nv u),g6o (nv v)];exact(h2k (nv v) (nv u)).symm
   . have:=H7 (g5o a1);rw[<-hm, <-e2]at this;omega
 . have h:=g0b h;have h0:nv v=0:=by rw[g0m (l:=v) (by omega)];rfl
   rw[h0,h0i]at hg;rw[e1,hg]
def E7w:An:= {}
def E6y:An:= {}
def E2s:An:= {}
def D5k:An:= {}
def E6q:An:= {}
def F4i:An:= {}
def F2l:An:= {}
def F2a:An:= {plan:= [(2,[1,3,5],[8],true,(.p 0 (.q 1 (.p 2 (.q 3 (.p 4 (.q 5 (.e 6 (.e 7 (.e 8 .done))))))))))]}
def F3s:An:= {plan:= [(1,[0,1],[4],true,(.q 0 (.q 1 (.e 2 (.e 3 (.e 4 .done))))))]}
def F2j:An:= {plan:= [(1,[1,3,6,8],[11],true,(.p 0 (.q 1 (.p 2 (.q 3 (.p 4 (.p 5 (.q 6 (.p 7 (.q 8 (.e 9 (.e 10 (.e 11 .done)))))))))))))]}
def F3j:An:= {}
def E0u:An:= {join:= [(10,⟨[4,5],[],[],[(2,36,[.val .bool, .val (.sl (.int .u32))]),(3,36,[.val .bool, .val (.sl (.int .u32))])],[]⟩)],plan:= [(4,[1,3,8],[11,12],true,(.p 0 (.q 1 (.p 2 (.q 3 (.p 4 (.p 5 (.p 7 (.q 8 (.p 9 (.e 6 (.e 10 (.e 11 (.e 12 .done)))))))))))))),(6,[0,1],[4],true,(.q 0 (.q 1 (.e 2 (.e 3 (.e 4 .done)))))),(8,[0],[3],true,(.q 0 (.e 1 (.e 2 (.e 3 .done))))),(9,[0],[3],true,(.q 0 (.e 1 (.e 2 (.e 3 .done))))),(10,[0],[2,3],false,(.q 0 (.or 1 (.e 2 (.e 3 (.p 4 .done))) (.e 2 (.e 1 (.e 3 (.p 4 .done)))))))]}
def D1s:A9 A7z.args->Prop:=fun(x:Bool×List Int×Unit)=>sh0 x.2.1/\∀(r:List Int×Unit),WfU r.1/\True->r.1=nc (nv x.2.1)->(sel x.1 (decide ((0:Int)<(r.1.length:Int))) false,r.1)=ic (iv (x.1,x.2.1))
def D4a:A9 A9j.args->Prop:=fun(x:(Bool×List Int)×Unit)=>sh0 x.1.2/\∀(r:(Bool×List Int)×Unit),WfZ r.1/\True->r.1=ic (iv x.1)->r.1=ic (iv x.1)
def C8r:A9 A6a.args->Prop:=fun(x:(Bool×List Int)×(Bool×List Int)×Unit)=>((x.1.1==x.2.1.1)=true->True)/\∀(r:Bool×Unit),((x.1.1==x.2.1.1)=true->(True/\True)/\r.1=decide (x.1.2=x.2.1.2))->sel (x.1.1==x.2.1.1) r.1 false=decide (x.1=x.2.1)
def B8g:A9 A2c.args->Prop:=fun(x:Int×Unit)=>(decide (x.1<0)=true->True/\∀(r:List Int×Unit),WfU r.1/\True->r.1=nc (u64.wrap (u64.wrap (i64.wrap (-i64.wrap (x.1+1)))+(1:Int))).toNat->sh0 r.1/\∀(a:(Bool×List Int)×Unit),WfZ a.1/\True->a.1=ic (iv (true,r.1))->a.1=ic x.1)/\(decide (x.1<0)=false->True/\∀(r:List Int×Unit),WfU r.1/\True->r.1=nc (u64.wrap x.1).toNat->sh0 r.1/\∀(a:(Bool×List Int)×Unit),WfZ a.1/\True->a.1=ic (iv (false,r.1))->a.1=ic x.1)
def D1w:A9 A9o.args->Prop:=fun(x:(Bool×List Int)×Unit)=>let b:=(iv x.1);sh0 x.1.2/\∀(r:(Bool×List Int)×Unit),let a:Prop:=((r.1.2.length:Int)=(0:Int));WfZ r.1/\True->r.1=ic b->(r.1.1=true->(-1:Int)=b.sign)/\(r.1.1=false->(decide a=true->(0:Int)=b.sign)/\(decide a=false->(1:Int)=b.sign))
def D7d:A9 B4b.args->Prop:=fun(x:(Bool×List Int)×Unit)=>sh0 x.1.2/\∀(r:(Bool×List Int)×Unit),WfZ r.1/\True->r.1=ic (iv (!x.1.1,x.1.2))->r.1=ic (-iv x.1)
def D7a:A9 B3r.args->Prop:=fun(x:(Bool×List Int)×Unit)=>sh0 x.1.2/\∀(r:(Bool×List Int)×Unit),WfZ r.1/\True->r.1=ic (iv (false,x.1.2))->r.1=ic (↑(iv x.1).natAbs:Int)
def D7z:A9 B4d.args->Prop:=fun(x:(Bool×List Int)×(Bool×List Int)×Unit)=>let b:Prop:=(sh1 x.1.2/\sh1 x.2.1.2);let a:=(iv x.1+iv x.2.1);((x.1.1==x.2.1.1)=true->b/\∀(r:List Int×Unit),WfU r.1/\True->r.1=nc (nv x.1.2+nv x.2.1.2)->sh0 r.1/\∀(c:(Bool×List Int)×Unit),WfZ c.1/\True->c.1=ic (iv (x.1.1,r.1))->c.1=ic a)/\((x.1.1==x.2.1.1)=false->b/\∀(r:List Int×Bool×Unit),WfU r.1/\True/\True->(nv x.1.2<nv x.2.1.2->r.1= []/\r.2.1=false)/\(nv x.2.1.2<=nv x.1.2->r.1=nc (nv x.1.2-nv x.2.1.2)/\r.2.1=true)->(r.2.1=true->sh0 r.1/\∀(c:(Bool×List Int)×Unit),WfZ c.1/\True->c.1=ic (iv (x.1.1,r.1))->c.1=ic a)/\(r.2.1=false->(sh1 x.2.1.2/\sh1 x.1.2)/\∀(r:List Int×Bool×Unit),WfU r.1/\True/\True->(nv x.2.1.2<nv x.1.2->r.1= []/\r.2.1=false)/\(nv x.1.2<=nv x.2.1.2->r.1=nc (nv x.2.1.2-nv x.1.2)/\r.2.1=true)->sh0 r.1/\∀(c:(Bool×List Int)×Unit),WfZ c.1/\True->c.1=ic (iv (x.2.1.1,r.1))->c.1=ic a))
def D8a:A9 B5f.args->Prop:=fun(x:(Bool×List Int)×(Bool×List Int)×Unit)=>sh0 x.2.1.2/\∀(r:(Bool×List Int)×Unit),WfZ r.1/\True->r.1=ic (-iv x.2.1)->(sh1 x.1.2/\sh1 r.1.2)/\∀(a:(Bool×List Int)×Unit),WfZ a.1/\True->a.1=ic (iv x.1+iv r.1)->a.1=ic (iv x.1-iv x.2.1)
def D6g:A9 B4h.args->Prop:=fun(x:(Bool×List Int)×(Bool×List Int)×Unit)=>(sh1 x.1.2/\sh1 x.2.1.2)/\∀(r:List Int×Unit),WfU r.1/\True->r.1=nc (nv x.1.2*nv x.2.1.2)->sh0 r.1/\∀(a:(Bool×List Int)×Unit),WfZ a.1/\True->a.1=ic (iv (x.1.1 !=x.2.1.1,r.1))->a.1=ic (iv x.1*iv x.2.1)
def D7p:A9 B5n.args->Prop:=fun(x:(Bool×List Int)×(Bool×List Int)×Unit)=>(sh2 x.1.2/\sh2 x.2.1.2)/\∀(r:List Int×Unit),WfU r.1/\True->r.1=nc ((nv x.1.2).gcd (nv x.2.1.2))->sh0 r.1/\∀(a:(Bool×List Int)×Unit),WfZ a.1/\True->a.1=ic (iv (false,r.1))->a.1=ic (↑((nv x.1.2).gcd (nv x.2.1.2)):Int)
def C3r:A9 A3t.args->Prop:=fun(x:(Bool×List Int)×(Bool×List Int)×Unit)=>let c:=(iv x.1%iv x.2.1);let b:=(iv x.1/iv x.2.1);(sh2 x.1.2/\sh2 x.2.1.2)/\∀(r:List Int×List Int×Bool×Unit),WfU r.1/\WfU r.2.1/\True/\True->(nv x.2.1.2=0->r.2.2.1=false)/\(nv x.2.1.2≠0->r.1=nc (nv x.1.2/nv x.2.1.2)/\r.2.1=nc (nv x.1.2%nv x.2.1.2)/\r.2.2.1=true)->((!r.2.2.1)=true->iv x.2.1≠0->(false,[])=ic b/\(false,[])=ic c/\false=true)/\((!r.2.2.1)=false->sh0 r.1/\∀(e:(Bool×List Int)×Unit),WfZ e.1/\True->e.1=ic (iv (x.1.1 !=x.2.1.1,r.1))->sh0 r.2.1/\∀(f:(Bool×List Int)×Unit),WfZ f.1/\True->f.1=ic (iv (x.1.1,r.2.1))->∃(J:Bool×List Int×Bool×List Int×Unit->Prop),((f.1.1=true->sh0 x.2.1.2/\∀(r:(Bool×List Int)×Unit),WfZ r.1/\True->r.1=ic (↑(iv x.2.1).natAbs:Int)->(sh1 f.1.2/\sh1 r.1.2)/\∀(g:(Bool×List Int)×Unit),WfZ g.1/\True->g.1=ic (iv f.1+iv r.1)->(x.2.1.1=true->True/\∀(r:(Bool×List Int)×Unit),WfZ r.1/\True->r.1=ic (1:Int)->(sh1 e.1.2/\sh1 r.1.2)/\∀(d:(Bool×List Int)×Unit),WfZ d.1/\True->d.1=ic (iv e.1+iv r.1)->J (d.1.1,d.1.2,g.1.1,g.1.2,()))/\(x.2.1.1=false->True/\∀(r:(Bool×List Int)×Unit),WfZ r.1/\True->r.1=ic (1:Int)->(sh1 e.1.2/\sh1 r.1.2)/\∀(d:(Bool×List Int)×Unit),WfZ d.1/\True->d.1=ic (iv e.1-iv r.1)->J (d.1.1,d.1.2,g.1.1,g.1.2,())))/\(f.1.1=false->J (e.1.1,e.1.2,f.1.1,f.1.2,())))/\∀(p:Bool×List Int×Bool×List Int×Unit),let a:Prop:=(iv x.2.1≠0->(p.1,p.2.1)=ic b/\(p.2.2.1,p.2.2.2.1)=ic c/\true=true);Ty.bool.wf p.1/\(Ty.int u32).sl.wf p.2.1/\Ty.bool.wf p.2.2.1/\(Ty.int u32).sl.wf p.2.2.2.1/\True->J p->a/\a)
theorem D5l (x:A9 A7z.args) (hw:awf A7z.args x) (hp:A7z.pre x):D1s x:=by
 obtain⟨b,l,_⟩:=x;change Bool at b;change List Int at l;have hl:l.length<=35184372088832:=hp;simp only[D1s];refine⟨by omega, ?_⟩;rintro⟨r,_⟩ _ u;simp only at u⊢;rw[H4m,u,J5];have e:decide ((0:Int)<((nc (nv l)).length:Int))=decide (nv l≠0):=by
  rw[g4z];constructor
  . intro h h0;rw[h0,O4]at h;simp at h
  . intro h;have:(nc (nv l)).length≠0:=fun h1=>h (C8z.1 (g0m h1))
    omega
 rw[e]
theorem D4z (x:A9 A9j.args) (hw:awf A9j.args x) (u:A9j.pre x):D4a x:=by
 simp only[D4a];exact⟨u,fun r _ h=>h⟩
theorem D3z (x:A9 A6a.args) (hw:awf A6a.args x) (hp:A6a.pre x):C8r x:=by
 obtain⟨⟨a,l⟩,⟨b,m⟩,_⟩:=x;change Bool at a b;change List Int at l m;simp only[C8r];refine⟨fun _=>trivial, ?_⟩;rintro⟨r,_⟩ u;simp only at u⊢;by_cases h:a=b
 . subst h;have:=(u (by simp)).2;rw[this];simp[sel]
 . have:(a==b)=false:=by simpa using h
   rw[this];simp[sel,h]
theorem C6o (x:A9 A2c.args) (hw:awf A2c.args x) (_:A2c.pre x):B8g x:=by
 obtain⟨v,_⟩:=x;change Int at v;have hv:i64.min<=v/\v<=i64.max:=hw.1;rw[C0m,C7y]at hv;have u:∀n:Nat,n<=9223372036854775808->sh0 (nc n):=fun n hn=>by
  have:(nc n).length<=2:=A7d (by omega);show _ <=35184372088832;omega
 simp only[B8g];refine⟨fun h=>⟨trivial, ?_⟩,fun h=>⟨trivial, ?_⟩⟩
 . have h:=g0a h;rintro⟨r,_⟩ _ hr;simp only at hr⊢;have e:(u64.wrap (u64.wrap (i64.wrap (-i64.wrap (v+1)))+1)).toNat=v.natAbs:=by
    rw[wr (a:=v+1) (by omega) (by omega),wr (by omega) (by omega),w64 (a:= -(v+1)) (by omega) (by omega),w64 (by omega) (by omega)];omega
   rw[e]at hr;subst hr;refine⟨u _ (by omega), ?_⟩;rintro⟨s,_⟩ _ u;simp only at u⊢;rw[u,E6c,F4];congr 1;omega
 . have h:=g0b h;rintro⟨r,_⟩ _ hr;simp only at hr⊢;have e:(u64.wrap v).toNat=v.natAbs:=by rw[A1u];omega
   rw[e]at hr;subst hr;refine⟨u _ (by omega), ?_⟩;rintro⟨s,_⟩ _ u;simp only at u⊢;rw[u,B1p,F4];congr 1;omega
theorem D5u (x:A9 A9o.args) (hw:awf A9o.args x) (hp:A9o.pre x):D1w x:=by
 obtain⟨a,_⟩:=x;simp only[D1w];refine⟨hp, ?_⟩;rintro⟨r,_⟩ _ hr;simp only at hr⊢;subst hr;generalize iv a=v;refine⟨fun h=> ?_,fun h=>⟨fun u=> ?_,fun u=> ?_⟩⟩
 . have h:v<0:=g0a h;exact(g6l h).symm
 . have u:=g0a u;have:nc v.natAbs= []:=g0m (by show(ic v).2.length=0;omega);rw[C8z]at this;rw[show v=0 from by omega];rfl
 . have h:¬v<0:=g0b h;have u:=g0b u;have:v≠0:=fun h0=>u (by rw[h0,E9b];rfl)
   exact(g3y (by omega)).symm
theorem E0a (x:A9 B4b.args) (hw:awf B4b.args x) (hp:B4b.pre x):D7d x:=by
 obtain⟨⟨b,l⟩,_⟩:=x;simp only[D7d];refine⟨hp, ?_⟩;rintro⟨r,_⟩ _ u;simp only at u⊢;rw[u,G5v]
theorem D9j (x:A9 B4d.args) (hw:awf B4d.args x) (hp:B4d.pre x):D7z x:=by
 obtain⟨⟨a,l⟩,⟨b,m⟩,_⟩:=x;have hl:A5 l:=A2 hw.1.2.2;have hm:A5 m:=A2 hw.2.1.2.2;change Bool at a b;change List Int at l m;obtain⟨p1,p2⟩:l.length<=17592186044416/\m.length<=17592186044416:=hp;have q1:sh1 l:=by omega
 have q2:sh1 m:=by omega
 have n1:=C0 hl;have n2:=C0 hm;have n3:=D8j (nv l) (nv m);simp only[D7z];refine⟨fun h=>⟨⟨q1,q2⟩, ?_⟩,fun h=>⟨⟨q1,q2⟩, ?_⟩⟩
 . have h:a=b:=by simpa using h
   subst h;rintro⟨r,_⟩ _ hr;simp only at hr⊢;subst hr;refine⟨by omega, ?_⟩;rintro⟨s,_⟩ _ hs;simp only at hs⊢;rw[hs];congr 1;cases a
   . simp only[B1p,F4];omega
   . simp only[E6c,F4];omega
 . have h:a≠b:=by simpa using h
   rintro⟨r,ok,_⟩ _ ⟨h1,h2⟩;change Bool at ok;simp only at h1 h2⊢;refine⟨fun u=> ?_,fun u=>⟨⟨q2,q1⟩, ?_⟩⟩
   . have a0:nv m<=nv l:=by
      rcases g2i (nv l) (nv m)with h3|h3
      . rw[(h1 h3).2]at u;cases u
      . exact h3
     rw[(h2 a0).1];have:=H7 (show nv l-nv m<=nv l by omega);refine⟨by omega, ?_⟩;rintro⟨s,_⟩ _ hs;simp only at hs⊢;rw[hs];congr 1;cases a<;>cases b<;>simp only[E6c,B1p,F4]<;>first|omega|exact absurd rfl h
   . have a1:nv l<nv m:=by
      rcases g2i (nv l) (nv m)with h3|h3
      . exact h3
      . rw[(h2 h3).2]at u;cases u
     rintro⟨r2,a2,_⟩ _ ⟨_,h4⟩;simp only at h4⊢;rw[(h4 (by omega)).1];have:=H7 (show nv m-nv l<=nv m by omega);refine⟨by omega, ?_⟩;rintro⟨s,_⟩ _ hs;simp only at hs⊢;rw[hs];congr 1;cases a<;>cases b<;>simp only[E6c,B1p,F4]<;>first|omega|exact absurd rfl h
theorem E1a (x:A9 B4h.args) (hw:awf B4h.args x) (hp:B4h.pre x):D6g x:=by
 obtain⟨⟨a,l⟩,⟨b,m⟩,_⟩:=x;have hl:A5 l:=A2 hw.1.2.2;have hm:A5 m:=A2 hw.2.1.2.2;change Bool at a b;change List Int at l m;obtain⟨p1,p2⟩:l.length<=17592186044416/\m.length<=17592186044416:=hp;have n1:=C0 hl;have n2:=C0 hm;have n3:=B8i (nv l) (nv m);simp only[D6g];refine⟨⟨by omega,by omega⟩, ?_⟩;rintro⟨r,_⟩ _ u;simp only at u⊢;subst u;refine⟨by omega, ?_⟩;rintro⟨s,_⟩ _ hs;simp only at hs⊢;rw[hs];congr 1;cases a<;>cases b<;>simp[E6c,B1p,F4,g4c,Int.neg_mul,Int.mul_neg]
theorem E1c (x:A9 B3r.args) (hw:awf B3r.args x) (hp:B3r.pre x):D7a x:=by
 obtain⟨⟨b,l⟩,_⟩:=x;simp only[D7a];refine⟨hp, ?_⟩;rintro⟨r,_⟩ _ u;simp only at u⊢;rw[u,G5,B1p]
theorem E1z (x:A9 B5f.args) (hw:awf B5f.args x) (hp:B5f.pre x):D8a x:=by
 obtain⟨a,b,_⟩:=x;have hb:A5 b.2:=A2 hw.2.1.2.2;change C9x at a b;obtain⟨p1,p2⟩:a.2.length<=17592186044416/\b.2.length<=17592186044416:=hp;have n2:=C0 hb;simp only[D8a];refine⟨by show b.2.length<=35184372088832;omega, ?_⟩;rintro⟨r,_⟩ _ u;simp only at u⊢;refine⟨⟨p1,by show r.2.length<= _;rw[u,A1b,g8g,G5];omega⟩, ?_⟩;rintro⟨s,_⟩ _ hs;simp only at hs⊢;rw[hs,u,A0x, <-Int.sub_eq_add_neg]
theorem D9o (x:A9 B5n.args) (hw:awf B5n.args x) (hp:B5n.pre x):D7p x:=by
 obtain⟨a,b,_⟩:=x;have ha:A5 a.2:=A2 hw.1.2.2;have hb:A5 b.2:=A2 hw.2.1.2.2;change C9x at a b;obtain⟨p1,p2⟩:a.2.length<=8796093022208/\b.2.length<=8796093022208:=hp;have n1:=C0 ha;have n2:=C0 hb;simp only[D7p];refine⟨⟨p1,p2⟩, ?_⟩;rintro⟨r,_⟩ _ u;simp only at u⊢;have hl:r.length<=8796093022209:=by
  rw[u];rcases g4t (nv a.2)with h|h
  . rw[h,Nat.gcd_zero_left];omega
  . have:=H7 (Nat.le_of_dvd h (Nat.gcd_dvd_left (nv a.2) (nv b.2)));omega
 refine⟨by show r.length<=35184372088832;omega, ?_⟩;rintro⟨s,_⟩ _ hs;simp only at hs⊢;rw[hs,B1p,u,F4]
theorem C9o (x:A9 A3t.args) (hw:awf A3t.args x) (hp:A3t.pre x):C3r x:=by
 obtain⟨⟨sa,a⟩,⟨sb,b⟩,_⟩:=x;have ha:A5 a:=A2 hw.1.2.2;have hb:A5 b:=A2 hw.2.1.2.2;change Bool at sa sb;change List Int at a b;obtain⟨p1,p2⟩:a.length<=8796093022208/\b.length<=8796093022208:=hp;have n1:=C0 ha;have n2:=C0 hb;simp only[C3r];refine⟨⟨p1,p2⟩, ?_⟩;rintro⟨q,m,ok,_⟩ _ ⟨z1,z2⟩;change Bool at ok;simp only at z1 z2⊢;refine⟨fun h a0=> ?_,fun h=> ?_⟩
 . have u:nv b≠0:=fun e=>a0 (by unfold iv;simp[e])
   rw[(z2 u).2.2]at h;exact absurd h (by decide)
 have u:nv b≠0:=fun e=>by rw[z1 e]at h;exact absurd h (by decide)
 obtain⟨hq,hm,_⟩:=z2 u;have lq:q.length<=8796093022208:=by
  have:=H7 (g6j (nv a) (nv b));rw[hq];omega
 have lm:m.length<=8796093022208:=by
  have:=H7 (g5o (g5t (nv a) (g2p u)));rw[hm];omega
 have vq:nv q=nv a/nv b:=by rw[hq,F4]
 have vm:nv m=nv a%nv b:=by rw[hm,F4]
 obtain⟨c1,c2⟩:=H1k (sa:=sa) (sb:=sb) (A:=nv a) (B:=nv b) u (a:=iv (sa,a)) (b:=iv (sb,b)) (q:=iv (sa !=sb,q)) (m:=iv (sa,m)) rfl rfl (by rw[<-vq];rfl) (by rw[<-vm];rfl);refine⟨by show q.length<=35184372088832;omega, ?_⟩;rintro⟨Q,_⟩ _ hQ;refine⟨by show m.length<=35184372088832;omega, ?_⟩;rintro⟨M,_⟩ _ hM;simp only at hQ hM⊢;have lQ:Q.2.length<=8796093022208:=by
  have:(nc (nv q)).length=q.length:=by rw[vq, <-hq]
  rw[hQ,A1b,G5];show(nc (nv q)).length<= _;omega
 have lM:M.2.length<=8796093022208:=by
  have:(nc (nv m)).length=m.length:=by rw[vm, <-hm]
  rw[hM,A1b,G5];show(nc (nv m)).length<= _;omega
 refine⟨fun p=>(p.1,p.2.1)=ic (iv (sa,a)/iv (sb,b))/\(p.2.2.1,p.2.2.2.1)=ic (iv (sa,a)%iv (sb,b)),⟨fun h1=> ?_,fun h1=> ?_⟩, ?_⟩
 . have h1:iv (sa,m)<0:=by rw[hM]at h1;exact g0a h1
   obtain⟨d1,d2,d3⟩:=c1 h1;refine⟨by show b.length<=35184372088832;omega, ?_⟩;rintro⟨B,_⟩ _ hB;simp only at hB⊢;rw[G5]at hB;have lB:B.2.length<=8796093022208:=by
    rw[hB,A1b,g3u];show(nc (nv b)).length<= _;omega
   refine⟨⟨by show M.2.length<= _;omega,by show B.2.length<= _;omega⟩, ?_⟩;rintro⟨R,_⟩ _ hR;simp only at hR⊢;have eR:R=ic (iv (sa,a)%iv (sb,b)):=by rw[hR,hM,hB,A0x,A0x,d1]
   refine⟨fun h2=>⟨trivial, ?_⟩,fun h2=>⟨trivial, ?_⟩⟩
   . rintro⟨o,_⟩ _ ho;simp only at ho⊢;refine⟨⟨by show Q.2.length<= _;omega,by show o.2.length<= _;rw[ho,F6g];show 1<= _;decide⟩, ?_⟩;rintro⟨T,_⟩ _ hT;simp only at hT⊢;exact⟨by show T= _;rw[hT,hQ,ho,A0x,A0x,d2 h2],eR⟩
   . rintro⟨o,_⟩ _ ho;simp only at ho⊢;refine⟨⟨by show Q.2.length<= _;omega,by show o.2.length<= _;rw[ho,F6g];show 1<= _;decide⟩, ?_⟩;rintro⟨T,_⟩ _ hT;simp only at hT⊢;exact⟨by show T= _;rw[hT,hQ,ho,A0x,A0x,d3 h2],eR⟩
 . have h1:¬iv (sa,m)<0:=by rw[hM]at h1;exact g0b h1
   obtain⟨d1,d2⟩:=c2 h1;exact⟨by show Q= _;rw[hQ,d2],by show M= _;rw[hM,d1]⟩
 . rintro⟨t1,t2,t3,t4,_⟩ _ ⟨j1,j2⟩;exact⟨fun _=>⟨j1,j2,by trivial⟩,fun _=>⟨j1,j2,by trivial⟩⟩
def E6u:An:= {join:= [(11,⟨[4,7,10],[2],[],[(5,36,[.val .bool, .val (.sl (.int .u32))]),(7,36,[.val .bool, .val (.sl (.int .u32))])],[]⟩)],plan:= [(5,[0,3],[5],true,(.q 0 (.p 2 (.q 3 (.e 1 (.p 4 (.e 5 .done))))))),(10,[0,2],[4,5],true,(.q 0 (.q 2 (.e 1 (.e 3 (.e 4 (.e 5 .done)))))))]}
def E7d:An:= {}
def E8i:An:= {}
def E3e:An:= {}
def C9l:An:= {plan:= [(1,[0,1],[],true,(.q 0 (.q 1 (.e 2 (.e 3 (.p 4 .done))))))]}
def F4f:An:= {}
def D4v:An:= {}
def F5m:An:= {}
def F2v:An:= {plan:= [(1,[0,4],[7],true,(.q 0 (.q 4 (.e 1 (.p 2 (.e 3 (.e 5 (.e 6 (.e 7 .done)))))))))]}
def D3p:A9 A8m.args->Prop:=fun(x:(Bool×List Int)×(Bool×List Int)×Unit)=>let a:=(0:Int);sh0 x.2.1.2/\∀(r:Int×Unit),G1 r.1/\True->r.1=(iv x.2.1).sign->(decide (r.1=a)=true->True/\∀(r:QQ×Unit),WfQ r.1/\True->r.1=rc (0:Rat)->r.1=rc (C4v x.1 x.2.1))/\(decide (r.1=a)=false->sh0 x.2.1.2/\∀(r:(Bool×List Int)×Unit),WfZ r.1/\True->r.1=ic (iv x.2.1)->((!r.1.1)=true->True)/\∀(e:Bool×Unit),((!r.1.1)=true->(True/\True)/\e.1=decide (r.1.2= [(1:Int)]))->(sel (!r.1.1) e.1 false=true->sh0 x.1.2/\∀(b:(Bool×List Int)×Unit),WfZ b.1/\True->b.1=ic (iv x.1)->(b.1,r.1.2)=rc (C4v x.1 x.2.1))/\(sel (!r.1.1) e.1 false=false->(sh2 x.1.2/\sh2 x.2.1.2)/\∀(r:(Bool×List Int)×Unit),WfZ r.1/\True->r.1=ic (↑((nv x.1.2).gcd (nv x.2.1.2)):Int)->(sh2 x.1.2/\sh2 r.1.2)/\∀(b:(Bool×List Int)×(Bool×List Int)×Bool×Unit),WfZ b.1/\WfZ b.2.1/\True/\True->(iv r.1≠a->b.1=ic (iv x.1/iv r.1)/\b.2.1=ic (iv x.1%iv r.1)/\b.2.2.1=true)->(sh2 x.2.1.2/\sh2 r.1.2)/\∀(c:(Bool×List Int)×(Bool×List Int)×Bool×Unit),WfZ c.1/\WfZ c.2.1/\True/\True->(iv r.1≠a->c.1=ic (iv x.2.1/iv r.1)/\c.2.1=ic (iv x.2.1%iv r.1)/\c.2.2.1=true)->∃(J:Bool×List Int×Bool×List Int×Unit->Prop),((c.1.1=true->sh0 b.1.2/\∀(r:(Bool×List Int)×Unit),WfZ r.1/\True->r.1=ic (-iv b.1)->sh0 c.1.2/\∀(d:(Bool×List Int)×Unit),WfZ d.1/\True->d.1=ic (-iv c.1)->J (r.1.1,r.1.2,d.1.1,d.1.2,()))/\(c.1.1=false->J (b.1.1,b.1.2,c.1.1,c.1.2,())))/\∀(p:Bool×List Int×Bool×List Int×Unit),Ty.bool.wf p.1/\(Ty.int u32).sl.wf p.2.1/\Ty.bool.wf p.2.2.1/\(Ty.int u32).sl.wf p.2.2.2.1/\True->J p->((p.1,p.2.1),p.2.2.2.1)=rc (C4v x.1 x.2.1)))
def D2c:A9 A9t.args->Prop:=fun(x:Unit)=>((false,[]),[(1:Int)])=rc (0:Rat)
def D1n:A9 A8j.args->Prop:=fun(x:QQ×Unit)=>(sh2 x.1.1.2/\sh2 x.1.2)/\∀(r:QQ×Unit),WfQ r.1/\True->r.1=rc (C4v x.1.1 (false,x.1.2))->r.1=rc (rv x.1)
def C8d:A9 A5t.args->Prop:=fun(x:QQ×QQ×Unit)=>True/\∀(r:Bool×Unit),True/\True->r.1=decide (x.1.1=x.2.1.1)->(r.1=true->True)/\∀(a:Bool×Unit),(r.1=true->(True/\True)/\a.1=decide (x.1.2=x.2.1.2))->sel r.1 a.1 false=decide (x.1=x.2.1)
def B1g:A9 X4.args->Prop:=fun(x:QQ×Unit)=>sh3 x.1/\∀(r:QQ×Unit),WfQ r.1/\True->r.1=rc (rv x.1)->True/\∀(a:Bool×Unit),True/\True->a.1=decide (x.1=r.1)->a.1=decide (x.1=rc (rv x.1))
def D6h:A9 B4v.args->Prop:=fun(x:QQ×Unit)=>sh3 x.1/\∀(r:QQ×Unit),WfQ r.1/\True->r.1=rc (rv x.1)->(false,r.1.2)=ic (↑(rv x.1).den:Int)
def B9b:A9 A2d.args->Prop:=fun(x:Int×Unit)=>True/\∀(r:(Bool×List Int)×Unit),WfZ r.1/\True->r.1=ic x.1->True/\∀(a:(Bool×List Int)×Unit),WfZ a.1/\True->a.1=ic (1:Int)->(sh2 r.1.2/\sh2 a.1.2)/\∀(b:QQ×Unit),WfQ b.1/\True->b.1=rc (C4v r.1 a.1)->b.1=ri x.1
def E4a:A9 C3t.args->Prop:=fun(x:Int×Int×Unit)=>True/\∀(r:(Bool×List Int)×Unit),WfZ r.1/\True->r.1=ic x.1->True/\∀(a:(Bool×List Int)×Unit),WfZ a.1/\True->a.1=ic x.2.1->(sh2 r.1.2/\sh2 a.1.2)/\∀(b:QQ×Unit),WfQ b.1/\True->b.1=rc (C4v r.1 a.1)->b.1=rc (Rat.divInt x.1 x.2.1)
def D6b:A9 B4c.args->Prop:=fun(x:QQ×Unit)=>sh3 x.1/\∀(r:QQ×Unit),WfQ r.1/\True->r.1=rc (rv x.1)->sh0 r.1.1.2/\∀(a:(Bool×List Int)×Unit),WfZ a.1/\True->a.1=ic (-iv r.1.1)->sh3 x.1/\∀(r:(Bool×List Int)×Unit),WfZ r.1/\True->r.1=ic (↑(rv x.1).den:Int)->(sh2 a.1.2/\sh2 r.1.2)/\∀(b:QQ×Unit),WfQ b.1/\True->b.1=rc (C4v a.1 r.1)->b.1=rc (-rv x.1)
theorem D4r (x:A9 A9t.args) (u:awf A9t.args x) (_:A9t.pre x):D2c x:=by
 simp only[D2c];exact F9l.symm
theorem D2q (x:A9 A5t.args) (hw:awf A5t.args x) (hp:A5t.pre x):C8d x:=by
 obtain⟨⟨a,l⟩,⟨b,m⟩,_⟩:=x;simp only[C8d];refine⟨trivial, ?_⟩;rintro⟨r,_⟩ _ u;refine⟨fun _=>trivial, ?_⟩;rintro⟨s,_⟩ hs;simp only at u hs⊢;by_cases h:a=b
 . subst h;have u:r=true:=by rw[u];simp
   have:=(hs u).2;rw[this,u];simp[sel]
 . have u:r=false:=by rw[u];simp[h]
   rw[u];simp[sel,h]
theorem B9z (x:A9 X4.args) (hw:awf X4.args x) (hp:X4.pre x):B1g x:=by
 obtain⟨a,_⟩:=x;simp only[B1g];refine⟨hp, ?_⟩;rintro⟨r,_⟩ _ u;refine⟨trivial, ?_⟩;rintro⟨s,_⟩ _ hs;simp only at u hs⊢;rw[hs,u]
theorem E0n (x:A9 B4v.args) (hw:awf B4v.args x) (hp:B4v.pre x):D6h x:=by
 obtain⟨a,_⟩:=x;simp only[D6h];refine⟨hp, ?_⟩;rintro⟨r,_⟩ _ u;simp only at u⊢;rw[u];unfold rc ic;simp
theorem C5l (x:A9 A2d.args) (hw:awf A2d.args x) (_:A2d.pre x):B9b x:=by
 obtain⟨v,_⟩:=x;change Int at v;have hv:i64.min<=v/\v<=i64.max:=hw.1;rw[C0m,C7y]at hv;simp only[B9b];refine⟨trivial, ?_⟩;rintro⟨r,_⟩ _ u;refine⟨trivial, ?_⟩;rintro⟨s,_⟩ _ hs;simp only at u hs⊢;subst u hs;have h2:(ic v).2.length<=2:=by rw[A1b];exact A7d (by omega)
 refine⟨⟨by omega,by rw[F6g];show 1<= _;decide⟩, ?_⟩;rintro⟨t,_⟩ _ ht;simp only at ht⊢;rw[ht,E9n (A0x 1),A0x,F0v]
theorem D5t (x:A9 A8j.args) (hw:awf A8j.args x) (hp:A8j.pre x):D1n x:=by
 obtain⟨q,_⟩:=x;change D2 at q;obtain⟨h1,h2⟩:q.1.2.length<=2199023255552/\q.2.length<=2199023255552:=hp;simp only[D1n];refine⟨⟨by show q.1.2.length<= _;omega,by show q.2.length<= _;omega⟩, ?_⟩;rintro⟨r,_⟩ _ u;simp only at u⊢;rw[u,G7g]
theorem E1f (x:A9 B4c.args) (hw:awf B4c.args x) (hp:B4c.pre x):D6b x:=by
 obtain⟨q,_⟩:=x;have l1:A5 q.1.2:=A2 hw.1.1.2.2;have l2:A5 q.2:=A2 hw.1.2.2;change D2 at q;obtain⟨h1,h2⟩:q.1.2.length<=2199023255552/\q.2.length<=2199023255552:=hp;obtain⟨n1,n2⟩:=B6n l1 l2 h1 h2 (by decide);simp only[D6b];refine⟨⟨h1,h2⟩, ?_⟩;rintro⟨r,_⟩ _ hr;simp only at hr⊢;have e:r.1=ic (rv q).num:=by rw[hr];rfl
 refine⟨by show r.1.2.length<= _;rw[e];omega, ?_⟩;rintro⟨s,_⟩ _ u;refine⟨⟨h1,h2⟩, ?_⟩;rintro⟨d,_⟩ _ hd;simp only at u hd⊢;rw[e,A0x]at u;refine⟨⟨by show s.2.length<= _;rw[u,A1b,g8g, <-A1b];omega,by show d.2.length<= _;rw[hd,A1b,g3u];omega⟩, ?_⟩;rintro⟨t,_⟩ _ ht;simp only at ht⊢;rw[ht];unfold C4v;rw[u,hd,A0x,A0x,E8n]
theorem D4q (x:A9 A8m.args) (hw:awf A8m.args x) (hp:A8m.pre x):D3p x:=by
 obtain⟨a,b,_⟩:=x;have la:A5 a.2:=A2 hw.1.2.2;have lb:A5 b.2:=A2 hw.2.1.2.2;change C9x at a b;obtain⟨p1,p2⟩:a.2.length<=8796093022208/\b.2.length<=8796093022208:=hp;have n1:=C0 la;have n2:=C0 lb;simp only[D3p];refine⟨by show b.2.length<=35184372088832;omega, ?_⟩;rintro⟨s,_⟩ _ hs;simp only at hs⊢;refine⟨fun h=>⟨trivial, ?_⟩,fun h=>⟨by show b.2.length<=35184372088832;omega, ?_⟩⟩
 . have h:=g0a h;rw[hs]at h;rintro⟨r,_⟩ _ hr;simp only at hr⊢;rw[hr,F8v (g8h.1 h)]
 have h:=g0b h;have hB:iv b≠0:=fun e=>h (by rw[hs,e];rfl)
 rintro⟨m,_⟩ _ hm;simp only at hm⊢;refine⟨fun _=>trivial, ?_⟩;rintro⟨e,_⟩ he;simp only at he⊢;refine⟨fun h1=>⟨by show a.2.length<=35184372088832;omega, ?_⟩,fun _=>⟨⟨p1,p2⟩, ?_⟩⟩
 . rw[J5,g0c]at h1;have h2:=(he h1.1).2;rw[h1.2]at h2;have h3:m.2= [1]:=g0a h2.symm;have h4:m.1=false:=by simpa using h1.1
   have h5:iv b=1:=by
    have e1:m=(false,[1]):=Prod.ext h4 h3;rw[<-A0x (iv b), <-hm,e1];rfl
   rintro⟨r,_⟩ _ hr;simp only at hr⊢;rw[hr,h3,E9n h5,F0v];rfl
 . rintro⟨g,_⟩ _ hg;simp only at hg⊢;have a3:iv g=((Nat.gcd (nv a.2) (nv b.2):Nat):Int):=by rw[hg,A0x]
   obtain⟨G0,Gs,Gn,Gp⟩:=G3n (A:=iv a) (B:=iv b) hB (G:=Nat.gcd (nv a.2) (nv b.2)) (by rw[G5,G5]);have a4:nv b.2≠0:=by rw[<-G5];omega
   have a2:g.2.length<=8796093022208:=by
    rw[hg,A1b,g3u];have:=H7 (Nat.le_of_dvd (by omega) (g7v (nv a.2) (nv b.2)));omega
   rw[<-a3]at Gs Gn Gp;have a1:iv g≠0:=by omega
   refine⟨⟨p1,a2⟩, ?_⟩;rintro⟨n,n',a6,_⟩ _ hn;refine⟨⟨p2,a2⟩, ?_⟩;rintro⟨d,d',a5,_⟩ _ hd;simp only at hn hd⊢;have hn:=(hn a1).1;have hd:=(hd a1).1;have ln:n.2.length<=8796093022208:=by
    rw[hn,A1b];have h1:=H7 (g6s (iv a) (iv g));rw[G5 a]at h1;omega
   have ld:d.2.length<=8796093022208:=by
    rw[hd,A1b];have h1:=H7 (g6s (iv b) (iv g));rw[G5 b]at h1;omega
   have a0:d.1=decide (iv b/iv g<0):=by rw[hd];rfl
   refine⟨fun p=>((p.1,p.2.1),p.2.2.2.1)=rc (C4v a b),⟨fun h1=>⟨by show n.2.length<=35184372088832;omega, ?_⟩,fun h1=> ?_⟩, ?_⟩
   . rw[a0]at h1;have h1:=Gs.1 (g0a h1);rintro⟨u,_⟩ _ hu;refine⟨by show d.2.length<=35184372088832;omega, ?_⟩;rintro⟨v,_⟩ _ hv;simp only at hu hv⊢;show(u,v.2)= _;rw[hn,A0x]at hu;rw[hd,A0x]at hv;rw[hu,hv];exact Gn h1
   . rw[a0]at h1;have h1:¬iv b<0:=fun h2=>(g0b h1) (Gs.2 h2)
     show(n,d.2)= _;rw[hn,hd];exact Gp h1
   . rintro⟨t1,t2,t3,t4,_⟩ _ j;exact j
def F4b:An:= {plan:= [(1,[0,2],[6,7],true,(.q 0 (.q 2 (.or 1 (.or 3 (.or 4 (.e 5 (.e 6 (.e 7 .done))) (.e 5 (.e 4 (.e 6 (.e 7 .done))))) (.or 4 (.or 3 (.e 5 (.e 6 (.e 7 .done))) (.e 5 (.e 3 (.e 6 (.e 7 .done))))) (.e 5 (.or 3 (.e 4 (.e 6 (.e 7 .done))) (.e 4 (.e 3 (.e 6 (.e 7 .done)))))))) (.or 4 (.or 1 (.or 3 (.e 5 (.e 6 (.e 7 .done))) (.e 5 (.e 3 (.e 6 (.e 7 .done))))) (.e 5 (.e 1 (.e 3 (.e 6 (.e 7 .done)))))) (.e 5 (.or 1 (.or 3 (.e 4 (.e 6 (.e 7 .done))) (.e 4 (.e 3 (.e 6 (.e 7 .done))))) (.e 4 (.e 1 (.e 3 (.e 6 (.e 7 .done)))))))))))),(2,[1,2,6,7,11,13],[17],true,(.p 0 (.q 1 (.q 2 (.p 5 (.q 6 (.q 7 (.q 11 (.q 13 (.e 3 (.e 4 (.e 8 (.e 9 (.e 10 (.e 12 (.e 14 (.e 15 (.e 16 (.e 17 .done)))))))))))))))))))]}
def F4g:An:= {plan:= [(1,[0,1],[4],true,(.q 0 (.q 1 (.e 2 (.e 3 (.e 4 .done))))))]}
def D6q:A9 B5d.args->Prop:=fun(x:QQ×QQ×Unit)=>let g:=(rv x.1);let f:=(rv x.2.1);let e:=(rv x.1+rv x.2.1);let d:=(↑g.den:Int);let c:=(↑f.den:Int);let a:Prop:=(sh3 x.1/\∀(r:QQ×Unit),WfQ r.1/\True->r.1=rc g->(sh3 x.2.1/\∀(n:QQ×Unit),WfQ n.1/\True->n.1=rc f->sh3 x.2.1/\∀(h:(Bool×List Int)×Unit),WfZ h.1/\True->h.1=ic c->(sh1 r.1.1.2/\sh1 h.1.2)/\∀(i:(Bool×List Int)×Unit),WfZ i.1/\True->i.1=ic (iv r.1.1*iv h.1)->sh3 x.1/\∀(r:(Bool×List Int)×Unit),WfZ r.1/\True->r.1=ic d->(sh1 n.1.1.2/\sh1 r.1.2)/\∀(j:(Bool×List Int)×Unit),WfZ j.1/\True->j.1=ic (iv n.1.1*iv r.1)->(sh1 i.1.2/\sh1 j.1.2)/\∀(r:(Bool×List Int)×Unit),WfZ r.1/\True->r.1=ic (iv i.1+iv j.1)->sh3 x.1/\∀(k:(Bool×List Int)×Unit),WfZ k.1/\True->k.1=ic d->sh3 x.2.1/\∀(l:(Bool×List Int)×Unit),WfZ l.1/\True->l.1=ic c->(sh1 k.1.2/\sh1 l.1.2)/\∀(m:(Bool×List Int)×Unit),WfZ m.1/\True->m.1=ic (iv k.1*iv l.1)->(sh2 r.1.2/\sh2 m.1.2)/\∀(o:QQ×Unit),WfQ o.1/\True->o.1=rc (C4v r.1 m.1)->o.1=rc e)/\sh3 x.2.1/\∀(n:QQ×Unit),WfQ n.1/\True->n.1=rc f->sh3 x.2.1/\∀(h:(Bool×List Int)×Unit),WfZ h.1/\True->h.1=ic c->(sh1 r.1.1.2/\sh1 h.1.2)/\∀(i:(Bool×List Int)×Unit),WfZ i.1/\True->i.1=ic (iv r.1.1*iv h.1)->sh3 x.1/\∀(r:(Bool×List Int)×Unit),WfZ r.1/\True->r.1=ic d->(sh1 n.1.1.2/\sh1 r.1.2)/\∀(j:(Bool×List Int)×Unit),WfZ j.1/\True->j.1=ic (iv n.1.1*iv r.1)->(sh1 i.1.2/\sh1 j.1.2)/\∀(r:(Bool×List Int)×Unit),WfZ r.1/\True->r.1=ic (iv i.1+iv j.1)->sh3 x.1/\∀(k:(Bool×List Int)×Unit),WfZ k.1/\True->k.1=ic d->sh3 x.2.1/\∀(l:(Bool×List Int)×Unit),WfZ l.1/\True->l.1=ic c->(sh1 k.1.2/\sh1 l.1.2)/\∀(m:(Bool×List Int)×Unit),WfZ m.1/\True->m.1=ic (iv k.1*iv l.1)->(sh2 r.1.2/\sh2 m.1.2)/\∀(o:QQ×Unit),WfQ o.1/\True->o.1=rc (C4v r.1 m.1)->o.1=rc e);(sh3 x.1/\∀(r:QQ×Unit),let b:Prop:=(sh3 x.2.1/\∀(n:QQ×Unit),WfQ n.1/\True->n.1=rc f->sh3 x.2.1/\∀(h:(Bool×List Int)×Unit),WfZ h.1/\True->h.1=ic c->(sh1 r.1.1.2/\sh1 h.1.2)/\∀(i:(Bool×List Int)×Unit),WfZ i.1/\True->i.1=ic (iv r.1.1*iv h.1)->sh3 x.1/\∀(r:(Bool×List Int)×Unit),WfZ r.1/\True->r.1=ic d->(sh1 n.1.1.2/\sh1 r.1.2)/\∀(j:(Bool×List Int)×Unit),WfZ j.1/\True->j.1=ic (iv n.1.1*iv r.1)->(sh1 i.1.2/\sh1 j.1.2)/\∀(r:(Bool×List Int)×Unit),WfZ r.1/\True->r.1=ic (iv i.1+iv j.1)->sh3 x.1/\∀(k:(Bool×List Int)×Unit),WfZ k.1/\True->k.1=ic d->sh3 x.2.1/\∀(l:(Bool×List Int)×Unit),WfZ l.1/\True->l.1=ic c->(sh1 k.1.2/\sh1 l.1.2)/\∀(m:(Bool×List Int)×Unit),WfZ m.1/\True->m.1=ic (iv k.1*iv l.1)->(sh2 r.1.2/\sh2 m.1.2)/\∀(o:QQ×Unit),WfQ o.1/\True->o.1=rc (C4v r.1 m.1)->o.1=rc e);WfQ r.1/\True->r.1=rc g->(sh3 x.2.1/\∀(n:QQ×Unit),WfQ n.1/\True->n.1=rc f->(sh3 x.2.1/\∀(h:(Bool×List Int)×Unit),WfZ h.1/\True->h.1=ic c->(sh1 r.1.1.2/\sh1 h.1.2)/\∀(i:(Bool×List Int)×Unit),WfZ i.1/\True->i.1=ic (iv r.1.1*iv h.1)->sh3 x.1/\∀(r:(Bool×List Int)×Unit),WfZ r.1/\True->r.1=ic d->(sh1 n.1.1.2/\sh1 r.1.2)/\∀(j:(Bool×List Int)×Unit),WfZ j.1/\True->j.1=ic (iv n.1.1*iv r.1)->(sh1 i.1.2/\sh1 j.1.2)/\∀(r:(Bool×List Int)×Unit),WfZ r.1/\True->r.1=ic (iv i.1+iv j.1)->sh3 x.1/\∀(k:(Bool×List Int)×Unit),WfZ k.1/\True->k.1=ic d->sh3 x.2.1/\∀(l:(Bool×List Int)×Unit),WfZ l.1/\True->l.1=ic c->(sh1 k.1.2/\sh1 l.1.2)/\∀(m:(Bool×List Int)×Unit),WfZ m.1/\True->m.1=ic (iv k.1*iv l.1)->(sh2 r.1.2/\sh2 m.1.2)/\∀(o:QQ×Unit),WfQ o.1/\True->o.1=rc (C4v r.1 m.1)->o.1=rc e)/\sh3 x.2.1/\∀(h:(Bool×List Int)×Unit),WfZ h.1/\True->h.1=ic c->(sh1 r.1.1.2/\sh1 h.1.2)/\∀(i:(Bool×List Int)×Unit),WfZ i.1/\True->i.1=ic (iv r.1.1*iv h.1)->sh3 x.1/\∀(r:(Bool×List Int)×Unit),WfZ r.1/\True->r.1=ic d->(sh1 n.1.1.2/\sh1 r.1.2)/\∀(j:(Bool×List Int)×Unit),WfZ j.1/\True->j.1=ic (iv n.1.1*iv r.1)->(sh1 i.1.2/\sh1 j.1.2)/\∀(r:(Bool×List Int)×Unit),WfZ r.1/\True->r.1=ic (iv i.1+iv j.1)->sh3 x.1/\∀(k:(Bool×List Int)×Unit),WfZ k.1/\True->k.1=ic d->sh3 x.2.1/\∀(l:(Bool×List Int)×Unit),WfZ l.1/\True->l.1=ic c->(sh1 k.1.2/\sh1 l.1.2)/\∀(m:(Bool×List Int)×Unit),WfZ m.1/\True->m.1=ic (iv k.1*iv l.1)->(sh2 r.1.2/\sh2 m.1.2)/\∀(o:QQ×Unit),WfQ o.1/\True->o.1=rc (C4v r.1 m.1)->o.1=rc e)/\(b/\sh3 x.2.1/\∀(n:QQ×Unit),WfQ n.1/\True->n.1=rc f->sh3 x.2.1/\∀(h:(Bool×List Int)×Unit),WfZ h.1/\True->h.1=ic c->(sh1 r.1.1.2/\sh1 h.1.2)/\∀(i:(Bool×List Int)×Unit),WfZ i.1/\True->i.1=ic (iv r.1.1*iv h.1)->sh3 x.1/\∀(r:(Bool×List Int)×Unit),WfZ r.1/\True->r.1=ic d->(sh1 n.1.1.2/\sh1 r.1.2)/\∀(j:(Bool×List Int)×Unit),WfZ j.1/\True->j.1=ic (iv n.1.1*iv r.1)->(sh1 i.1.2/\sh1 j.1.2)/\∀(r:(Bool×List Int)×Unit),WfZ r.1/\True->r.1=ic (iv i.1+iv j.1)->sh3 x.1/\∀(k:(Bool×List Int)×Unit),WfZ k.1/\True->k.1=ic d->sh3 x.2.1/\∀(l:(Bool×List Int)×Unit),WfZ l.1/\True->l.1=ic c->(sh1 k.1.2/\sh1 l.1.2)/\∀(m:(Bool×List Int)×Unit),WfZ m.1/\True->m.1=ic (iv k.1*iv l.1)->(sh2 r.1.2/\sh2 m.1.2)/\∀(o:QQ×Unit),WfQ o.1/\True->o.1=rc (C4v r.1 m.1)->o.1=rc e)/\b/\sh3 x.2.1/\∀(n:QQ×Unit),WfQ n.1/\True->n.1=rc f->sh3 x.2.1/\∀(h:(Bool×List Int)×Unit),WfZ h.1/\True->h.1=ic c->(sh1 r.1.1.2/\sh1 h.1.2)/\∀(i:(Bool×List Int)×Unit),WfZ i.1/\True->i.1=ic (iv r.1.1*iv h.1)->sh3 x.1/\∀(r:(Bool×List Int)×Unit),WfZ r.1/\True->r.1=ic d->(sh1 n.1.1.2/\sh1 r.1.2)/\∀(j:(Bool×List Int)×Unit),WfZ j.1/\True->j.1=ic (iv n.1.1*iv r.1)->(sh1 i.1.2/\sh1 j.1.2)/\∀(r:(Bool×List Int)×Unit),WfZ r.1/\True->r.1=ic (iv i.1+iv j.1)->sh3 x.1/\∀(k:(Bool×List Int)×Unit),WfZ k.1/\True->k.1=ic d->sh3 x.2.1/\∀(l:(Bool×List Int)×Unit),WfZ l.1/\True->l.1=ic c->(sh1 k.1.2/\sh1 l.1.2)/\∀(m:(Bool×List Int)×Unit),WfZ m.1/\True->m.1=ic (iv k.1*iv l.1)->(sh2 r.1.2/\sh2 m.1.2)/\∀(o:QQ×Unit),WfQ o.1/\True->o.1=rc (C4v r.1 m.1)->o.1=rc e)/\(a/\sh3 x.1/\∀(r:QQ×Unit),WfQ r.1/\True->r.1=rc g->sh3 x.2.1/\∀(n:QQ×Unit),WfQ n.1/\True->n.1=rc f->sh3 x.2.1/\∀(h:(Bool×List Int)×Unit),WfZ h.1/\True->h.1=ic c->(sh1 r.1.1.2/\sh1 h.1.2)/\∀(i:(Bool×List Int)×Unit),WfZ i.1/\True->i.1=ic (iv r.1.1*iv h.1)->sh3 x.1/\∀(r:(Bool×List Int)×Unit),WfZ r.1/\True->r.1=ic d->(sh1 n.1.1.2/\sh1 r.1.2)/\∀(j:(Bool×List Int)×Unit),WfZ j.1/\True->j.1=ic (iv n.1.1*iv r.1)->(sh1 i.1.2/\sh1 j.1.2)/\∀(r:(Bool×List Int)×Unit),WfZ r.1/\True->r.1=ic (iv i.1+iv j.1)->sh3 x.1/\∀(k:(Bool×List Int)×Unit),WfZ k.1/\True->k.1=ic d->sh3 x.2.1/\∀(l:(Bool×List Int)×Unit),WfZ l.1/\True->l.1=ic c->(sh1 k.1.2/\sh1 l.1.2)/\∀(m:(Bool×List Int)×Unit),WfZ m.1/\True->m.1=ic (iv k.1*iv l.1)->(sh2 r.1.2/\sh2 m.1.2)/\∀(o:QQ×Unit),WfQ o.1/\True->o.1=rc (C4v r.1 m.1)->o.1=rc e)/\a/\sh3 x.1/\∀(r:QQ×Unit),WfQ r.1/\True->r.1=rc g->sh3 x.2.1/\∀(n:QQ×Unit),WfQ n.1/\True->n.1=rc f->sh3 x.2.1/\∀(h:(Bool×List Int)×Unit),WfZ h.1/\True->h.1=ic c->(sh1 r.1.1.2/\sh1 h.1.2)/\∀(i:(Bool×List Int)×Unit),WfZ i.1/\True->i.1=ic (iv r.1.1*iv h.1)->sh3 x.1/\∀(r:(Bool×List Int)×Unit),WfZ r.1/\True->r.1=ic d->(sh1 n.1.1.2/\sh1 r.1.2)/\∀(j:(Bool×List Int)×Unit),WfZ j.1/\True->j.1=ic (iv n.1.1*iv r.1)->(sh1 i.1.2/\sh1 j.1.2)/\∀(r:(Bool×List Int)×Unit),WfZ r.1/\True->r.1=ic (iv i.1+iv j.1)->sh3 x.1/\∀(k:(Bool×List Int)×Unit),WfZ k.1/\True->k.1=ic d->sh3 x.2.1/\∀(l:(Bool×List Int)×Unit),WfZ l.1/\True->l.1=ic c->(sh1 k.1.2/\sh1 l.1.2)/\∀(m:(Bool×List Int)×Unit),WfZ m.1/\True->m.1=ic (iv k.1*iv l.1)->(sh2 r.1.2/\sh2 m.1.2)/\∀(o:QQ×Unit),WfQ o.1/\True->o.1=rc (C4v r.1 m.1)->o.1=rc e
def D7w:A9 B5q.args->Prop:=fun(x:QQ×QQ×Unit)=>sh3 x.2.1/\∀(r:QQ×Unit),WfQ r.1/\True->r.1=rc (-rv x.2.1)->(sh3 x.1/\sh3 r.1)/\∀(a:QQ×Unit),WfQ a.1/\True->a.1=rc (rv x.1+rv r.1)->a.1=rc (rv x.1-rv x.2.1)
theorem F7o {p:D2} (u:A5 p.1.2) (l2:A5 p.2) (h:sh3 p):(ic (rv p).num).2.length<=2199023255552/\(ic ((rv p).den:Int)).2.length<=2199023255552:=by
 have:=B6n u l2 h.1 h.2 (by decide);exact⟨this.1,by rw[A1b,g3u];exact this.2⟩
theorem icm {x y:Int} {k:Nat} (hx:(ic x).2.length<=k) (u:(ic y).2.length<=k):(ic (x*y)).2.length<=2*k:=by
 rw[A1b]at*;rw[g5f];have:=B8i x.natAbs y.natAbs;omega
theorem ica {x y:Int} {k:Nat} (hx:(ic x).2.length<=k) (u:(ic y).2.length<=k):(ic (x+y)).2.length<=k+1:=by
 rw[A1b]at*;have h1:=H7 (h0t x y);have:=D8j x.natAbs y.natAbs;omega
theorem D9v (x:A9 B5d.args) (u:awf B5d.args x) (hp:B5d.pre x):D6q x:=by
 obtain⟨p,q,_⟩:=x;have a4:A5 p.1.2:=A2 u.1.1.2.2;have a5:A5 p.2:=A2 u.1.2.2;have a6:A5 q.1.2:=A2 u.2.1.1.2.2;have a7:A5 q.2:=A2 u.2.1.2.2;change D2 at p q;obtain⟨a0,a3⟩:sh3 p/\sh3 q:=hp;obtain⟨a1,a2⟩:=F7o a4 a5 a0;obtain⟨b1,b2⟩:=F7o a6 a7 a3;have m1:=icm a1 b2;have m2:=icm b1 a2;have m3:=icm a2 b2;have m4:=ica m1 m2;have fin:rc (C4v (ic ((rv p).num*((rv q).den:Int)+(rv q).num*((rv p).den:Int))) (ic (((rv p).den:Int)*((rv q).den:Int))))=rc (rv p+rv q):=by
  unfold C4v;rw[A0x,A0x,F2r]
 have P1:sh1 (ic (rv p).num).2:=by show _ <= _;omega
 have P2:sh1 (ic ((rv p).den:Int)).2:=by show _ <= _;omega
 have Q1:sh1 (ic (rv q).num).2:=by show _ <= _;omega
 have Q2:sh1 (ic ((rv q).den:Int)).2:=by show _ <= _;omega
 have M1:sh1 (ic ((rv p).num*((rv q).den:Int))).2:=by show _ <= _;omega
 have M2:sh1 (ic ((rv q).num*((rv p).den:Int))).2:=by show _ <= _;omega
 have M3:sh2 (ic (((rv p).den:Int)*((rv q).den:Int))).2:=by show _ <= _;omega
 have M4:sh2 (ic ((rv p).num*((rv q).den:Int)+(rv q).num*((rv p).den:Int))).2:=by show _ <= _;omega
 clear m1 m2 m3 m4 a1 a2 b1 b2;have r1:(rc (rv p)).1=ic (rv p).num:=rfl;have r2:(rc (rv q)).1=ic (rv q).num:=rfl;simp only[D6q]
 repeat' first
  |assumption
  |apply And.intro
  | (rintro⟨r,_⟩ _ h;simp only at h⊢;subst h;try simp only[r1,r2,A0x])
theorem D8n (x:A9 B5q.args) (hw:awf B5q.args x) (hp:B5q.pre x):D7w x:=by
 obtain⟨p,q,_⟩:=x;have a1:A5 q.1.2:=A2 hw.2.1.1.2.2;have a2:A5 q.2:=A2 hw.2.1.2.2;change D2 at p q;obtain⟨a0,u⟩:sh3 p/\sh3 q:=hp;obtain⟨b1,b2⟩:=F7o a1 a2 u;simp only[D7w];refine⟨u, ?_⟩;rintro⟨r,_⟩ _ hr;simp only at hr⊢;refine⟨⟨a0, ?_⟩, ?_⟩
 . rw[hr];refine⟨?_, ?_⟩
   . show(ic (-(rv q)).num).2.length<= _;rw[h0z,A1b,g8g, <-A1b];exact b1
   . show(nc (-(rv q)).den).length<= _;rw[h2h];rw[A1b,g3u]at b2;exact b2
 rintro⟨s,_⟩ _ hs;simp only at hs⊢;rw[hs,hr,H6,g2z]
def C2u:An:= {}
def C9i:An:= {}
def B7b:An:= {}
def C1w:An:= {}
def A6x:A9 R4.args->Prop:=fun(x:Int×Int×Unit)=>True/\∀(r:Bool×Unit),True/\True->r.1=false->True/\∀(a:Bool×Unit),True/\True->a.1=false->(r.1=true->(a.1=true->(0:Int)=A0s x.1 x.2.1)/\(a.1=false->(-1:Int)=A0s x.1 x.2.1))/\(r.1=false->(a.1=true->(1:Int)=A0s x.1 x.2.1)/\(a.1=false->(decide (x.1<x.2.1)=true->(-1:Int)=A0s x.1 x.2.1)/\(decide (x.1<x.2.1)=false->(decide (x.2.1<x.1)=true->(1:Int)=A0s x.1 x.2.1)/\(decide (x.2.1<x.1)=false->(0:Int)=A0s x.1 x.2.1))))
def C9d:A9 W3.args->Prop:=fun(x:Int×Unit)=>decide (x.1≠x.1)=false
def A4t:A9 K7.args->Prop:=fun(x:Int×Int×Unit)=>True/\∀(r:Bool×Unit),True/\True->r.1=false->True/\∀(a:Bool×Unit),True/\True->a.1=false->(r.1=true->(a.1=true->(0:Int)=A0s x.1 x.2.1)/\(a.1=false->(-1:Int)=A0s x.1 x.2.1))/\(r.1=false->(a.1=true->(1:Int)=A0s x.1 x.2.1)/\(a.1=false->(decide (x.1<x.2.1)=true->(-1:Int)=A0s x.1 x.2.1)/\(decide (x.1<x.2.1)=false->(decide (x.2.1<x.1)=true->(1:Int)=A0s x.1 x.2.1)/\(decide (x.2.1<x.1)=false->(0:Int)=A0s x.1 x.2.1))))
def C3i:A9 P7.args->Prop:=fun(x:Int×Unit)=>decide (x.1≠x.1)=false
theorem B5c (x:A9 R4.args) (hw:awf R4.args x) (_:R4.pre x):A6x x:=by
 obtain⟨a,b,_⟩:=x;change Int at a b;simp only[A6x];refine⟨trivial, ?_⟩;rintro⟨r,_⟩ _ u;refine⟨trivial, ?_⟩;rintro⟨s,_⟩ _ hs;change Bool at r s;simp only at u hs;rw[u,hs];refine⟨fun h=>(by cases h),fun _=>⟨fun h=>(by cases h),fun _=>⟨fun h=> ?_,fun h=>⟨fun h2=> ?_,fun h2=> ?_⟩⟩⟩⟩
 . simp[A0s,g0a h]
 . simp[A0s,g0b h,g0a h2]
 . simp[A0s,g0b h,g0b h2]
theorem C7j (x:A9 A1m.args) (hw:awf A1m.args x) (hp:A1m.pre x):B8l x:=by
 obtain⟨p,_⟩:=x;change C9x at p;simp only[B8l];refine⟨hp, ?_⟩;rintro⟨r,_⟩ _ u;simp only at u⊢;refine⟨trivial, ?_⟩;rintro⟨s,_⟩ _ hs;simp only at hs⊢;rw[hs,u];have h:=G9l (neg:= !p.1) (m:=nv p.2);have e:iv (!p.1,nc (nv p.2))= -iv p:=by
  rw[G5v];congr 1;unfold iv;simp only[F4]
 rw[<-e,h];have:decide (nc (nv p.2)≠ [])=decide (nv p.2≠0):=g4z.2 (h2y C8z);rw[this]
theorem D8k {a b:Int} (u: -2147483647<=a/\a<=2147483647) (hb: -2147483647<=b/\b<=2147483647): -4611686014132420609<=a*b/\a*b<=4611686014132420609:=by
 have h:(a*b).natAbs<=2147483647*2147483647:=by
  rw[g5f];exact g8a (by omega) (by omega)
 omega
theorem C2s (x:A9 U8.args) (hw:awf U8.args x) (hp:U8.pre x):B5k x:=by
 obtain⟨p,q,_⟩:=x;have af:A5 p.1.2:=A2 hw.1.1.2.2;have ag:A5 p.2:=A2 hw.1.2.2;have ah:A5 q.1.2:=A2 hw.2.1.1.2.2;have ai:A5 q.2:=A2 hw.2.1.2.2;change D2 at p q;obtain⟨a4,a7⟩:sh3 p/\sh3 q:=hp;obtain⟨a0,a3⟩:=a4;obtain⟨a5,a6⟩:=a7;simp only[B5k];refine⟨trivial, ?_⟩;rintro⟨an,ad,ac,_⟩ _ ⟨a1,a2⟩;refine⟨trivial, ?_⟩;rintro⟨bn,bd,ae,_⟩ _ ⟨b1,b2⟩;change Int at an ad bn bd;simp only at a1 a2 b1 b2⊢;refine⟨fun h=> ?_,fun _=>⟨trivial, ?_⟩⟩
 . rw[J5,g0c]at h;have sp:I4 p:=g0v fun hn=>by have:=a2 hn;rw[this]at h;exact absurd h.1 (by decide)
   have sq:I4 q:=g0v fun hn=>by have:=b2 hn;rw[this]at h;exact absurd h.2 (by decide)
   obtain⟨ea,ed,_⟩:=a1 sp;obtain⟨eb,ee,_⟩:=b1 sq;obtain⟨x1,x2,x3,x4⟩:=A9h sp;obtain⟨y1,y2,y3,y4⟩:=A9h sq;have h1:=D8k (a:=an) (b:=bn) (by omega) (by omega);have h2:=D8k (a:=ad) (b:=bd) (by omega) (by omega);have h4:0<ad*bd:=Int.mul_pos (by omega) (by omega);rw[wr (a:=ad*bd) (by omega) (by omega),wr (a:=an*bn) (by omega) (by omega)];refine⟨h4, ?_⟩;rintro⟨r,_⟩ _ hr;simp only at hr⊢;rw[hr, <-C0q p, <-C0q q, <-ea, <-ed, <-eb, <-ee,h0a,h2m (by omega) (by omega)]
 . rintro⟨n,d,_⟩ ⟨ab,a8,_⟩ h1;refine⟨trivial, ?_⟩;rintro⟨m,e,_⟩ ⟨aa,a9,_⟩ h2;have ln:A5 n.2:=A2 ab.2.2;have ld:A5 d:=A2 a8.2;have lm:A5 m.2:=A2 aa.2.2;have le:A5 e:=A2 a9.2;change C9x at n m;change List Int at d e;simp only at h1 h2⊢;obtain⟨d0,hP⟩:=B0u h1;obtain⟨e0,hQ⟩:=B0u h2;obtain⟨n1,d1⟩:=A6c (k:=2199023255552) h1 a0 a3 (by decide);obtain⟨m1,e1⟩:=A6c (k:=2199023255552) h2 a5 a6 (by decide);have x1:=C6s (x:=n) (y:=m) ln lm;have x2:=C7g ld le;rw[hP,hQ];refine⟨⟨by show n.2.length<= _;omega,by show m.2.length<= _;omega⟩, ?_⟩;rintro⟨u,_⟩ _ hu;refine⟨⟨by show d.length<= _;omega,by show e.length<= _;omega⟩, ?_⟩;rintro⟨v,_⟩ _ hv;simp only at hu hv⊢;refine⟨⟨by rw[hv,F4];exact g9d d0 e0,by show u.2.length<= _;rw[hu];omega,by show v.length<= _;rw[hv];omega⟩, ?_⟩;rintro⟨r,_⟩ _ hr;simp only at hr⊢;rw[hr,hu,hv,A0x,F4,h0a]
theorem C1n (x:A9 U7.args) (hw:awf U7.args x) (hp:U7.pre x):B4j x:=by
 obtain⟨p,_⟩:=x;have a0:A5 p.1.2:=A2 hw.1.1.2.2;have a3:A5 p.2:=A2 hw.1.2.2;change D2 at p;have u:sh3 p:=hp;obtain⟨a1,a2⟩:=B6n (k:=2199023255552) a0 a3 u.1 u.2 (by decide);simp only[B4j];refine⟨u, ?_⟩;rintro⟨r,_⟩ _ hr;simp only at hr⊢;subst hr;refine⟨by show(ic (rv p).num).2.length<= _;omega, ?_⟩;rintro⟨s,_⟩ _ hs;simp only at hs⊢;rw[hs];show(ic (-iv (ic (rv p).num)),nc (rv p).den)=(ic (-(rv p)).num,nc (-(rv p)).den);rw[A0x,h0z,h2h]
theorem G9z {q:Rat} (h:q≠0):(((ic q.num).1,nc q.den),(ic q.num).2)=rc q⁻¹:=by
 have u:q.num≠0:=fun e=>h (g9y.1 e)
 unfold rc ic;rw[Rat.num_inv,Rat.den_inv,g0u u,g5f,g3u,h0b u,g6q];have hd:(0:Int)<(q.den:Int):=by have:=q.den_pos;omega
 have:(q.num.sign*(q.den:Int)<0)↔q.num<0:=by
  rcases h0s q.num 0 with h1|h1|h1
  . rw[g6l h1];omega
  . exact absurd h1 u
  . rw[g3y h1];omega
 simp only[this]
theorem C3v (x:A9 U6.args) (hw:awf U6.args x) (hp:U6.pre x):B3n x:=by
 obtain⟨p,_⟩:=x;change D2 at p;have a0:sh3 p:=hp;simp only[B3n];refine⟨trivial, ?_⟩;rintro⟨s,_⟩ _ hs;simp only at hs⊢;refine⟨fun h=> ?_,fun h=>⟨a0, ?_⟩⟩
 . have u:=E6s (hs▸g0a h);exact⟨fun _=>by trivial,fun hn=>absurd u hn⟩
 . rintro⟨r,_⟩ _ hr;simp only at hr⊢;refine⟨fun u=> ?_,fun u=>⟨by rw[hr];exact G9z u,by trivial⟩⟩;have h:=g0b h;rw[hs,u]at h;exact absurd rfl h
theorem E9u {a:Int} (h:i64.min<=a/\a<=i64.max):(ic a).2.length<=2:=by
 have h1: -9223372036854775808<=a/\a<=9223372036854775807:=h;exact A7d (by show a.natAbs<4294967296^2;omega)
theorem E4k (x:A9 C3t.args) (hw:awf C3t.args x) (_:C3t.pre x):E4a x:=by
 obtain⟨a,b,_⟩:=x;have ha:(ic a).2.length<=2:=E9u hw.1;have hb:(ic b).2.length<=2:=E9u hw.2.1;change Int at a b;simp only[E4a];refine⟨trivial, ?_⟩;rintro⟨r,_⟩ _ u;refine⟨trivial, ?_⟩;rintro⟨s,_⟩ _ hs;simp only at u hs⊢;subst u hs;refine⟨⟨by show(ic a).2.length<= _;omega,by show(ic b).2.length<= _;omega⟩, ?_⟩;rintro⟨t,_⟩ _ ht;simp only at ht⊢;rw[ht];unfold C4v;rw[A0x,A0x]
theorem B9q (x:A9 W3.args) (u:awf W3.args x) (_:W3.pre x):C9d x:=g1e fun h=>h rfl
theorem B4o (x:A9 P7.args) (u:awf P7.args x) (_:P7.pre x):C3i x:=g1e fun h=>h rfl
theorem A9y (x:A9 K7.args) (hw:awf K7.args x) (_:K7.pre x):A4t x:=by
 obtain⟨a,b,_⟩:=x;change Int at a b;simp only[A4t];refine⟨trivial, ?_⟩;rintro⟨r,_⟩ _ u;refine⟨trivial, ?_⟩;rintro⟨s,_⟩ _ hs;change Bool at r s;simp only at u hs;rw[u,hs];refine⟨fun h=>(by cases h),fun _=>⟨fun h=>(by cases h),fun _=>⟨fun h=> ?_,fun h=>⟨fun h2=> ?_,fun h2=> ?_⟩⟩⟩⟩
 . simp[A0s,g0a h]
 . simp[A0s,g0b h,g0a h2]
 . simp[A0s,g0b h,g0b h2]
theorem B4l (z:Int):(z<0/\z.sign= -1)\/(z=0/\z.sign=0)\/(0<z/\z.sign=1):=by
 rcases h0s z 0 with h|h|h
 . exact .inl ⟨h,g6l h⟩
 . exact .inr (.inl ⟨h,by rw[h];rfl⟩)
 . exact .inr (.inr ⟨h,g3y h⟩)
theorem B3b (x:A9 Q6.args) (hw:awf Q6.args x) (_:Q6.pre x):A7e x:=by
 obtain⟨p,q,_⟩:=x;change C9x at p q;simp only[A7e];refine⟨trivial, ?_⟩;rintro⟨r,_⟩ _ hr;refine⟨trivial, ?_⟩;rintro⟨s,_⟩ _ hs;change Int at r s;simp only at hr hs⊢;have np:=G5 p;have nq:=G5 q;refine⟨fun h=> ?_,fun h=>⟨fun h2=> ?_,fun h2=>⟨fun h3=>⟨trivial, ?_⟩,fun h3=>⟨trivial, ?_⟩⟩⟩⟩
 . have h:=g0a h;have:iv p<iv q:=by rcases B4l (iv p)with⟨a,b⟩ | ⟨a,b⟩ | ⟨a,b⟩<;>rcases B4l (iv q)with⟨c,d⟩ | ⟨c,d⟩ | ⟨c,d⟩<;>omega
   unfold A0s;rw[g1c this]
 . have h2:=g0a h2;have:iv q<iv p:=by rcases B4l (iv p)with⟨a,b⟩ | ⟨a,b⟩ | ⟨a,b⟩<;>rcases B4l (iv q)with⟨c,d⟩ | ⟨c,d⟩ | ⟨c,d⟩<;>omega
   unfold A0s;rw[g0u (by omega),g1c this]
 . have h:=g0b h;have h2:=g0b h2;have h3:=g0a h3;rintro⟨u,_⟩ _ hu;simp only at hu⊢;rw[hu];have e1:iv p<0:=by rcases B4l (iv p)with⟨a,b⟩ | ⟨a,b⟩ | ⟨a,b⟩<;>omega
   have e2:iv q<0:=by rcases B4l (iv q)with⟨a,b⟩ | ⟨a,b⟩ | ⟨a,b⟩<;>omega
   unfold B3y A0s
   (repeat' split)<;>first|rfl|omega
 . have h:=g0b h;have h2:=g0b h2;have h3:=g0b h3;rintro⟨u,_⟩ _ hu;simp only at hu⊢;rw[hu];have e1:0<=iv p:=by rcases B4l (iv p)with⟨a,b⟩ | ⟨a,b⟩ | ⟨a,b⟩<;>omega
   have e2:0<=iv q:=by rcases B4l (iv q)with⟨a,b⟩ | ⟨a,b⟩ | ⟨a,b⟩<;>omega
   unfold B3y A0s
   (repeat' split)<;>first|rfl|omega
theorem B1w (x:A9 N6.args) (hw:awf N6.args x) (hp:N6.pre x):A5n x:=by
 obtain⟨p,q,_⟩:=x;have af:A5 p.1.2:=A2 hw.1.1.2.2;have ag:A5 p.2:=A2 hw.1.2.2;have ah:A5 q.1.2:=A2 hw.2.1.1.2.2;have ai:A5 q.2:=A2 hw.2.1.2.2;change D2 at p q;obtain⟨a4,a7⟩:sh3 p/\sh3 q:=hp;obtain⟨a0,a3⟩:=a4;obtain⟨a5,a6⟩:=a7;simp only[A5n];refine⟨trivial, ?_⟩;rintro⟨s,_⟩ _ hs;refine⟨trivial, ?_⟩;rintro⟨t,_⟩ _ ht;change Int at s t;simp only at hs ht⊢;refine⟨fun h=>⟨trivial, ?_⟩,fun h=>⟨trivial, ?_⟩⟩
 . have h:=g0a h;rintro⟨u,_⟩ _ hu;simp only at hu⊢;rw[hs,ht]at h hu;rw[hu,F4s h]
 rintro⟨an,ad,a8,_⟩ _ ⟨a1,a2⟩;refine⟨trivial, ?_⟩;rintro⟨bn,bd,a9,_⟩ _ ⟨b1,b2⟩;change Int at an ad bn bd;simp only at a1 a2 b1 b2⊢;refine⟨fun h=>⟨trivial, ?_⟩,fun _=>⟨trivial, ?_⟩⟩
 . rw[J5,g0c]at h;have sp:I4 p:=g0v fun hn=>by have:=a2 hn;rw[this]at h;exact absurd h.1 (by decide)
   have sq:I4 q:=g0v fun hn=>by have:=b2 hn;rw[this]at h;exact absurd h.2 (by decide)
   obtain⟨ea,ed,_⟩:=a1 sp;obtain⟨eb,ee,_⟩:=b1 sq;obtain⟨x1,x2,x3,x4⟩:=A9h sp;obtain⟨y1,y2,y3,y4⟩:=A9h sq;have h1:=B3f (a:=an) (b:=bd) (M:=2147483647) (N:=2147483647) (by omega) (by omega) (by omega) (by omega);have h2:=B3f (a:=bn) (b:=ad) (M:=2147483647) (N:=2147483647) (by omega) (by omega) (by omega) (by omega);rintro⟨r,_⟩ _ hr;simp only at hr⊢;rw[wr (by omega) (by omega),wr (by omega) (by omega)]at hr;rw[hr, <-C0q p, <-C0q q, <-ea, <-ed, <-eb, <-ee,D8y (by omega) (by omega),g2o (by omega),g2o (by omega)]
 . rintro⟨n,d,_⟩ ⟨ae,aa,_⟩ h1;refine⟨trivial, ?_⟩;rintro⟨m,e,_⟩ ⟨ac,ab,_⟩ h2;change C9x at n m;change List Int at d e;simp only at h1 h2⊢;obtain⟨d0,hP⟩:=B0u h1;obtain⟨e0,hQ⟩:=B0u h2;obtain⟨n1,d1⟩:=A6c (k:=2199023255552) h1 a0 a3 (by decide);obtain⟨m1,e1⟩:=A6c (k:=2199023255552) h2 a5 a6 (by decide);rw[hP,hQ];refine⟨⟨by show n.2.length<= _;omega,by show e.length<= _;omega⟩, ?_⟩;rintro⟨u,_⟩ _ hu;refine⟨⟨by show m.2.length<= _;omega,by show d.length<= _;omega⟩, ?_⟩;rintro⟨v,_⟩ _ hv;simp only at hu hv⊢;refine⟨trivial, ?_⟩;rintro⟨r,_⟩ _ hr;simp only at hr⊢;rw[hr,hu,hv,A0x,A0x,B1p,B1p,D8y d0 e0]
theorem G8n (q:D2):rv ((!q.1.1,q.1.2),q.2)= -rv q:=by
 unfold rv;rw[Rat.neg_mkRat];congr 1;unfold iv;cases h:q.1.1<;>simp
theorem C1y (x:A9 A0d.args) (hw:awf A0d.args x) (hp:A0d.pre x):B5y x:=by
 obtain⟨p,q,_⟩:=x;change D2 at p q;simp only[B5y];refine⟨hp, ?_⟩;rintro⟨r,_⟩ _ u;simp only at u⊢;rw[u,G8n,g2z]
theorem G9i {n:Nat} (h:n≠0):mkRat (n:Int) n=1:=by
 rw[g9r];rw[g6r];exact h0k _ (fun e=>h (Rat.natCast_eq_zero_iff.1 e))
theorem G9f {q:D2} (h:rv q≠0):rv ((q.1.1,q.2),q.1.2)=(rv q)⁻¹:=by
 have u:nv q.2≠0:=fun e=>h (by unfold rv;rw[e,g8c])
 have h1:nv q.1.2≠0:=fun e=>h (by unfold rv iv;rw[e];split<;>simp)
 have key:rv ((q.1.1,q.2),q.1.2)*rv q=1:=by
  unfold rv;have e:iv (q.1.1,q.2)*iv q.1=((nv q.1.2*nv q.2:Nat):Int):=by
   unfold iv;rw[g4c,h1x (nv q.1.2:Int)];cases q.1.1<;>simp[Int.neg_mul_neg]
  rw[h0a,e];exact G9i (g9d h1 u)
 rw[<-h2j (rv ((q.1.1,q.2),q.1.2)), <-h0k _ h, <-g5w,key,g7o]
theorem C3j (x:A9 A0p.args) (hw:awf A0p.args x) (hp:A0p.pre x):B3l x:=by
 obtain⟨p,q,_⟩:=x;change D2 at p q;obtain⟨a0,u⟩:sh3 p/\sh3 q:=hp;simp only[B3l];refine⟨trivial, ?_⟩;rintro⟨s,_⟩ _ hs;change Int at s;simp only at hs⊢;refine⟨fun h=> ?_,fun h=>⟨⟨a0,u.2,u.1⟩, ?_⟩⟩
 . have h0:=E6s (hs▸g0a h);exact⟨fun _=>by trivial,fun hn=>absurd h0 hn⟩
 . have h:=g0b h;have hn:rv q≠0:=fun e=>h (by rw[hs,e];rfl)
   rintro⟨r,_⟩ _ hr;simp only at hr⊢;refine⟨fun e=>absurd e hn,fun _=>⟨?_,by trivial⟩⟩;rw[hr,G9f hn, <-g6r]
def D8:A6:= {args:= [.val false (.sl (.int .i64)), .val false (.sl (.int .i64)), .val false (.int .i64)],res:= [.val false .bool],shared:=false,pre:=fun(x:(List Int)×(List Int)×Int×Unit)=>True,post:=fun(x:(List Int)×(List Int)×Int×Unit) (r:Bool×Unit)=>r.1=true}
def A0n:A6:= {args:= [.val false (.sl (.int .i64))],res:= [.val true (.pair (.int .i64) (.sl (.pair (.int .i64) (.pair (.int .i64) (.pair tQ tQ)))))],shared:=true,pre:=fun(x:(List Int)×Unit)=>True,post:=fun(x:(List Int)×Unit) (r:(Int×(List (Int×(Int×(QQ×QQ)))))×Unit)=>H2i r.1}
def A1j:A6:= {args:= [],res:= [.val false .bool],shared:=false,pre:=fun(x:Unit)=>True,post:=fun(x:Unit) (r:Bool×Unit)=>r.1=true}
def A7x:A6:= {args:= [.val false (.int .i64), .val false (.int .i64)],res:= [.val false (.int .i64)],shared:=false,pre:=fun(x:Int×Int×Unit)=>0<x.2.1,post:=fun(x:Int×Int×Unit) (r:Int×Unit)=>0<x.2.1->0<=r.1/\r.1<x.2.1/\r.1=(u64.wrap x.1).tmod x.2.1}
def A9c:A6:= {args:= [.val false (.sl (.int .i64))],res:= [.obox 60 (.pair (.sl (.int .i64)) (.int .i64))],shared:=true,pre:=fun(x:(List Int)×Unit)=>True,post:=fun(x:(List Int)×Unit) (r:((List Int)×Int)×Unit)=>r.1=(x.1,0)}
def I8:A6:= {args:= [.box 60 (.pair (.sl (.int .i64)) (.int .i64)), .val false (.sl (.int .i64))],res:= [.own tQ 38],shared:=true,pre:=fun(x:((List Int)×Int)×(List Int)×Unit)=>x.2.1.length<=7/\(∀b∈x.2.1,0<=b/\b<(x.2.1.length:Int)/\x.2.1.getD b.toNat 0=b)/\0<=x.1.2/\x.1.2<=(x.1.1.length:Int),post:=fun(x:((List Int)×Int)×(List Int)×Unit) (r:(List QQ)×Unit)=>r.1.length=x.2.1.length/\V7 x.2.1 r.1/\∀e∈r.1,∃q,qs 64 q/\e=rc q,mpost:=fun(x:((List Int)×Int)×(List Int)×Unit) (r:(List QQ)×Unit) (o:((List Int)×Int)×Unit)=>o.1.1=x.1.1/\0<=o.1.2/\o.1.2<=(x.1.1.length:Int)}
def A5w:A6:= {args:= [.val true (.pair (.int .i64) (.sl (.pair (.int .i64) (.pair (.int .i64) (.pair tQ tQ)))))],res:= [.val false (.sl (.int .i64))],shared:=true,pre:=fun(x:(Int×(List (Int×(Int×(QQ×QQ)))))×Unit)=>F5 x.1,post:=fun(x:(Int×(List (Int×(Int×(QQ×QQ)))))×Unit) (r:(List Int)×Unit)=>r.1=V3 x.1.1 (prs x.1.2)}
def Z8:A6:= {args:= [.val true (.pair (.int .i64) (.sl (.pair (.int .i64) (.pair (.int .i64) (.pair tQ tQ))))), .val false (.sl tQ)],res:= [.own tQ 38, .val false (.int .i64)],shared:=true,pre:=fun(x:(Int×(List (Int×(Int×(QQ×QQ)))))×(List QQ)×Unit)=>F5 x.1->O5 x.1/\szL 128 x.2.1,post:=fun(x:(Int×(List (Int×(Int×(QQ×QQ)))))×(List QQ)×Unit) (r:(List QQ)×Int×Unit)=>(¬F5 x.1->r.1= []/\r.2.1=1)/\(F5 x.1->((x.2.1.length:Int)≠x.1.1->r.1= []/\r.2.1=4)/\((x.2.1.length:Int)=x.1.1->(¬V7 (V3 x.1.1 (prs x.1.2)) x.2.1->r.1= []/\r.2.1=14)/\(V7 (V3 x.1.1 (prs x.1.2)) x.2.1->r.2.1=0/\szL K2 r.1/\∃t:Nat->Rat,(∀b,b<x.1.1.toNat->dvN x.1.2 (flN x.1.2 t) b=rat x.2.1 b)/\r.1=lst x.1.2.length (flN x.1.2 t))))}
def A9r:A6:= {args:= [.val false (.sl tQ), .val false (.sl tQ)],res:= [.val false .bool],shared:=false,pre:=fun(x:(List QQ)×(List QQ)×Unit)=>(∀e∈x.1,sh3 e)/\∀e∈x.2.1,sh3 e,post:=fun(x:(List QQ)×(List QQ)×Unit) (r:Bool×Unit)=>r.1=decide (x.1=x.2.1/\∀e∈x.1,e=rc (rv e))}
def S6:A6:= {args:= [.box 60 (.pair (.sl (.int .i64)) (.int .i64)), .val false (.int .i64)],res:= [.own tQ 38],shared:=true,pre:=fun(x:((List Int)×Int)×Int×Unit)=>x.2.1<=1000/\0<=x.1.2/\x.1.2<=(x.1.1.length:Int),post:=fun(x:((List Int)×Int)×Int×Unit) (r:(List QQ)×Unit)=>(r.1.length:Int)=max x.2.1 0/\∀e∈r.1,D0n e,mpost:=fun(x:((List Int)×Int)×Int×Unit) (r:(List QQ)×Unit) (o:((List Int)×Int)×Unit)=>o.1.1=x.1.1/\0<=o.1.2/\o.1.2<=(x.1.1.length:Int)}
def A1s:A6:= {args:= [.val false (.int .i64), .val false (.sl (.pair (.int .i64) (.int .i64)))],res:= [.val false (.sl (.int .i64))],shared:=true,pre:=fun(x:Int×(List (Int×Int))×Unit)=>E8b x.1 x.2.1,post:=fun(x:Int×(List (Int×Int))×Unit) (r:(List Int)×Unit)=>r.1=V3 x.1 x.2.1}
def A5u:A6:= {args:= [.val true (.pair (.int .i64) (.sl (.pair (.int .i64) (.pair (.int .i64) (.pair tQ tQ)))))],res:= [.val false (.sl (.pair (.int .i64) (.int .i64)))],shared:=true,pre:=fun(x:(Int×(List (Int×(Int×(QQ×QQ)))))×Unit)=>x.1.2.length<=100000,post:=fun(x:(Int×(List (Int×(Int×(QQ×QQ)))))×Unit) (r:(List (Int×Int))×Unit)=>r.1=prs x.1.2}
def T8:A6:= {args:= [.box 60 (.pair (.sl (.int .i64)) (.int .i64)), .val false (.int .i64)],res:= [.val false (.int .i64)],shared:=true,pre:=fun(x:((List Int)×Int)×Int×Unit)=>0<x.2.1/\0<=x.1.2/\x.1.2<=(x.1.1.length:Int),post:=fun(x:((List Int)×Int)×Int×Unit) (r:Int×Unit)=>0<=r.1/\r.1<x.2.1,mpost:=fun(x:((List Int)×Int)×Int×Unit) (r:Int×Unit) (o:((List Int)×Int)×Unit)=>o.1.1=x.1.1/\0<=o.1.2/\o.1.2<=(x.1.1.length:Int)}
def J0:A6:= {args:= [.box 60 (.pair (.sl (.int .i64)) (.int .i64))],res:= [.val true tQ],shared:=true,pre:=fun(x:((List Int)×Int)×Unit)=>0<=x.1.2/\x.1.2<=(x.1.1.length:Int),post:=fun(x:((List Int)×Int)×Unit) (r:QQ×Unit)=>D0n r.1/\0<rv r.1,mpost:=fun(x:((List Int)×Int)×Unit) (r:QQ×Unit) (o:((List Int)×Int)×Unit)=>o.1.1=x.1.1/\0<=o.1.2/\o.1.2<=(x.1.1.length:Int)}
def X5:A6:= {args:= [.box 60 (.pair (.sl (.int .i64)) (.int .i64))],res:= [.val true tQ],shared:=true,pre:=fun(x:((List Int)×Int)×Unit)=>0<=x.1.2/\x.1.2<=(x.1.1.length:Int),post:=fun(x:((List Int)×Int)×Unit) (r:QQ×Unit)=>D0n r.1,mpost:=fun(x:((List Int)×Int)×Unit) (r:QQ×Unit) (o:((List Int)×Int)×Unit)=>o.1.1=x.1.1/\0<=o.1.2/\o.1.2<=(x.1.1.length:Int)}
def V8:A6:= {args:= [.val true (.pair (.int .i64) (.sl (.pair (.int .i64) (.pair (.int .i64) (.pair tQ tQ))))), .val false (.sl tQ)],res:= [.val false (.sl tQ), .val false (.int .i64)],shared:=true,pre:=fun(x:(Int×(List (Int×(Int×(QQ×QQ)))))×(List QQ)×Unit)=>F5 x.1->O5 x.1/\szL 128 x.2.1,post:=fun(x:(Int×(List (Int×(Int×(QQ×QQ)))))×(List QQ)×Unit) (r:(List QQ)×Int×Unit)=>(¬F5 x.1->r.1= []/\r.2.1=1)/\(F5 x.1->((x.2.1.length:Int)≠x.1.1->r.1= []/\r.2.1=4)/\((x.2.1.length:Int)=x.1.1->(¬V7 (V3 x.1.1 (prs x.1.2)) x.2.1->r.1= []/\r.2.1=14)/\(V7 (V3 x.1.1 (prs x.1.2)) x.2.1->r.2.1=0/\(r.1.length:Int)=x.1.1/\(∀e∈r.1,e=rc (rv e))/\szL K0 r.1/\(∀b,b<x.1.1.toNat->dvN x.1.2 (flN x.1.2 (rat r.1)) b=rat x.2.1 b)/\∀b,b<x.1.1.toNat->A7u x.1 b=b->rat r.1 b=0)))}
def S5:A6:= {args:= [.val false (.int .i64)],res:= [.val true (.pair (.int .i64) (.sl (.pair (.int .i64) (.pair (.int .i64) (.pair tQ tQ)))))],shared:=true,pre:=fun(x:Int×Unit)=>True,post:=fun(x:Int×Unit) (r:(Int×(List (Int×(Int×(QQ×QQ)))))×Unit)=>r.1=(3,[(0,1,rc 1,zr),(1,2,rc 1,zr),(0,2,rc 1,ri x.1)])}
def A3y:A6:= {args:= [.val false (.sl (.int .i64))],res:= [.val false (.sl tQ)],shared:=true,pre:=fun(x:(List Int)×Unit)=>x.1.length<=1000,post:=fun(x:(List Int)×Unit) (r:(List QQ)×Unit)=>r.1=x.1.map ri}
def A0f:A6:= {args:= [.val true (.pair (.int .i64) (.sl (.pair (.int .i64) (.pair (.int .i64) (.pair tQ tQ)))))],res:= [.val false .bool],shared:=false,pre:=fun(x:(Int×(List (Int×(Int×(QQ×QQ)))))×Unit)=>True,post:=fun(x:(Int×(List (Int×(Int×(QQ×QQ)))))×Unit) (r:Bool×Unit)=>r.1=decide (F5 x.1)}
def W8:A6:= {args:= [.val true (.pair (.int .i64) (.sl (.pair (.int .i64) (.pair (.int .i64) (.pair tQ tQ)))))],res:= [.val false (.sl (.int .i64))],shared:=true,pre:=fun(x:(Int×(List (Int×(Int×(QQ×QQ)))))×Unit)=>F5 x.1,post:=fun(x:(Int×(List (Int×(Int×(QQ×QQ)))))×Unit) (r:(List Int)×Unit)=>r.1=V3 x.1.1 (prs x.1.2)}
def P5:A6:= {args:= [.val false (.sl (.int .i64)), .val false (.sl tQ)],res:= [.val false .bool],shared:=false,pre:=fun(x:(List Int)×(List QQ)×Unit)=>x.1.length=x.2.1.length/\x.1.length<=7/\(∀b∈x.1,0<=b/\b<(x.1.length:Int))/\szL K0 x.2.1,post:=fun(x:(List Int)×(List QQ)×Unit) (r:Bool×Unit)=>r.1=decide (V7 x.1 x.2.1)}
def A1r:A6:= {args:= [.val true (.pair (.int .i64) (.sl (.pair (.int .i64) (.pair (.int .i64) (.pair tQ tQ))))), .val false (.sl tQ)],res:= [.val false (.sl tQ)],shared:=true,pre:=fun(x:(Int×(List (Int×(Int×(QQ×QQ)))))×(List QQ)×Unit)=>F5 x.1/\x.1.2.length<=9/\x.2.1.length=x.1.2.length/\szL K2 x.2.1,post:=fun(x:(Int×(List (Int×(Int×(QQ×QQ)))))×(List QQ)×Unit) (r:(List QQ)×Unit)=>r.1=lst x.1.1.toNat (dvN x.1.2 (rat x.2.1))}
def A0b:A6:= {args:= [.val true (.pair (.int .i64) (.sl (.pair (.int .i64) (.pair (.int .i64) (.pair tQ tQ))))), .val false (.sl (.int .i64)), .val false (.sl tQ)],res:= [.val false (.sl tQ), .val false (.int .i64)],shared:=true,pre:=fun(x:(Int×(List (Int×(Int×(QQ×QQ)))))×(List Int)×(List QQ)×Unit)=>F5 x.1/\O5 x.1/\x.2.1.Nodup/\x.2.1.length<=6/\(∀b∈x.2.1,0<=b/\b<x.1.1)/\x.2.2.1.length=x.2.1.length/\szL 256 x.2.2.1/\nonsing x.2.1.length (fun a c=>E0i x.1.2 (ix x.2.1 a) (ix x.2.1 c)),post:=fun(x:(Int×(List (Int×(Int×(QQ×QQ)))))×(List Int)×(List QQ)×Unit) (r:(List QQ)×Int×Unit)=>r.2.1=0/\r.1.length=x.2.1.length/\(∀e∈r.1,e=rc (rv e))/\szL K0 r.1/\∀a,a<x.2.1.length->E2 x.2.1.length (fun c=>E0i x.1.2 (ix x.2.1 a) (ix x.2.1 c)*rat r.1 c)=rat x.2.2.1 a}
def N5:A6:= {args:= [.val false (.int .i64), .val false (.sl (.pair (.int .i64) (.int .i64)))],res:= [.val false (.sl (.int .i64)), .val false (.int .i64)],shared:=true,pre:=fun(x:Int×(List (Int×Int))×Unit)=>True,post:=fun(x:Int×(List (Int×Int))×Unit) (r:(List Int)×Int×Unit)=>r.1=(if E0t x.1 x.2.1=0 then V3 x.1 x.2.1 else [])/\r.2.1=E0t x.1 x.2.1}
def D4:A6:= {args:= [.val false (.sl tQ), .fn [(true,tQ)] false .bool],res:= [.val false .bool],shared:=false,pre:=fun(x:(List QQ)×(((QQ×Unit)->Prop)×((QQ×Unit)->Bool))×Unit)=>∀i∈x.1,x.2.1.1 (i,()),post:=fun(x:(List QQ)×(((QQ×Unit)->Prop)×((QQ×Unit)->Bool))×Unit) (r:Bool×Unit)=>r.1=decide (∃i∈x.1,x.2.1.2 (i,())=true)}
def L6:A6:= {args:= [.val true tQ],res:= [.val false .bool],shared:=false,pre:=fun(x:QQ×Unit)=>True,post:=fun(x:QQ×Unit) (r:Bool×Unit)=>r.1=decide (rv x.1≠0)}
def N4:A6:= {args:= [.val true (.pair (.int .i64) (.sl (.pair (.int .i64) (.pair (.int .i64) (.pair tQ tQ)))))],res:= [.val true tM, .val false (.int .i64)],shared:=true,pre:=fun(x:(Int×(List (Int×(Int×(QQ×QQ)))))×Unit)=>F5 x.1->O5 x.1,post:=fun(x:(Int×(List (Int×(Int×(QQ×QQ)))))×Unit) (r:MM×Int×Unit)=>(¬F5 x.1->r.1=zm/\r.2.1=1)/\(F5 x.1->isM x.1.1.toNat x.1.1.toNat (E0i x.1.2) r.1/\r.2.1=0)}
def X0:A6:= {args:= [.val true tM, .val false (.sl (.int .i64)), .val false (.sl (.int .i64))],res:= [.val true tM, .val false (.int .i64)],shared:=true,pre:=fun(x:MM×(List Int)×(List Int)×Unit)=>okM K1 x.1/\x.2.1.length<=1000/\x.2.2.1.length<=1000/\x.2.2.1.Nodup,post:=fun(x:MM×(List Int)×(List Int)×Unit) (r:MM×Int×Unit)=>(¬F6 x.1->r.1=zm/\r.2.1=1)/\(F6 x.1->(((∃i∈x.2.1,i<0\/x.1.1<=i)\/(∃i∈x.2.2.1,i<0\/x.1.2.1<=i))->r.1=zm/\r.2.1=3)/\(¬((∃i∈x.2.1,i<0\/x.1.1<=i)\/(∃i∈x.2.2.1,i<0\/x.1.2.1<=i))->((16384<x.2.1.length\/16384<x.2.2.1.length)->r.1=zm/\r.2.1=8)/\(x.2.1.length<=16384/\x.2.2.1.length<=16384->isM x.2.1.length x.2.2.1.length (fun i j=>el x.1 (x.2.1.getD i 0).toNat (x.2.2.1.getD j 0).toNat) r.1/\r.2.1=0)))}
def L2:A6:= {args:= [.val true tM],res:= [.val true (.pair (.sl (.int .i64)) (.pair (.sl (.int .i64)) (.pair tM tM))), .val false (.int .i64)],shared:=true,pre:=fun(x:MM×Unit)=>∃s:Nat,1<=s/\okM s x.1/\s<=K1/\(F6 x.1->x.1.1=x.1.2.1->sK s (x.1.1.toNat-1)<=K1),post:=fun(x:MM×Unit) (r:((List Int)×((List Int)×(MM×MM)))×Int×Unit)=>(¬F6 x.1->r.1=zLU/\r.2.1=1)/\(F6 x.1->(x.1.1≠x.1.2.1->r.1=zLU/\r.2.1=4)/\(x.1.1=x.1.2.1->(¬nonsing x.1.1.toNat (el x.1)->r.1=zLU/\r.2.1=6)/\(nonsing x.1.1.toNat (el x.1)->B4e r.1 x.1.1/\r.2.1=0/\(∀v∈r.1.2.2.1.2.2,C4u v)/\(∀v∈r.1.2.2.2.2.2,C4u v)/\(∀s:Nat,1<=s->okM s x.1->∀i j:Nat,i<x.1.1.toNat->qs (sK s x.1.1.toNat) (el r.1.2.2.1 i j)/\qs (sK s i) (el r.1.2.2.2 i j))/\∀i j:Nat,i<x.1.1.toNat->j<x.1.1.toNat->luM r.1 x.1.1.toNat i j=el x.1 (ix r.1.1 i) (ix r.1.2.1 j))))}
def A0k:A6:= {args:= [.val true (.pair (.sl (.int .i64)) (.pair (.sl (.int .i64)) (.pair tM tM))), .val false (.sl tQ)],res:= [.val false (.sl tQ), .val false (.int .i64)],shared:=true,pre:=fun(x:((List Int)×((List Int)×(MM×MM)))×(List QQ)×Unit)=>x.1.1.length<=16384/\okM K1 x.1.2.2.1/\okM K1 x.1.2.2.2/\(B4e x.1 x.1.1.length->x.2.1.length=x.1.1.length->∃s T:Nat,1<=s/\1<=T/\okM s x.1.2.2.1/\okM s x.1.2.2.2/\szL T x.2.1/\hK s (gK s T x.1.1.length) x.1.1.length+s<=K1),post:=fun(x:((List Int)×((List Int)×(MM×MM)))×(List QQ)×Unit) (r:(List QQ)×Int×Unit)=>(¬B4e x.1 x.1.1.length->r.1= []/\r.2.1=1)/\(B4e x.1 x.1.1.length->(x.2.1.length≠x.1.1.length->r.1= []/\r.2.1=4)/\(x.2.1.length=x.1.1.length->r.2.1=0/\r.1.length=x.1.1.length/\(∀e∈r.1,e=rc (rv e))/\(∀s T:Nat,1<=s->1<=T->okM s x.1.2.2.1->okM s x.1.2.2.2->szL T x.2.1->szL (hK s (gK s T x.1.1.length) x.1.1.length+s) r.1)/\∀i:Nat,i<x.1.1.length->E2 x.1.1.length (fun j=>luM x.1 x.1.1.length i j*rv (r.1.getD (ix x.1.2.1 j) zr))=rv (x.2.1.getD (ix x.1.1 i) zr)))}
def T7:A6:= {args:= [.val false (.int .i64), .val false (.sl (.pair (.int .i64) (.int .i64)))],res:= [.val false (.int .i64)],shared:=false,pre:=fun(x:Int×(List (Int×Int))×Unit)=>True,post:=fun(x:Int×(List (Int×Int))×Unit) (r:Int×Unit)=>r.1=E0t x.1 x.2.1}
def L7:A6:= {args:= [.val false (.int .i64)],res:= [.own (.int .i64) 3],shared:=false,pre:=fun(x:Int×Unit)=>0<=x.1/\x.1<=16384,post:=fun(x:Int×Unit) (r:(List Int)×Unit)=>r.1=idL x.1}
def I7:A6:= {args:= [.row (.int .i64) 3, .val true (.pair (.int .i64) (.int .i64))],res:= [.val false .bool],shared:=false,pre:=fun(x:(List Int)×(Int×Int)×Unit)=>UF x.1/\inB x.1.length x.2.1/\x.1.length<=16384,post:=fun(x:(List Int)×(Int×Int)×Unit) (r:Bool×Unit)=>r.1=decide (root x.1 x.2.1.1≠root x.1 x.2.1.2),mpost:=fun(x:(List Int)×(Int×Int)×Unit) (r:Bool×Unit) (o:(List Int)×Unit)=>UF o.1/\o.1.length=x.1.length/\∀i:Int,0<=i->i<(x.1.length:Int)->root o.1 i=if root x.1 i=max (root x.1 x.2.1.1) (root x.1 x.2.1.2)then min (root x.1 x.2.1.1) (root x.1 x.2.1.2)else root x.1 i}
def H8:A6:= {args:= [.row (.int .i64) 3, .val false (.int .i64)],res:= [.val false (.int .i64)],shared:=false,pre:=fun(x:(List Int)×Int×Unit)=>UF x.1/\0<=x.2.1/\x.2.1<(x.1.length:Int)/\x.1.length<=16384,post:=fun(x:(List Int)×Int×Unit) (r:Int×Unit)=>r.1=root x.1 x.2.1,mpost:=fun(x:(List Int)×Int×Unit) (r:Int×Unit) (o:(List Int)×Unit)=>UF o.1/\o.1.length=x.1.length/\∀i:Int,0<=i->i<(x.1.length:Int)->root o.1 i=root x.1 i}
def E5:A6:= {args:= [.val false (.sl tQ), .fn [(true,tQ)] false .bool],res:= [.val false (.int .i64)],shared:=false,pre:=fun(x:(List QQ)×(((QQ×Unit)->Prop)×((QQ×Unit)->Bool))×Unit)=>∀i∈x.1,x.2.1.1 (i,()),post:=fun(x:(List QQ)×(((QQ×Unit)->Prop)×((QQ×Unit)->Bool))×Unit) (r:Int×Unit)=>r.1=G6a (fun i=>x.2.1.2 (i,())) x.1}
def Y4:A6:= {args:= [.val false (.sl tE)],res:= [.own tE 120],shared:=true,pre:=fun(x:(List EE)×Unit)=>F7y x.1,post:=fun(x:(List EE)×Unit) (r:(List EE)×Unit)=>isC (C1 x.1) r.1}
def O3:A6:= {args:= [.val true tM],res:= [.val false .bool],shared:=false,pre:=fun(x:MM×Unit)=>True,post:=fun(x:MM×Unit) (r:Bool×Unit)=>r.1=decide (F6 x.1)}
def F7:A6:= {args:= [.val false (.int .i64), .val false (.ptr (.int .i64))],res:= [.val false .bool],shared:=false,pre:=fun(x:Int×Int×Unit)=>True,post:=fun(x:Int×Int×Unit) (r:Bool×Unit)=>r.1=decide (x.1<0\/x.2.1<=x.1)}
def C9:A6:= {args:= [.val false (.sl (.int .i64)), .fn [(false,(.int .i64))] false .bool],res:= [.val false .bool],shared:=false,pre:=fun(x:(List Int)×(((Int×Unit)->Prop)×((Int×Unit)->Bool))×Unit)=>∀i∈x.1,x.2.1.1 (i,()),post:=fun(x:(List Int)×(((Int×Unit)->Prop)×((Int×Unit)->Bool))×Unit) (r:Bool×Unit)=>r.1=decide (∃i∈x.1,x.2.1.2 (i,())=true)}
def M6:A6:= {args:= [.val false (.int .i64)],res:= [.val false .bool],shared:=false,pre:=fun(x:Int×Unit)=>True,post:=fun(x:Int×Unit) (r:Bool×Unit)=>r.1=decide (0<=x.1/\x.1<=16384)}
def M7:A6:= {args:= [.val false (.sl tE), .val false (.sl (.int .i64))],res:= [.val false (.sl tE), .val false .bool],shared:=true,pre:=fun(x:(List EE)×(List Int)×Unit)=>okV K1 x.1/\x.2.1.length<=100000,post:=fun(x:(List EE)×(List Int)×Unit) (r:(List EE)×Bool×Unit)=>L8 x.2.1 x.2.1.length->(∀j,C1 x.1 j≠0->0<=j/\j<x.2.1.length)->isC (fun i=>if 0<=i/\i<x.2.1.length then C1 x.1 (((List.idxOf i x.2.1:Nat)):Int)else 0) r.1/\r.2.1=true}
def U5:A6:= {args:= [.val true (.pair (.sl (.int .i64)) (.pair (.sl (.int .i64)) (.pair tM tM))), .val false (.sl tQ)],res:= [.val false (.int .i64)],shared:=false,pre:=fun(x:((List Int)×((List Int)×(MM×MM)))×(List QQ)×Unit)=>x.1.1.length<=16384/\okM K1 x.1.2.2.1/\okM K1 x.1.2.2.2,post:=fun(x:((List Int)×((List Int)×(MM×MM)))×(List QQ)×Unit) (r:Int×Unit)=>(¬B4e x.1 x.1.1.length->r.1=1)/\(B4e x.1 x.1.1.length->(x.2.1.length≠x.1.1.length->r.1=4)/\(x.2.1.length=x.1.1.length->r.1=0))}
def A1q:A6:= {args:= [.val true tQ, .val true tQ, .val true tQ],res:= [.val true tQ],shared:=true,pre:=fun(x:QQ×QQ×QQ×Unit)=>sz K1 x.1/\sz K1 x.2.1/\sz K1 x.2.2.1,post:=fun(x:QQ×QQ×QQ×Unit) (r:QQ×Unit)=>(rv x.2.2.1=0->r.1=x.1)/\(rv x.2.2.1≠0->r.1=rc (rv x.1-rv x.2.1*rv x.2.2.1))}
def A0e:A6:= {args:= [.val false (.sl tE), .val false (.sl tE), .fn [(true,tQ),(true,tQ)] true tQ],res:= [.own tE 120],shared:=true,pre:=fun(x:(List EE)×(List EE)×(((QQ×QQ×Unit)->Prop)×((QQ×QQ×Unit)->QQ))×Unit)=>x.1.length<=100000/\x.2.1.length<=100000/\∀u v,(u=zr\/∃e∈x.1,e.2=u)->(v=zr\/∃e∈x.2.1,e.2=v)->x.2.2.1.1 (u,v,()),post:=fun(x:(List EE)×(List EE)×(((QQ×QQ×Unit)->Prop)×((QQ×QQ×Unit)->QQ))×Unit) (r:(List EE)×Unit)=>r.1=H4 x.2.2.1.2 x.1 x.2.1}
def S9:A6:= {args:= [.val false (.sl tE)],res:= [.val false (.sl tE)],shared:=true,pre:=fun(x:(List EE)×Unit)=>F2z x.1,post:=fun(x:(List EE)×Unit) (r:(List EE)×Unit)=>(asc x.1->r.1=x.1)/\(¬asc x.1->asc r.1/\(∀j,C1 r.1 j=C1 x.1 j)/\r.1.length<=20/\szV 16777216 r.1)}
def W0:A6:= {args:= [.val true tQ, .val true tQ],res:= [.val true tQ],shared:=true,pre:=fun(x:QQ×QQ×Unit)=>sh3 x.1,post:=fun(x:QQ×QQ×Unit) (r:QQ×Unit)=>r.1=rc (rv x.1)}
def A0g:A6:= {args:= [.val false (.sl tE), .val false (.int .i64)],res:= [.val false .bool],shared:=false,pre:=fun(x:(List EE)×Int×Unit)=>True,post:=fun(x:(List EE)×Int×Unit) (r:Bool×Unit)=>r.1=decide (L9 x.1 x.2.1)}
def E6:A6:= {args:= [.val false (.sl (.int .i64)), .fn [(false,(.int .i64))] false .bool],res:= [.val false (.int .i64)],shared:=false,pre:=fun(x:(List Int)×(((Int×Unit)->Prop)×((Int×Unit)->Bool))×Unit)=>∀i∈x.1,x.2.1.1 (i,()),post:=fun(x:(List Int)×(((Int×Unit)->Prop)×((Int×Unit)->Bool))×Unit) (r:Int×Unit)=>r.1=G5h (fun i=>x.2.1.2 (i,())) x.1}
def A1a:A6:= {args:= [.val false (.sl tE), .val false (.int .i64)],res:= [.val true tQ],shared:=true,pre:=fun(x:(List EE)×Int×Unit)=>okV K1 x.1,post:=fun(x:(List EE)×Int×Unit) (r:QQ×Unit)=>r.1=rc (C1 x.1 x.2.1)}
def I3:A6:= {args:= [.val false (.sl tE), .val true tQ, .val false (.sl tE)],res:= [.val false (.sl tE)],shared:=true,pre:=fun(x:(List EE)×QQ×(List EE)×Unit)=>okV K1 x.1/\sz K1 x.2.1/\okV K1 x.2.2.1,post:=fun(x:(List EE)×QQ×(List EE)×Unit) (r:(List EE)×Unit)=>isC (fun i=>C1 x.1 i+rv x.2.1*C1 x.2.2.1 i) r.1}
def H2:A6:= {args:= [.val false (.sl (.int .i64))],res:= [.val false .bool],shared:=false,pre:=fun(x:(List Int)×Unit)=>x.1.length<=100000,post:=fun(x:(List Int)×Unit) (r:Bool×Unit)=>r.1=decide (L8 x.1 x.1.length)}
def T4:A6:= {args:= [.val true tE, .val true tE],res:= [.val false (.int .i64)],shared:=false,pre:=fun(x:EE×EE×Unit)=>True,post:=fun(x:EE×EE×Unit) (r:Int×Unit)=>r.1=A0s x.1.1 x.2.1.1}
def K9:A6:= {args:= [.val true (.pair (.sl (.int .i64)) (.pair (.sl (.int .i64)) (.pair tM tM))), .val false (.int .i64)],res:= [.val false .bool],shared:=false,pre:=fun(x:((List Int)×((List Int)×(MM×MM)))×Int×Unit)=>0<=x.2.1/\x.2.1<=16384/\okM K1 x.1.2.2.1/\okM K1 x.1.2.2.2,post:=fun(x:((List Int)×((List Int)×(MM×MM)))×Int×Unit) (r:Bool×Unit)=>r.1=true↔B4e x.1 x.2.1}
def N8:A6:= {args:= [.val false (.sl tE)],res:= [.val false .bool],shared:=false,pre:=fun(x:(List EE)×Unit)=>True,post:=fun(x:(List EE)×Unit) (r:Bool×Unit)=>r.1=decide (asc x.1)}
def C5:A6:= {args:= [.row tE 120, .fn [(true,tE),(true,tE)] false (.int .i64)],res:= [],shared:=true,pre:=fun(x:(List EE)×(((EE×EE×Unit)->Prop)×((EE×EE×Unit)->Int))×Unit)=>D1r x.2.1.1 x.2.1.2/\x.1.length<=20,post:=fun(x:(List EE)×(((EE×EE×Unit)->Prop)×((EE×EE×Unit)->Int))×Unit) (r:Unit)=>True,mpost:=fun(x:(List EE)×(((EE×EE×Unit)->Prop)×((EE×EE×Unit)->Int))×Unit) (r:Unit) (o:(List EE)×Unit)=>o.1.Perm x.1/\E2d x.2.1.2 o.1}
def C6:A6:= {args:= [.row tE 120, .val false (.int .i64), .val false (.int .i64), .fn [(true,tE),(true,tE)] false (.int .i64)],res:= [],shared:=true,pre:=fun(x:(List EE)×Int×Int×(((EE×EE×Unit)->Prop)×((EE×EE×Unit)->Int))×Unit)=>D1r x.2.2.2.1.1 x.2.2.2.1.2/\0<=x.2.1/\x.2.1<=x.2.2.1/\x.2.2.1<=(x.1.length:Int)/\x.1.length<=100000,post:=fun(x:(List EE)×Int×Int×(((EE×EE×Unit)->Prop)×((EE×EE×Unit)->Int))×Unit) (r:Unit)=>True,mpost:=fun(x:(List EE)×Int×Int×(((EE×EE×Unit)->Prop)×((EE×EE×Unit)->Int))×Unit) (r:Unit) (o:(List EE)×Unit)=>o.1.Perm x.1/\o.1.take x.2.1.toNat=x.1.take x.2.1.toNat/\o.1.drop x.2.2.1.toNat=x.1.drop x.2.2.1.toNat/\E2d x.2.2.2.1.2 ((o.1.drop x.2.1.toNat).take (x.2.2.1.toNat-x.2.1.toNat))}
def J3:A6:= {args:= [.val true tQ, .val true tQ, .val false (.ptr tQ)],res:= [.val true tQ],shared:=true,pre:=fun(x:QQ×QQ×QQ×Unit)=>sz K1 x.1/\sz K1 x.2.1/\sz K1 x.2.2.1,post:=fun(x:QQ×QQ×QQ×Unit) (r:QQ×Unit)=>r.1=rc (rv x.1+rv x.2.2.1*rv x.2.1)}
def H1:A6:= {args:= [.val false (.sl (.int .i64)), .val false (.int .i64)],res:= [.val false .bool],shared:=false,pre:=fun(x:(List Int)×Int×Unit)=>0<=x.2.1/\x.2.1<=16384,post:=fun(x:(List Int)×Int×Unit) (r:Bool×Unit)=>r.1=decide (L8 x.1 x.2.1)}
def H9:A6:= {args:= [.val true tM, .val false (.ptr (.int .i64))],res:= [.val false .bool],shared:=false,pre:=fun(x:MM×Int×Unit)=>True,post:=fun(x:MM×Int×Unit) (r:Bool×Unit)=>r.1=decide (sqr x.1 x.2.1)}
def E1:A6:= {args:= [.row tE 120, .val false (.int .i64), .fn [(true,tE),(true,tE)] false (.int .i64)],res:= [],shared:=true,pre:=fun(x:(List EE)×Int×(((EE×EE×Unit)->Prop)×((EE×EE×Unit)->Int))×Unit)=>D1r x.2.2.1.1 x.2.2.1.2/\x.2.1=(x.1.length:Int)/\x.1.length<=20,post:=fun(x:(List EE)×Int×(((EE×EE×Unit)->Prop)×((EE×EE×Unit)->Int))×Unit) (r:Unit)=>True,mpost:=fun(x:(List EE)×Int×(((EE×EE×Unit)->Prop)×((EE×EE×Unit)->Int))×Unit) (r:Unit) (o:(List EE)×Unit)=>o.1.Perm x.1/\E2d x.2.2.1.2 o.1}
def A3z:A6:= {args:= [.row tE 120, .val false (.int .i64), .val false (.int .i64), .val false (.int .i64), .fn [(true,tE),(true,tE)] false (.int .i64)],res:= [],shared:=true,pre:=fun(x:(List EE)×Int×Int×Int×(((EE×EE×Unit)->Prop)×((EE×EE×Unit)->Int))×Unit)=>False,post:=fun(x:(List EE)×Int×Int×Int×(((EE×EE×Unit)->Prop)×((EE×EE×Unit)->Int))×Unit) (r:Unit)=>True}
def B9v:An:= {loop:= [(2,⟨[0],[],[(3,false,vI)],[],[]⟩)],plan:= [(4,[5,10],[],true,(pR 0 5 (.q 5 (pR 6 4 (.q 10 (.p 11 .done))))))]}
def D1t:An:= {join:= [(13,⟨[2,7,9,10],[1],[(0,false,[.val (.sl tE)]),(1,false,[.val (.sl tE)]),(8,false,vI)],[(2,38,[.val .bool, .val (.sl (.int .u32)), .val (.sl (.int .u32))]),(3,38,[.val .bool, .val (.sl (.int .u32)), .val (.sl (.int .u32))])],[]⟩)],loop:= [(2,⟨[2],[],[(0,false,[.val (.sl tE)]),(1,false,[.val (.sl tE)]),(7,false,[.own tE 120])],[],[]⟩)],plan:= [(5,[11,15],[],true,(pR 0 11 (.q 11 (pR 12 3 (.q 15 (pR 16 3 .done)))))),(6,[3,7],[9],true,(pR 0 3 (.q 3 (pR 4 3 (.q 7 (.p 8 (.e 9 .done))))))),(11,[3,7],[9],true,(pR 0 3 (.q 3 (pR 4 3 (.q 7 (.p 8 (.e 9 .done)))))))]}
def D1x:An:= {loop:= [(4,⟨[1,10,11],[],[(12,false,vI)],[],[]⟩)]}
def C9b:An:= {}
def D4i:An:= {}
def E0l:An:= {join:= [(7,⟨[1,4,5,9,10,11],[0],[],[(1,38,[.val .bool, .val (.sl (.int .u32)), .val (.sl (.int .u32))])],[]⟩)],loop:= [(3,⟨[1,4,5,9,10],[0],[(11,false,vI)],[(1,38,[.val .bool, .val (.sl (.int .u32)), .val (.sl (.int .u32))])],[]⟩)]}
def B3i:An:= {plan:= [(3,[0,1,2],[5],true,(.q 0 (.q 1 (.q 2 (.e 3 (.e 4 (.e 5 .done)))))))]}
def B9l:An:= {}
def A9v:An:= {loop:= [(3,⟨[0,3,9,10],[],[(11,false,vI)],[],[(0, .row .bool 4)]⟩)]}
def A5v:A9 N8.args->Prop:=fun(x:List EE×Unit)=>let d:=(1:Int);let a:=(x.1.length:Int);∃(I:Int×Unit->Prop),∃(μ: _->Nat),I (d,())/\∀(p:Int×Unit),let c:=(i64.wrap (p.1+d),());let b:Prop:=((gx dEE x.1 p.1).1<=(gx dEE x.1 (i64.wrap (p.1-d))).1);(Ty.int i64).wf p.1/\True->I p->(decide (p.1<a)=true->((0:Int)<=i64.wrap (p.1-d)/\i64.wrap (p.1-d)<a)/\(0<=p.1/\p.1<a)/\(decide b=true->false=decide (asc x.1))/\(decide b=false->I c/\μ c<μ p))/\(decide (p.1<a)=false->true=decide (asc x.1))
def B3h:A9 A0e.args->Prop:=fun(x:List EE×List EE×((QQ×QQ×Unit->Prop)×(QQ×QQ×Unit->(Bool×List Int)×List Int))×Unit)=>let j:=(x.1.length:Int);let i:=(x.2.1.length:Int);let h:=(1:Int);let o:=h.toNat;let c:=(0:Int);(c<=c/\c<=Max.max j i/\(↑(64:Nat):Int)*Max.max j i<=(281474976710656:Int)/\Max.max j i<=(9223372036854775807:Int))/\∃(I:List EE×List EE×List EE×Unit->Prop),∃(μ: _->Nat),I (x.1,x.2.1,List.replicate c.toNat dEE,())/\∀(p:List EE×List EE×List EE×Unit),let f:=(gx dEE p.1 c);let e:=(gx dEE p.2.1 c);let u:=(decide (e.1=f.1));let d:=(p.1.length:Int);let q:=(decide (c<d));let k:=(sel q (decide (f.1<=e.1)) false);let b:=(p.2.1.length:Int);let t:Prop:=(c<=h/\h<=b/\b<=b);let s:Prop:=(c<=c/\c<b);let m:=(decide (c<b));tE.sl.wf p.1/\tE.sl.wf p.2.1/\tE.sl.wf p.2.2.1/\True->I p->(sel q true m=true->∃(J:List EE×List EE×Int×Bool×List Int×List Int×Bool×List Int×List Int×Unit->Prop),((decide (c<d)=true/\decide (b=c)=false->c<=c/\c<d)/\(decide (c<d)=true/\decide (b=c)=false->c<=c/\c<b)/\(sel (decide (b=c)) true k=true->(c<=c/\c<d)/\(c<=c/\c<d)/\(c<=h/\h<=d/\d<=d)/\(decide (c<b)=true->c<=c/\c<b)/\(sel m u false=true->s/\t/\J (List.drop o (List.take d.toNat p.1),List.drop o (List.take b.toNat p.2.1),f.1,f.2.1.1,f.2.1.2,f.2.2,e.2.1.1,e.2.1.2,e.2.2,()))/\(sel m u false=false->J (List.drop o (List.take d.toNat p.1),p.2.1,f.1,f.2.1.1,f.2.1.2,f.2.2,false,[],[],())))/\(sel (decide (b=c)) true k=false->s/\s/\t/\J (p.1,List.drop o (List.take b.toNat p.2.1),e.1,false,[],[],e.2.1.1,e.2.1.2,e.2.2,())))/\∀(v:List EE×List EE×Int×Bool×List Int×List Int×Bool×List Int×List Int×Unit),let n:=(v.1,v.2.1,p.2.2.1,());let a:=(((v.2.2.2.1,v.2.2.2.2.1),v.2.2.2.2.2.1),((v.2.2.2.2.2.2.1,v.2.2.2.2.2.2.2.1),v.2.2.2.2.2.2.2.2.1),());let g:=(v.2.2.1,x.2.2.1.2 a);let l:=(v.1,v.2.1,p.2.2.1++ [g],());tE.sl.wf v.1/\tE.sl.wf v.2.1/\(Ty.int i64).wf v.2.2.1/\Ty.bool.wf v.2.2.2.1/\(Ty.int u32).sl.wf v.2.2.2.2.1/\(Ty.int u32).sl.wf v.2.2.2.2.2.1/\Ty.bool.wf v.2.2.2.2.2.2.1/\(Ty.int u32).sl.wf v.2.2.2.2.2.2.2.1/\(Ty.int u32).sl.wf v.2.2.2.2.2.2.2.2.1/\True->J v->Go.Proofs.Tryz.prog=Go.Proofs.Tryz.prog/\x.2.2.1.1 a/\(tQ.wf (x.2.2.1.2 a)->True/\∀(r:Int×Unit),G1 r.1/\True->r.1=(rv (x.2.2.1.2 a)).num.sign->(decide (r.1≠c)=true->((p.2.2.1.length+ [g].length)*(64:Nat)<=(140737488355328:Nat)/\p.2.2.1.length+ [g].length<=9223372036854775807)/\I l/\μ l<μ p)/\(decide (r.1≠c)=false->I n/\μ n<μ p)))/\(sel q true m=false->p.2.2.1=H4 x.2.2.1.2 x.1 x.2.1)
def B3w:A9 A0g.args->Prop:=fun(x:List EE×Int×Unit)=>let f:=(0:Int);let d:=(x.1.length:Int);True/\∀(r:Bool×Unit),True/\True->r.1=decide (asc x.1)->((!r.1)=true->false=decide (L9 x.1 x.2.1))/\((!r.1)=false->∃(I:Int×Unit->Prop),∃(μ: _->Nat),I (f,())/\∀(p:Int×Unit),let e:=(i64.wrap (p.1+1),());let a:=(gx dEE x.1 p.1);let c:=(decide (a.1<f));let b:=(decide (x.2.1<=a.1));(Ty.int i64).wf p.1/\True->I p->(decide (p.1<d)=true->(f<=p.1/\p.1<d)/\(sel c true b=false->True)/\∀(r:Int×Unit),(sel c true b=false->(G1 r.1/\True)/\r.1=(rv a.2).num.sign)->(sel (sel c true b) true (decide (r.1=f))=true->false=decide (L9 x.1 x.2.1))/\(sel (sel c true b) true (decide (r.1=f))=false->I e/\μ e<μ p))/\(decide (p.1<d)=false->true=decide (L9 x.1 x.2.1)))
def B1n:A9 W0.args->Prop:=fun(x:QQ×QQ×Unit)=>sh3 x.1/\∀(r:QQ×Unit),WfQ r.1/\True->r.1=rc (rv x.1)->r.1=rc (rv x.1)
def B8v:A9 Y4.args->Prop:=fun(x:List EE×Unit)=>F2z x.1/\∀(r:List EE×Unit),D9m r.1/\True->(asc x.1->r.1=x.1)/\(¬asc x.1->asc r.1/\(∀(j:Int),C1 r.1 j=C1 x.1 j)/\r.1.length<=(20:Nat)/\szV (16777216:Nat) r.1)->∃(ok:QQ×QQ×Unit->Prop),∃(φ:QQ×QQ×Unit->(Bool×List Int)×List Int),(∀(y:QQ×QQ×Unit),tQ.wf y.1/\tQ.wf y.2.1/\True->ok y->sh3 y.1/\∀(z:QQ×Unit),WfQ z.1/\True->z.1=rc (rv y.1)->true=true/\z.1=φ y)/\(List.length r.1<=100000/\(0:Nat)<=(100000:Nat)/\∀(u v:D2),(u=zr\/∃(e:EE),e∈r.1/\e.2=u)->(v=zr\/∃(e:EE),e∈ []/\e.2=v)->(ok,φ).1 (u,v,()))/\∀(a:List EE×Unit),D9m a.1/\True->a.1=H4 φ r.1 []->C4u a.1/\∀(i:Int),C1 a.1 i=C1 x.1 i
def C3g:A9 A1a.args->Prop:=fun(x:List EE×Int×Unit)=>let c:=(x.1.length:Int);True/\∀(r:QQ×Unit),WfQ r.1/\True->r.1=ri (0:Int)->∃(I:Int×Bool×List Int×List Int×Unit->Prop),∃(μ: _->Nat),I ((0:Int),r.1.1.1,r.1.1.2,r.1.2,())/\∀(p:Int×Bool×List Int×List Int×Unit),let d:=(gx dEE x.1 p.1);let a:=((p.2.1,p.2.2.1),p.2.2.2.1);(Ty.int i64).wf p.1/\Ty.bool.wf p.2.1/\(Ty.int u32).sl.wf p.2.2.1/\(Ty.int u32).sl.wf p.2.2.2.1/\True->I p->(decide (p.1<c)=true->∃(J:Bool×List Int×List Int×Unit->Prop),((0<=p.1/\p.1<c)/\(decide (d.1=x.2.1)=true->(sh3 a/\sh3 d.2)/\∀(r:QQ×Unit),WfQ r.1/\True->r.1=rc (rv a+rv d.2)->J (r.1.1.1,r.1.1.2,r.1.2,()))/\(decide (d.1=x.2.1)=false->J (p.2.1,p.2.2.1,p.2.2.2.1,())))/\∀(e:Bool×List Int×List Int×Unit),let b:=(i64.wrap (p.1+1),e.1,e.2.1,e.2.2.1,());Ty.bool.wf e.1/\(Ty.int u32).sl.wf e.2.1/\(Ty.int u32).sl.wf e.2.2.1/\True->J e->I b/\μ b<μ p)/\(decide (p.1<c)=false->a=rc (C1 x.1 x.2.1))
def A4a:A9 J3.args->Prop:=fun(x:QQ×QQ×QQ×Unit)=>let a:=(rv x.1+rv x.2.2.1*rv x.2.1);True/\∀(r:Int×Unit),G1 r.1/\True->r.1=(rv x.2.1).num.sign->(decide (r.1=0)=true->sh3 x.1/\∀(r:QQ×Unit),WfQ r.1/\True->r.1=rc (rv x.1)->r.1=rc a)/\(decide (r.1=0)=false->(sh3 x.2.2.1/\sh3 x.2.1)/\∀(r:QQ×Unit),WfQ r.1/\True->r.1=rc (rv x.2.2.1*rv x.2.1)->(sh3 x.1/\sh3 r.1)/\∀(b:QQ×Unit),WfQ b.1/\True->b.1=rc (rv x.1+rv r.1)->b.1=rc a)
def A6f:A9 I3.args->Prop:=fun(x:List EE×QQ×List EE×Unit)=>F2z x.1/\∀(r:List EE×Unit),D9m r.1/\True->(asc x.1->r.1=x.1)/\(¬asc x.1->asc r.1/\(∀(j:Int),C1 r.1 j=C1 x.1 j)/\r.1.length<=(20:Nat)/\szV (16777216:Nat) r.1)->F2z x.2.2.1/\∀(a:List EE×Unit),D9m a.1/\True->(asc x.2.2.1->a.1=x.2.2.1)/\(¬asc x.2.2.1->asc a.1/\(∀(j:Int),C1 a.1 j=C1 x.2.2.1 j)/\a.1.length<=(20:Nat)/\szV (16777216:Nat) a.1)->∃(ok:QQ×QQ×Unit->Prop),∃(φ:QQ×QQ×Unit->(Bool×List Int)×List Int),(∀(y:QQ×QQ×Unit),tQ.wf y.1/\tQ.wf y.2.1/\True->ok y->(sz K1 y.1/\sz K1 y.2.1/\sz K1 x.2.1)/\∀(z:QQ×Unit),WfQ z.1/\True->z.1=rc (rv y.1+rv x.2.1*rv y.2.1)->true=true/\z.1=φ y)/\(List.length r.1<=100000/\List.length a.1<=100000/\∀(u v:D2),(u=zr\/∃(e:EE),e∈r.1/\e.2=u)->(v=zr\/∃(e:EE),e∈a.1/\e.2=v)->(ok,φ).1 (u,v,()))/\∀(b:List EE×Unit),D9m b.1/\True->b.1=H4 φ r.1 a.1->C4u b.1/\∀(i:Int),C1 b.1 i=C1 x.1 i+rv x.2.1*C1 x.2.2.1 i
def A2j:A9 H2.args->Prop:=fun(x:List Int×Unit)=>let i:=(↑x.1.length:Int);let b:=(0:Int);let a:=(x.1.length:Int);(b<=a/\a<=a/\(↑(1:Nat):Int)*a<=(281474976710656:Int)/\a<=(9223372036854775807:Int))/\∃(I:Int×List Bool×Unit->Prop),∃(μ: _->Nat),I (b,List.replicate a.toNat false,())/\∀(p:Int×List Bool×Unit),let h:=(decide (gx b x.1 p.1<b));let g:=(decide (a<=gx b x.1 p.1));let f:=(p.2.1.length:Int);let e:=(List.getD p.2.1 (gx b x.1 p.1).toNat false);let d:=(sel h true g);let c:=(i64.wrap (p.1+1),List.set p.2.1 (gx b x.1 p.1).toNat true,());(Ty.int i64).wf p.1/\(List.length p.2.1<=9223372036854775807/\∀(x:Bool),x∈p.2.1->True)/\True->I p->(decide (p.1<a)=true->(b<=p.1/\p.1<a)/\(sel h true g=false->b<=gx b x.1 p.1/\gx b x.1 p.1<f)/\(sel d true e=true->false=decide (L8 x.1 i))/\(sel d true e=false->(b<=gx b x.1 p.1/\gx b x.1 p.1<f)/\I c/\μ c<μ p))/\(decide (p.1<a)=false->true=decide (L8 x.1 i))
theorem E6m {l:List Ent} (h:∀x∈l,WfE x):F5h l:=fun e u=>⟨A2 (h e u).2.1.2.2,A2 (h e u).2.2.2⟩
theorem Y8 {q:D2} (h:WfQ q):C0v q:=⟨A2 h.1.2.2,A2 h.2.2⟩
theorem B2o (x:A9 N8.args) (hw:awf N8.args x) (_:N8.pre x):A5v x:=by
 obtain⟨l,_⟩:=x;have hl:l.length<=9223372036854775807:=hw.1.1;change List Ent at l;simp only[A5v];refine⟨fun p=>1<=p.1/\∀s t:Nat,s<t->t<p.1.toNat->t<l.length->(l.getD s dEE).1<(l.getD t dEE).1,fun p=>((l.length:Int)-p.1).toNat,⟨g0k _,fun s t h1 u=>by simp at u;omega⟩, ?_⟩;rintro⟨k,_⟩ _ ⟨h0,h1⟩;change Int at k;simp only at h0 h1⊢;refine⟨fun h=> ?_,fun h=> ?_⟩
 . have h:=g0a h;rw[wr (a:=k-1) (by omega) (by omega)];refine⟨⟨by omega,by omega⟩,⟨by omega,h⟩,fun hb=> ?_,fun hb=> ?_⟩
   . have hb:=g0a hb;refine(g1e fun hp=> ?_).symm;unfold asc at hp;rw[g3x]at hp;have:=hp (k-1).toNat k.toNat (by omega) (by omega) (by omega);have e1:=J9 (d:=dEE) (l:=l) (i:=k) (by omega) h;have e2:=J9 (d:=dEE) (l:=l) (i:=k-1) (by omega) (by omega);rw[g0l (by omega)]at e1 e2;rw[g5q e1,g5q e2]at this;omega
   . have hb:=g0b hb;rw[wr (a:=k+1) (by omega) (by omega)];rw[F3 (by omega) h,F3 (by omega) (by omega)]at hb;refine⟨⟨by omega,fun s t u h3 h4=> ?_⟩,by omega⟩;by_cases ht:t=k.toNat
     . by_cases hs:s=(k-1).toNat
       . rw[ht,hs];omega
       . have:=h1 s (k-1).toNat (by omega) (by omega) (by omega);rw[ht];omega
     . exact h1 s t u (by omega) h4
 . have h:=g0b h;refine(g0z ?_).symm;unfold asc;rw[g3x];intro i j hi hj a0;have:=h1 i j a0 (by omega) hj;rw[g0g,g0l hi,g0g,g0l hj]at this;exact this
theorem G9b {α:Type} (e:α) (a:List α):List.drop (Int.toNat 1) (List.take (((e::a).length:Int)).toNat (e::a))=a:=by
 rw[g0i,g4y];rfl
theorem C3e (x:A9 A0e.args) (hw:awf A0e.args x) (hp:A0e.pre x):B3h x:=by
 obtain⟨A,B,⟨ok,φ⟩,_⟩:=x;change List Ent at A B;obtain⟨hA,hB,a6⟩:A.length<=100000/\B.length<=100000/\∀u v:D2,(u=zr\/∃e∈A,e.2=u)->(v=zr\/∃e∈B,e.2=v)->ok (u,v,()):=hp;simp only[B3h];have e0:List.replicate (Int.toNat 0) dEE= []:=rfl;rw[e0];refine⟨⟨g0k _,by omega,by omega,by omega⟩, ?_⟩;refine⟨fun p=>(∀e∈p.1,e∈A)/\(∀e∈p.2.1,e∈B)/\p.2.2.1++H4 φ p.1 p.2.1=H4 φ A B/\p.2.2.1.length+(p.1.length+p.2.1.length)<=A.length+B.length,fun p=>p.1.length+p.2.1.length,⟨fun _ h=>h,fun _ h=>h,rfl,by simp⟩, ?_⟩;rintro⟨a,b,res,_⟩ _ ⟨ha,hb,hm,hl⟩;change List Ent at a b res;simp only at ha hb hm hl⊢;refine⟨fun hc=> ?_,fun hc=> ?_⟩
 . refine⟨fun q=>(q.1.length+q.2.1.length<a.length+b.length)/\(∀e∈q.1,e∈A)/\(∀e∈q.2.1,e∈B)/\(((q.2.2.2.1,q.2.2.2.2.1),q.2.2.2.2.2.1)=zr\/∃e∈A,e.2=((q.2.2.2.1,q.2.2.2.2.1),q.2.2.2.2.2.1))/\(((q.2.2.2.2.2.2.1,q.2.2.2.2.2.2.2.1),q.2.2.2.2.2.2.2.2.1)=zr\/∃e∈B,e.2=((q.2.2.2.2.2.2.1,q.2.2.2.2.2.2.2.1),q.2.2.2.2.2.2.2.2.1))/\H4 φ a b=put q.2.2.1 (φ (((q.2.2.2.1,q.2.2.2.2.1),q.2.2.2.2.2.1),((q.2.2.2.2.2.2.1,q.2.2.2.2.2.2.2.1),q.2.2.2.2.2.2.2.2.1),())) (H4 φ q.1 q.2.1),⟨fun h=>⟨g0k _,g0a h.1⟩,fun h=>⟨g0k _,by have:=g0b h.2;omega⟩,fun h=> ?_,fun h=> ?_⟩, ?_⟩
   . cases a with
     |nil=>
      cases b with
      |nil=>simp[sel]at hc
      |cons f b=>simp[sel]at h;omega
     |cons e a=>
      have a2:e∈A:=ha e (g1j ..);have a1:∀z∈a,z∈A:=fun z hz=>ha z (g0n _ hz)
      have a3:(0:Int)<((e::a).length:Int):=by simp only[g1h];omega
      rw[G9b];refine⟨⟨g0k _,a3⟩,⟨g0k _,a3⟩,⟨by omega,by simp only[g1h];omega,g0k _⟩,fun h=>⟨g0k _,g0a h⟩,fun h2=> ?_,fun h2=> ?_⟩
      . cases b with
        |nil=>simp[sel]at h2
        |cons f b=>
         rw[G9b];have a0:(0:Int)<((f::b).length:Int):=by simp only[g1h];omega
         refine⟨⟨g0k _,a0⟩,⟨by omega,by simp only[g1h];omega,g0k _⟩,by simp only[g1h];omega,a1,fun z hz=>hb z (g0n _ hz), .inr ⟨e,a2,rfl⟩, .inr ⟨f,hb f (g1j ..),rfl⟩, ?_⟩;rw[J5,g0c,g1y,g1y]at h2;have h3:f.1=e.1:=h2.2;show H4 φ (e::a) (f::b)=put e.1 (φ (e.2,f.2,())) (H4 φ a b);rw[H4,g0u (by omega),g1c h3.symm]
      . refine⟨by simp only[g1h];omega,a1,hb, .inr ⟨e,a2,rfl⟩, .inl rfl, ?_⟩;show H4 φ (e::a) b=put e.1 (φ (e.2,zr,())) (H4 φ a b);cases b with
        |nil=>rw[H4]
        |cons f b=>
         have h3:¬f.1=e.1:=by
          have:decide ((gx dEE (f::b) 0).1=(gx dEE (e::a) 0).1)=false:=by simpa[sel]using h2
          exact g0b this
         have h4:e.1<=f.1:=by
          have:decide ((gx dEE (e::a) 0).1<=(gx dEE (f::b) 0).1)=true:=by
           rw[M5,J5]at h;simp only[g1h,g4g,g0c,g1y]at h;rcases h with h|h
           . omega
           . exact g0z h.2
          exact g0a this
         rw[H4,g1c (by omega)]
   . rw[M5,J5]at h;simp only[g1i,g7p,g1r]at h;obtain⟨a5,h⟩:=h;cases b with
     |nil=>simp at a5
     |cons f b=>
      have a0:(0:Int)<((f::b).length:Int):=by simp only[g1h];omega
      rw[G9b];refine⟨⟨g0k _,a0⟩,⟨g0k _,a0⟩,⟨by omega,by simp only[g1h];omega,g0k _⟩,by simp only[g1h];omega,ha,fun z hz=>hb z (g0n _ hz), .inl rfl, .inr ⟨f,hb f (g1j ..),rfl⟩, ?_⟩;show H4 φ a (f::b)=put f.1 (φ (zr,f.2,())) (H4 φ a b);cases a with
      |nil=>rw[H4]
      |cons e a=>
       have h3:¬e.1<=f.1:=by
        rcases h with h|h
        . simp at h
        . exact h
       rw[H4,g0u (by omega),g0u (by omega)]
   . rintro⟨a',b',i,u1,u2,u3,v1,v2,v3,_⟩ _ ⟨j1,j2,j3,j4,j5,j6⟩;change Int at i;simp only at j1 j2 j3 j4 j5 j6⊢;refine⟨by trivial,a6 _ _ j4 j5,fun _=>⟨trivial, ?_⟩⟩;rintro⟨s,_⟩ _ hs;simp only at hs⊢;generalize φ (((u1,u2),u3),((v1,v2),v3),())=z at*;have a4:∀(α:Type) (l:List α) (y:α),(l++ [y]).length=l.length+1:=fun α l y=>by simp
     refine⟨fun h=>⟨⟨by simp only[g1l];omega,by simp only[g1l];omega⟩,⟨j2,j3, ?_, ?_⟩,j1⟩,fun h=>⟨⟨j2,j3, ?_,by omega⟩,j1⟩⟩
     . have h:=g0a h;have hz:¬rv z=0:=fun h0=>h (by rw[hs,h0];rfl)
       rw[<-hm,j6,put,g0u hz,g3p];rfl
     . show(res++ [(i,z)]).length+ _ <= _;rw[a4];omega
     . have h:=g0b h;have hz:rv z=0:=E6s (by rw[<-hs];exact g5d.1 h);rw[<-hm,j6,put,g1c hz]
 . rw[M5]at hc;simp only[g1i,g1r]at hc;have h1:a= []:=g0m (by omega);have h2:b= []:=g0m (by omega);subst h1 h2;rw[H4,g5h]at hm;exact hm
theorem C3k (x:A9 A0g.args) (hw:awf A0g.args x) (_:A0g.pre x):B3w x:=by
 obtain⟨l,n,_⟩:=x;have hl:l.length<=9223372036854775807:=hw.1.1;change List Ent at l;change Int at n;simp only[B3w];refine⟨trivial, ?_⟩;rintro⟨r,_⟩ _ hr;simp only at hr⊢;refine⟨fun h=> ?_,fun h=> ?_⟩
 . have:¬asc l:=by
    rw[hr]at h;simpa using h
   exact(g1e fun hv=>this hv.1).symm
 have ha:asc l:=by
  rw[hr]at h;simpa using h
 refine⟨fun p=>0<=p.1/\∀e∈l.take p.1.toNat,0<=e.1/\e.1<n/\rv e.2≠0,fun p=>((l.length:Int)-p.1).toNat,⟨g0k _,by simp⟩, ?_⟩;rintro⟨i,_⟩ _ ⟨u,h1⟩;change Int at i;simp only at u h1⊢;refine⟨fun hi=> ?_,fun hi=> ?_⟩
 . have hi:=g0a hi;refine⟨⟨u,hi⟩,fun _=>trivial, ?_⟩;rintro⟨s,_⟩ hs;simp only at hs⊢;simp only[M5]at hs⊢;have a0:gx dEE l i∈l:=K8 u hi;refine⟨fun hb=> ?_,fun hb=> ?_⟩
   . refine(g1e fun hv=> ?_).symm;have:=hv.2 _ a0;simp only[g4g,g1y]at hb;rcases hb with(hb|hb) |hb
     . omega
     . omega
     . have h2:=(hs (by simp only[g1i,g1r];omega)).2;exact this.2.2 (E6s (by rw[<-h2];exact hb))
   . simp only[g1i,g1r]at hb;have h2:=(hs (by simp only[g1i,g1r];exact hb.1)).2;rw[wr (by omega) (by omega)];refine⟨⟨by omega,A5x (d:=dEE) (q:=fun e=>0<=e.1/\e.1<n/\rv e.2≠0) u hi h1 ⟨by omega,by omega,fun h3=>hb.2 (by rw[h2,h3];rfl)⟩⟩,by omega⟩
 . have hi:=g0b hi;rw[D9 (by omega)]at h1;exact(g0z ⟨ha,h1⟩).symm
theorem B9y (x:A9 W0.args) (hw:awf W0.args x) (u:W0.pre x):B1n x:=by
 simp only[B1n];exact⟨u,fun r _ h=>h⟩
theorem G0j {k:Nat} {v:List Ent} (h:szV k v) {u:D2} (hu:u=zr\/∃e∈v,e.2=u):sz k u:=by
 rcases hu with rfl| ⟨e,he,rfl⟩
 . exact⟨g1n _,g1n _⟩
 . exact h e he
theorem C7n (x:A9 Y4.args) (hw:awf Y4.args x) (hp:Y4.pre x):B8v x:=by
 obtain⟨l,_⟩:=x;change List Ent at l;have hp:F7y l:=hp;have ha:F2z l:=hp.elim (fun h=> .inl h.1) .inr;simp only[B8v];refine⟨ha, ?_⟩;rintro⟨r,_⟩ _ ⟨r1,r2⟩;change List Ent at r;simp only at r1 r2⊢;have key:asc r/\(∀j,C1 r j=C1 l j)/\szV K1 r/\r.length<=100000:=by
  by_cases h:asc l
  . rw[r1 h];rcases hp with⟨_,h2,h3⟩ | ⟨h2,h3⟩
    . exact⟨h,fun _=>rfl,h2,h3⟩
    . exact⟨h,fun _=>rfl,fun e he=>F2 (h3 e he) (by decide),by omega⟩
  . obtain⟨g1,g2,g3,g4⟩:=r2 h;exact⟨g1,g2,fun e he=>F2 (g4 e he) (by decide),by omega⟩
 obtain⟨k1,k2,k3,k4⟩:=key;refine⟨fun y=>sz K1 y.1,fun y=>rc (rv y.1), ?_,⟨k4,by omega,fun u v hu _=>G0j k3 hu⟩, ?_⟩
 . rintro⟨u,v,_⟩ _ hu;exact⟨L5 (k:=K1) hu (by decide),fun z _ hz=>⟨by trivial,hz⟩⟩
 . rintro⟨q,_⟩ _ hq;simp only at hq⊢;rw[hq];obtain⟨g1,g2⟩:=F7c k1;exact⟨g1,fun i=>(g2 i).trans (k2 i)⟩
theorem C9t (x:A9 A1a.args) (hw:awf A1a.args x) (hp:A1a.pre x):C3g x:=by
 obtain⟨v,k,_⟩:=x;have a1:F5h v:=E6m hw.1.2;have a5:v.length<=9223372036854775807:=hw.1.1;change List Ent at v;change Int at k;obtain⟨ha,hs,hl⟩:okV K1 v:=hp;simp only[C3g];refine⟨trivial, ?_⟩;rintro⟨z,_⟩ _ hz;simp only at hz⊢;have hz:z=rc 0:=by rw[hz, <-F0v];rfl
 refine⟨fun p=>0<=p.1/\p.1<=(v.length:Int)/\((p.2.1,p.2.2.1),p.2.2.2.1)=rc (C1 (v.take p.1.toNat) k),fun p=>((v.length:Int)-p.1).toNat,⟨g0k _,g0d _,by rw[hz];rfl⟩, ?_⟩;rintro⟨i,b,m,d,_⟩ _ ⟨h0,h1,h2⟩;change Int at i;simp only at h0 h1 h2⊢;refine⟨fun h=> ?_,fun h=> ?_⟩
 . have h:=g0a h;have a2:gx dEE v i∈v:=K8 h0 h;have a4:v.take (i+1).toNat=v.take i.toNat++ [gx dEE v i]:=by
    rw[show(i+1).toNat=i.toNat+1 from by omega,g1z,J9 (d:=dEE) h0 h];rfl
   have hq:=F5d (v:=v.take i.toNat) (k:=K1) (ha.take) (fun e u=>a1 e (g2k u)) (fun e u=>hs e (g2k u)) (by decide) k;have a3:=hs _ a2;have a0:C1 (v.take (i+1).toNat) k=C1 (v.take i.toNat) k+if(gx dEE v i).1=k then rv (gx dEE v i).2 else 0:=by
    rw[a4,O1];simp only[C1,g1p]
   generalize gx dEE v i=e at*;refine⟨fun p=>((p.1,p.2.1),p.2.2.1)=rc (C1 (v.take (i+1).toNat) k),⟨⟨h0,h⟩,fun u=>⟨⟨?_,L5 (k:=K1) a3 (by decide)⟩, ?_⟩,fun u=> ?_⟩, ?_⟩
   . rw[h2];exact A2v hq (by decide)
   . have u:=g0a u;rintro⟨r,_⟩ _ hr;simp only at hr⊢;show r= _;rw[hr,h2,H6,a0,g1c u]
   . have u:=g0b u;show((b,m),d)= _;rw[h2,a0,g0u u,g1p]
   . rintro⟨b',m',d',_⟩ _ hr;simp only at hr⊢;rw[wr (by omega) (by omega)];exact⟨⟨by omega,by omega,hr⟩,by omega⟩
 . have h:=g0b h;rw[D9 (by omega)]at h2;exact h2
theorem A8e (x:A9 J3.args) (hw:awf J3.args x) (hp:J3.pre x):A4a x:=by
 obtain⟨p,q,f,_⟩:=x;have lq:C0v q:=Y8 hw.2.1;have lf:C0v f:=Y8 hw.2.2.1;change D2 at p q f;obtain⟨a0,hq,hf⟩:sz K1 p/\sz K1 q/\sz K1 f:=hp;simp only[A4a];refine⟨trivial, ?_⟩;rintro⟨s,_⟩ _ hs;simp only at hs⊢;refine⟨fun h=>⟨L5 a0 (by decide), ?_⟩,fun _=>⟨⟨L5 hf (by decide),L5 hq (by decide)⟩, ?_⟩⟩
 . rintro⟨r,_⟩ _ u;simp only at u⊢;have h:=g0a h;rw[hs]at h;rw[u,E6s h,g4o,g1p]
 . rintro⟨r,_⟩ _ u;simp only at u⊢;have hm:=D2y (A6p lf hf (by decide)) (A6p lq hq (by decide));refine⟨⟨L5 a0 (by decide),by rw[u];exact A2v hm (by decide)⟩, ?_⟩;rintro⟨t,_⟩ _ ht;simp only at ht⊢;rw[ht,u,H6]
theorem B2g (x:A9 I3.args) (hw:awf I3.args x) (hp:I3.pre x):A6f x:=by
 obtain⟨a,f,b,_⟩:=x;change List Ent at a b;change D2 at f;obtain⟨⟨a1,a2,a3⟩,hf,b1,b2,b3⟩:okV K1 a/\sz K1 f/\okV K1 b:=hp;simp only[A6f];refine⟨.inl a1, ?_⟩;rintro⟨r,_⟩ _ ⟨hr,_⟩;have hr:r=a:=hr a1;simp only;subst hr;refine⟨.inl b1, ?_⟩;rintro⟨s,_⟩ _ ⟨hs,_⟩;have hs:s=b:=hs b1;simp only;subst hs;refine⟨fun y=>sz K1 y.1/\sz K1 y.2.1,fun y=>rc (rv y.1+rv f*rv y.2.1), ?_,⟨a3,b3,fun u v hu hv=>⟨G0j a2 hu,G0j b2 hv⟩⟩, ?_⟩
 . rintro⟨u,v,_⟩ _ ⟨hu,hv⟩;exact⟨⟨hu,hv,hf⟩,fun z _ hz=>⟨by trivial,hz⟩⟩
 . rintro⟨r,_⟩ _ hr;simp only at hr⊢;rw[hr];obtain⟨m1,_,m3⟩:=D1b (fun y=>rc (rv y.1+rv f*rv y.2.1)) (fun p q=>p+rv f*q) (by rw[g4o,g1p]) _ _ (fun _ _ _ _=>rfl) a1 b1;exact⟨m1,m3⟩
def E7s:An:= {loop:= [(4,⟨[0,1],[],[(5,false,vI)],[],[]⟩)],plan:= [(6,[3,10,18,22],[],false,(pR 0 3 (.q 3 (.e 4 (pR 5 5 (.q 10 (.e 11 (pR 12 6 (.q 18 (pR 19 3 (.q 22 (.e 23 (.p 24 (.p 25 .done))))))))))))))]}
def D3v:A9 A9r.args->Prop:=fun(x:List QQ×List QQ×Unit)=>let g:=(0:Int);let d:=(x.2.1.length:Int);let c:Prop:=(x.1=x.2.1/\∀(e:QQ),e∈x.1->e=rc (rv e));let a:=(x.1.length:Int);(decide (a≠d)=true->false=decide c)/\(decide (a≠d)=false->∃(I:Int×Unit->Prop),∃(μ: _->Nat),I (g,())/\∀(p:Int×Unit),let h:=(gx dQ x.2.1 p.1);let f:=(i64.wrap (p.1+1),());(Ty.int i64).wf p.1/\True->I p->(decide (p.1<a)=true->(g<=p.1/\p.1<a)/\sh3 (gx dQ x.1 p.1)/\∀(r:Bool×Unit),True/\True->r.1=decide (gx dQ x.1 p.1=rc (rv (gx dQ x.1 p.1)))->((!r.1)=false->g<=p.1/\p.1<d)/\((!r.1)=false->sh3 h)/\∀(j:Bool×Unit),let b:=(sel (!r.1) true !j.1);((!r.1)=false->(True/\True)/\j.1=decide (gx dQ x.2.1 p.1=rc (rv h)))->(b=false->g<=p.1/\p.1<a)/\(b=false->g<=p.1/\p.1<d)/\(b=false->True)/\∀(i:Bool×Unit),(b=false->(True/\True)/\i.1=decide (gx dQ x.1 p.1=gx dQ x.2.1 p.1))->((sel b true !i.1)=true->false=decide c)/\((sel b true !i.1)=false->I f/\μ f<μ p))/\(decide (p.1<a)=false->true=decide c))
theorem D4s (x:A9 A9r.args) (hw:awf A9r.args x) (hp:A9r.pre x):D3v x:=by
 obtain⟨a,b,_⟩:=x;have hl:a.length<=9223372036854775807:=hw.1.1;change List D2 at a b;obtain⟨ha,hb⟩:(∀e∈a,sh3 e)/\∀e∈b,sh3 e:=hp;simp only[D3v];refine⟨fun h=> ?_,fun h=> ?_⟩
 . have h:=g0a h;exact(g1e fun e=>h (by rw[e.1])).symm
 . have a5:a.length=b.length:=by have:=g0b h;omega
   refine⟨fun p=>0<=p.1/\p.1<=(a.length:Int)/\a.take p.1.toNat=b.take p.1.toNat/\∀e∈a.take p.1.toNat,e=rc (rv e),fun p=>((a.length:Int)-p.1).toNat,⟨g0k _,g0d _,by simp,by simp⟩, ?_⟩;rintro⟨i,_⟩ _ ⟨h0,h1,h2,h3⟩;change Int at i;simp only at h0 h1 h2 h3⊢;refine⟨fun h=> ?_,fun h=> ?_⟩
   . have h:=g0a h;have ma:=K8 (d:=dQ) h0 h;have mb:=K8 (d:=dQ) (l:=b) h0 (by omega);have ga:=J9 (d:=dQ) h0 h;have gb:=J9 (d:=dQ) (l:=b) h0 (by omega);have a2:a.take (i+1).toNat=a.take i.toNat++ [gx dQ a i]:=by
      rw[show(i+1).toNat=i.toNat+1 from by omega,g1z,ga];rfl
     have a4:b.take (i+1).toNat=b.take i.toNat++ [gx dQ b i]:=by
      rw[show(i+1).toNat=i.toNat+1 from by omega,g1z,gb];rfl
     generalize gx dQ a i=e at*;generalize gx dQ b i=f at*;refine⟨⟨h0,h⟩,ha _ ma, ?_⟩;rintro⟨r,_⟩ _ u;refine⟨fun _=>⟨h0,by omega⟩,fun _=>hb _ mb, ?_⟩;rintro⟨s,_⟩ hs;refine⟨fun _=>⟨h0,h⟩,fun _=>⟨h0,by omega⟩,fun _=>trivial, ?_⟩;rintro⟨t,_⟩ ht;change Bool at r s t;simp only at u hs ht⊢;rw[M5]at ht;rw[M5,M5];have key:(!r|| !s|| !t)=false↔e=rc (rv e)/\e=f:=by
      by_cases hc:e=rc (rv e)
      . have u:r=true:=by rw[u];exact g0z hc
        have hs:=(hs (by simp[u])).2;by_cases hd:f=rc (rv f)
        . have hs:s=true:=by rw[hs];exact g0z hd
          have ht:=(ht (by simp[u,hs])).2;rw[u,hs,ht];simp[<-hc]
        . have hs:s=false:=by rw[hs];exact g1e hd
          rw[u,hs];simp only[g8z,h0o,h1l,h0e,g5v];refine⟨fun h=>(by cases h),fun h=>absurd ?_ hd⟩;rw[<-h.2];exact hc
      . have u:r=false:=by rw[u];exact g1e hc
        rw[u];simp[hc]
     refine⟨fun hx=> ?_,fun hx=> ?_⟩
     . refine(g1e fun a0=> ?_).symm;obtain⟨a3,a1⟩:=a0;subst a3;rw[ga]at gb;have:=key.2 ⟨a1 _ ma,g5q gb⟩;rw[this]at hx;cases hx
     . obtain⟨k1,k2⟩:=key.1 hx;rw[wr (by omega) (by omega)];refine⟨⟨by omega,by omega, ?_, ?_⟩,by omega⟩
       . rw[a2,a4,h2,k2]
       . rw[a2];intro y hy;rcases g1b.1 hy with hy|hy
         . exact h3 y hy
         . rw[g0x.1 hy];exact k1
   . have h:=g0b h;rw[D9 (by omega),D9 (by omega)]at h2;rw[D9 (by omega)]at h3;exact(g0z ⟨h2,h3⟩).symm
def C6t:An:= {}
def D2l:An:= {loop:= [(4,⟨[1,24,25],[0],[(26,false,vI)],[],[]⟩)]}
def A8n:A9 M6.args->Prop:=fun(x:Int×Unit)=>sel (decide (0<=x.1)) (decide (x.1<=16384)) false=decide (0<=x.1/\x.1<=16384)
def B2y:A9 O3.args->Prop:=fun(x:MM×Unit)=>let e:=(0:Int);let a:=(x.1.2.2.length:Int);let d:=(decide (a≠x.1.1));True/\∀(r:Bool×Unit),True/\True->r.1=decide (e<=x.1.1/\x.1.1<=16384)->((!r.1)=false->True)/\∀(f:Bool×Unit),let c:=(sel (!r.1) true !f.1);((!r.1)=false->(True/\True)/\f.1=decide (e<=x.1.2.1/\x.1.2.1<=16384))->(sel c true d=true->false=decide (F6 x.1))/\(sel c true d=false->∃(I:Int×Unit->Prop),∃(μ: _->Nat),I (e,())/\∀(p:Int×Unit),let b:=(i64.wrap (p.1+1),());(Ty.int i64).wf p.1/\True->I p->(decide (p.1<a)=true->(e<=p.1/\p.1<a)/\True/\∀(r:Bool×Unit),True/\True->r.1=decide (L9 (gx [] x.1.2.2 p.1) x.1.2.1)->((!r.1)=true->false=decide (F6 x.1))/\((!r.1)=false->I b/\μ b<μ p))/\(decide (p.1<a)=false->true=decide (F6 x.1)))
theorem E0y {D:List (List Ent)} {R C:Int} (h:∀x∈D,List.length x<=9223372036854775807/\∀y∈x,WfE y):G9r (R,C,D):=fun v u=>E6m (h v u).2
theorem F0g {D:List (List Ent)} {i:Int} (u:0<=i) (h1:i<(D.length:Int)):gx [] D i=D.getD i.toNat []:=F3 u h1
theorem B7x (x:A9 M6.args) (u:awf M6.args x) (_:M6.pre x):A8n x:=by
 simp only[A8n];rw[J5,Bool.decide_and]
theorem C3m (x:A9 O3.args) (hw:awf O3.args x) (_:O3.pre x):B2y x:=by
 obtain⟨⟨R,C,D⟩,_⟩:=x;have hD:D.length<=9223372036854775807:=hw.1.2.2.1;change Int at R C;change List (List Ent)at D;simp only[B2y];refine⟨trivial, ?_⟩;rintro⟨r,_⟩ _ hr;simp only at hr⊢;refine⟨fun _=>trivial, ?_⟩;rintro⟨s,_⟩ hs;simp only at hs⊢;rw[M5,M5];by_cases hR:0<=R/\R<=16384
 . have hr:r=true:=by rw[hr];exact g0z hR
   have hs:=(hs (by rw[hr];rfl)).2;rw[hr,hs];refine⟨fun h=> ?_,fun h=> ?_⟩
   . refine(g1e fun hv=> ?_).symm;obtain⟨_,_,v3,v4,v5,_⟩:=hv;simp only at v3 v4 v5;rw[g0z (show 0<=C/\C<=16384 from⟨v3,v4⟩)]at h;simp at h;exact h v5
   . simp only[g8z,g5v,g1i,h0j,g1y,g1r,g5d]at h;refine⟨fun p=>0<=p.1/\∀v∈D.take p.1.toNat,L9 v C,fun p=>((D.length:Int)-p.1).toNat,⟨g0k _,by simp⟩, ?_⟩;rintro⟨i,_⟩ _ ⟨h0,h1⟩;change Int at i;simp only at h0 h1⊢;refine⟨fun hi=> ?_,fun hi=> ?_⟩
     . have hi:=g0a hi;refine⟨⟨h0,hi⟩,trivial, ?_⟩;rintro⟨b,_⟩ _ hb;simp only at hb⊢;refine⟨fun u=> ?_,fun u=> ?_⟩
       . refine(g1e fun hv=> ?_).symm;rw[hb]at u;have:=hv.2.2.2.2.2 _ (K8 (d:=([]:List Ent)) h0 hi);rw[g0z this]at u;cases u
       . rw[hb]at u;have u:decide (L9 (gx [] D i) C)=true:=by simpa using u
         rw[wr (by omega) (by omega)];exact⟨⟨by omega,A5x (d:=([]:List Ent)) (q:=fun v=>L9 v C) h0 hi h1 (g0a u)⟩,by omega⟩
     . have hi:=g0b hi;rw[D9 (by omega)]at h1;exact(g0z ⟨hR.1,hR.2,h.1.1,h.1.2,h.2,h1⟩).symm
 . have hr:r=false:=by rw[hr];exact g1e hR
   rw[hr];refine⟨fun _=>(g1e fun hv=>hR ⟨hv.1,hv.2.1⟩).symm,fun h=>(by simp at h)⟩
noncomputable def C0j:L3:= []
def C0d:An:= {}
def C9u:An:= {loop:= [(10,⟨[1,2,3,6,9,51,52],[0,1],[(53,false,vI)],[],[(2, .map false (.int .i64) false (.sl (.int .i64)))]⟩),(23,⟨[3,6,9,12,13,17,72,73,74,83,84,85,92,93],[0,1,2,4,5,7],[(15,false,[.own tE 120]),(94,false,vI)],[],[]⟩),(20,⟨[3,6,9,12,13,72,73,74,83,84],[0,1,2,4,5],[(15,false,[.own tE 120]),(85,false,vI)],[],[]⟩),(16,⟨[3,6,9,12,72,73],[0,1,2,5],[(74,false,vI)],[],[(4, .rows tE 118 120)]⟩)]}
noncomputable def C9c:L3:= [(53,Q3),(100,O3),(101,A6e (G7y prog [(false, .int .i64)] false .bool (.int .i64) (fun n x=>decide (x.1<0\/n<=x.1)))),(103,C9),(104,M6),(106,A6e (E1s 107 tE 120 (fun a b=>A0s a.1 b.1))),(105,A6e (E2u ⟨prog,H2u⟩ [(71,C0j,C0d)] f105.results.toList (f105.body.getD .skip) f105.ntmps))]
def B7d:An:= {}
def A3b:An:= {}
def A5a:An:= {loop:= [(2,⟨[0,1,7],[],[(8,false,vI)],[],[]⟩)]}
def B1q:A9 X0.args->Prop:=fun(x:MM×List Int×List Int×Unit)=>let C:=(140737488355328:Nat);let u:=(8:Int);let t:=(3:Int);let o:=(1:Int);let n:=(fun(x:Int×Unit)=>True,fun(z:Int×Unit)=>decide (z.1<(0:(Ty.int i64).den)\/x.1.1<=z.1));let m:=(fun(x:Int×Unit)=>True,fun(z:Int×Unit)=>decide (z.1<(0:(Ty.int i64).den)\/x.1.2.1<=z.1));let h:=(16384:Nat);let g:=(x.2.2.1.length:Int);let f:=(x.2.1.length:Int);let d:=(0:Int);let c:Prop:=((∃(i:Int),i∈x.2.1/\(i<d\/x.1.1<=i))\/∃(i:Int),i∈x.2.2.1/\(i<d\/x.1.2.1<=i));True/\∀(r:Bool×Unit),True/\True->r.1=decide (F6 x.1)->((!r.1)=true->(¬F6 x.1->(d,d,[])=zm/\o=o)/\(F6 x.1->(c->(d,d,[])=zm/\o=t)/\(¬c->(h<x.2.1.length\/h<x.2.2.1.length->(d,d,[])=zm/\o=u)/\(x.2.1.length<=h/\x.2.2.1.length<=h->isM x.2.1.length x.2.2.1.length (fun(i j:Nat)=>el x.1 (x.2.1.getD i d).toNat (x.2.2.1.getD j d).toNat) (d,d,[])/\o=d))))/\((!r.1)=false->Go.Proofs.Tryz.prog=Go.Proofs.Tryz.prog/\false=false/\(∀(i:Int),i∈x.2.1->n.1 (i,()))/\∀(H:Bool×Unit),True/\True->H.1=decide (∃(i:Int),i∈x.2.1/\n.2 (i,())=true)->Go.Proofs.Tryz.prog=Go.Proofs.Tryz.prog/\false=false/\(H.1=false->∀(i:Int),i∈x.2.2.1->m.1 (i,()))/\∀(K:Bool×Unit),(H.1=false->(True/\True)/\K.1=decide (∃(i:Int),i∈x.2.2.1/\m.2 (i,())=true))->(sel H.1 true K.1=true->(¬F6 x.1->(d,d,[])=zm/\t=o)/\(F6 x.1->(c->(d,d,[])=zm/\t=t)/\(¬c->(h<x.2.1.length\/h<x.2.2.1.length->(d,d,[])=zm/\t=u)/\(x.2.1.length<=h/\x.2.2.1.length<=h->isM x.2.1.length x.2.2.1.length (fun(i j:Nat)=>el x.1 (x.2.1.getD i d).toNat (x.2.2.1.getD j d).toNat) (d,d,[])/\t=d))))/\(sel H.1 true K.1=false->True/\∀(J:Bool×Unit),True/\True->J.1=decide (d<=f/\f<=(16384:Int))->((!J.1)=false->True)/\∀(L:Bool×Unit),let A:=(sel (!J.1) true !L.1);((!J.1)=false->(True/\True)/\L.1=decide (d<=g/\g<=(16384:Int)))->(A=true->(¬F6 x.1->(d,d,[])=zm/\u=o)/\(F6 x.1->(c->(d,d,[])=zm/\u=t)/\(¬c->(h<x.2.1.length\/h<x.2.2.1.length->(d,d,[])=zm/\u=u)/\(x.2.1.length<=h/\x.2.2.1.length<=h->isM x.2.1.length x.2.2.1.length (fun(i j:Nat)=>el x.1 (x.2.1.getD i d).toNat (x.2.2.1.getD j d).toNat) (d,d,[])/\u=d))))/\(A=false->∃(I:Int×List (Int×List Int)×Unit->Prop),∃(μ: _->Nat),I (d,[],())/\∀(p:Int×List (Int×List Int)×Unit),let B:=(gx d x.2.2.1 p.1);let q:=(i64.wrap (p.1+o),B6o (Ty.int i64) B [p.1] p.2.1,());(Ty.int i64).wf p.1/\(∀(x:Int×List Int),x∈p.2.1->G1 x.1/\WfI x.2)/\True->I p->(decide (p.1<g)=true->(d<=p.1/\p.1<g)/\J6 (Ty.int i64) B p.2.1=Option.none/\(((0:Nat)+ [p.1].length)*(8:Nat)<=C/\(0:Nat)+ [p.1].length<=9223372036854775807)/\I q/\μ q<μ p)/\(decide (p.1<g)=false->(d<=f/\f<=f/\(↑(24:Nat):Int)*f<=(281474976710656:Int)/\f<=(9223372036854775807:Int))/\∃(I:Int×List (List EE)×Unit->Prop),∃(μ: _->Nat),I (d,List.replicate f.toNat [],())/\∀(F:Int×List (List EE)×Unit),let v:=(f,g,F.2.1);let l:=(gx [] x.1.2.2 (gx d x.2.1 F.1));let y:=(↑l.length:Int);(Ty.int i64).wf F.1/\F3k F.2.1/\True->I F->(decide (F.1<f)=true->(d<=F.1/\F.1<f)/\(d<=gx d x.2.1 F.1/\gx d x.2.1 F.1<(x.1.2.2.length:Int))/\∃(I_1:List EE×Int×Unit->Prop),∃(a0: _->Nat),I_1 ([],d,())/\∀(G:List EE×Int×Unit),let e:=(gx dEE l G.2.1);let k:=(↑((J6 (Ty.int i64) e.1 p.2.1).getD []).length:Int);tE.sl.wf G.1/\(Ty.int i64).wf G.2.1/\True->I_1 G->(decide (G.2.1<y)=true->(d<=G.2.1/\G.2.1<y)/\∃(I:List EE×Int×Unit->Prop),∃(μ: _->Nat),I (G.1,d,())/\∀(D:List EE×Int×Unit),let w:=(D.1,i64.wrap (G.2.1+o),());tE.sl.wf D.1/\(Ty.int i64).wf D.2.1/\True->I D->(decide (D.2.1<k)=true->(d<=D.2.1/\D.2.1<k)/\sh3 e.2/\∀(r:QQ×Unit),WfQ r.1/\True->r.1=rc (rv e.2)->((D.1.length+ [(gx d ((J6 (Ty.int i64) e.1 p.2.1).getD []) D.2.1,r.1)].length)*(64:Nat)<=C/\D.1.length+ [(gx d ((J6 (Ty.int i64) e.1 p.2.1).getD []) D.2.1,r.1)].length<=9223372036854775807)/\I (D.1++ [(gx d ((J6 (Ty.int i64) e.1 p.2.1).getD []) D.2.1,r.1)],i64.wrap (D.2.1+o),())/\μ (D.1++ [(gx d ((J6 (Ty.int i64) e.1 p.2.1).getD []) D.2.1,r.1)],i64.wrap (D.2.1+o),())<μ D)/\(decide (D.2.1<k)=false->I_1 w/\a0 w<a0 G))/\(decide (G.2.1<y)=false->G.1.length<=(100000:Nat)/\∀(l':List EE),let s:=(i64.wrap (F.1+o),List.set F.2.1 F.1.toNat l',());tE.sl.wf l'->l'.Perm G.1->List.Pairwise (fun(a b:Int×(Bool×List Int)×List Int)=>¬A0s b.1 a.1<d) l'->(d<=F.1/\F.1<(F.2.1.length:Int))/\I s/\μ s<μ F))/\(decide (F.1<f)=false->(¬F6 x.1->v=zm/\d=o)/\(F6 x.1->(c->v=zm/\d=t)/\(¬c->(h<x.2.1.length\/h<x.2.2.1.length->v=zm/\d=u)/\(x.2.1.length<=h/\x.2.2.1.length<=h->isM x.2.1.length x.2.2.1.length (fun(i j:Nat)=>el x.1 (x.2.1.getD i d).toNat (x.2.2.1.getD j d).toNat) v/\d=d))))))))
def A4p:A9 F7.args->Prop:=fun(x:Int×Int×Unit)=>sel (decide (x.1<0)) true (decide (x.2.1<=x.1))=decide (x.1<0\/x.2.1<=x.1)
def R1:A9 C9.args->Prop:=fun(x:List Int×((Int×Unit->Prop)×(Int×Unit->Bool))×Unit)=>let a:=(x.2.1.1,fun(z:Int×Unit)=>x.2.1.2 z);Go.Proofs.Tryz.prog=Go.Proofs.Tryz.prog/\false=false/\(∀(i:Int),i∈x.1->a.1 (i,()))/\∀(r:Int×Unit),G1 r.1/\True->r.1=G5h (fun(i:Int)=>a.2 (i,())) x.1->decide (0<=r.1)=decide (∃(i:Int),i∈x.1/\x.2.1.2 (i,())=true)
def V4:A9 E6.args->Prop:=fun(x:List Int×((Int×Unit->Prop)×(Int×Unit->Bool))×Unit)=>let b:=(x.1.length:Int);∃(I:Int×Unit->Prop),∃(μ: _->Nat),I ((0:Int),())/\∀(p:Int×Unit),let c:=(i64.wrap (p.1+1),());let a:=(gx (0:Int) x.1 p.1,());(Ty.int i64).wf p.1/\True->I p->(decide (p.1<b)=true->(0<=p.1/\p.1<b)/\Go.Proofs.Tryz.prog=Go.Proofs.Tryz.prog/\x.2.1.1 a/\(Ty.bool.wf (x.2.1.2 a)->(x.2.1.2 a=true->p.1=G5h (fun(i:Int)=>x.2.1.2 (i,())) x.1)/\(x.2.1.2 a=false->I c/\μ c<μ p)))/\(decide (p.1<b)=false->(-1:Int)=G5h (fun(i:Int)=>x.2.1.2 (i,())) x.1)
theorem G2y {R C:Int} {D:List (List Ent)} (i:Nat) (j:Int) (h:0<=j):C1 (D.getD i []) j=el (R,C,D) i j.toNat:=by
 unfold el;rw[show((j.toNat:Nat):Int)=j from by omega]
theorem F5p {d:Ent} {v:List Ent} {i:Int} (u:0<=i) (h1:i<(v.length:Int)) (j:Int):C1 (v.take (i+1).toNat) j=C1 (v.take i.toNat) j+if(gx d v i).1=j then rv (gx d v i).2 else 0:=by
 rw[show(i+1).toNat=i.toNat+1 from by omega,g1z,J9 (d:=d) u h1,O1];simp only[h0f,C1,g1p]
theorem C1c (k:Int):ri k=rc (k:Rat):=by
 unfold ri rc;rw[h1t,h1u,C1v]
theorem B0n (a b:Int):eqB (.int .i64) a b=decide (a=b):=rfl
theorem C2w {α:Type} (k i:Int) (v:α):∀l:List (Int×α),J6 (.int .i64) i (B6o (.int .i64) k v l)=if i=k then some v else J6 (.int .i64) i l
 | []=>by
  simp only[B6o,J6,B0n];by_cases h:i=k
  . simp[h]
  . rw[g0u h];simp[h]
 | (a,b)::l=>by
  have ih:=C2w k i v l;simp only[B6o,B0n];by_cases h:k=a
  . subst h;simp only[h2d,g0r,J6,B0n];by_cases u:i=k
    . simp[u]
    . simp[u]
  . simp only[h,h1o,g1g,J6,B0n,ih];by_cases u:i=a
    . subst u;have:¬i=k:=fun e=>h e.symm
      simp[this]
    . simp[u]
theorem D0l {α:Type} (k:Int) (v:α):∀l:List (Int×α),(B6o (.int .i64) k v l).map (fun e=>e.1)=if k∈l.map (fun e=>e.1)then l.map (fun e=>e.1)else l.map (fun e=>e.1)++ [k]
 | []=>by simp[B6o]
 | (a,b)::l=>by
  have u:=D0l k v l;simp only[B6o,B0n];by_cases h:k=a
  . subst h;simp
  . simp only[h,h1o,g1g,g1x,u,g0s,false_or];split<;>simp
theorem E0p {α:Type} (k:Int) (v:α):∀ {l:List (Int×α)} {e:Int×α},e∈B6o (.int .i64) k v l->e=(k,v)\/e∈l
 | [],e,h=>by
  simp only[B6o,g0x]at h;exact .inl h
 | (a,b)::l,e,h=>by
  simp only[B6o,B0n]at h;by_cases u:k=a
  . subst u;simp only[h2d,g0r,g0s]at h;rcases h with h|h
    . exact .inl h
    . exact .inr (g0n _ h)
  . simp only[u,h1o,g1g,g0s]at h;rcases h with h|h
    . exact .inr (h▸g1j ..)
    . exact(E0p k v h).imp id (g0n _)
theorem D6n {α:Type} {k:Int} {v:α} :∀ {l:List (Int×α)},J6 (.int .i64) k l=some v->(k,v)∈l
 | (a,b)::l,h=>by
  simp only[J6,B0n]at h;by_cases u:k=a
  . simp[u]at h;rw[u,h];exact g1j ..
  . simp[u]at h;exact g0n _ (D6n h)
theorem F0d {α:Type} {k:Int} :∀ {l:List (Int×α)},k∈l.map (fun e=>e.1)->∃v,J6 (.int .i64) k l=some v
 | (a,b)::l,h=>by
  simp only[J6,B0n];by_cases u:k=a
  . exact⟨b,by simp[u]⟩
  . simp only[g1x,g0s,u,false_or]at h;obtain⟨v,hv⟩:=F0d h;exact⟨v,by simp[u,hv]⟩
theorem E9d:∀ {r l:List Int},r.Nodup->(∀i∈r,i∈l)->r.length<=l.length
 | [],_,_,_=>g1n _
 |a::r,l,u,hs=>by
  rw[g2n]at u;have hm:=hs a (g1j ..);have:=E9d (l:=l.erase a) u.2 fun i hi=>(List.mem_erase_of_ne fun e=>u.1 (by rw[<-e];exact hi)).2 (hs i (g0n _ hi))
  have h2:=List.length_erase_of_mem hm;have h3:=List.length_pos_of_mem hm;rw[g1h];omega
theorem F9m {r:List Int} {n:Int} (h:r.Nodup) (u:∀i∈r,0<=i/\i<n):(r.length:Int)<=max n 0:=by
 have:=E9d (l:=(List.range n.toNat).map fun i:Nat=>(i:Int)) h fun i hi=>by
  have:=u i hi;exact g2u.2 ⟨i.toNat,g9j.2 (by omega),by omega⟩
 rw[g2v,List.length_range]at this;omega
structure G4m (n:Int) (F:Int->Rat) (es:List Ent):Prop where
 nd:(es.map fun e=>e.1).Nodup
 rng:∀e∈es,0<=e.1/\e.1<n
 can:∀e∈es,e.2=rc (rv e.2)
 val:∀j,rv ((J6 (.int .i64) j es).getD dQ)=F j
theorem G4m.at {n:Int} {F:Int->Rat} {es:List Ent} (h:G4m n F es) (j:Int):(J6 (.int .i64) j es).getD dQ=rc (F j)\/((J6 (.int .i64) j es).getD dQ=dQ/\F j=0/\j∉es.map fun e=>e.1):=by
 have u:=h.val j;cases hf:J6 (.int .i64) j es with
 |none=>
  rw[hf]at u;refine .inr ⟨rfl, ?_,fun hj=> ?_⟩
  . rw[<-u];exact E3c
  . obtain⟨v,h2⟩:=F0d hj;rw[hf]at h2;cases h2
 |some v=>
  rw[hf]at u;have h2:=h.can _ (D6n hf);have u:rv v=F j:=u;left;show v= _;rw[<-u];exact h2
theorem G4m.sh {n:Int} {F:Int->Rat} {es:List Ent} (h:G4m n F es) (j:Int) (u:qs 2199023255552 (F j)):sh3 ((J6 (.int .i64) j es).getD dQ):=by
 rcases h.at j with h1| ⟨h1,_⟩
 . rw[h1];exact u
 . rw[h1];exact⟨g1n _,g1n _⟩
theorem G4m.put {n:Int} {F G:Int->Rat} {es:List Ent} (h:G4m n F es) {k:Int} {q:Rat} (hk:0<=k/\k<n) (h1:G k=q) (h2:∀j,j≠k->G j=F j):G4m n G (B6o (.int .i64) k (rc q) es):=by
 refine⟨?_,fun e u=> ?_,fun e u=> ?_,fun j=> ?_⟩
 . have:=D0l k (rc q) es;rw[this];split
   . exact h.nd
   . rename_i hn;rw[g2q];refine⟨h.nd,by simp,fun a ha b hb a0=> ?_⟩;rw[g0x]at hb;subst hb a0;exact hn ha
 . rcases E0p k (rc q) u with rfl|u
   . exact hk
   . exact h.rng e u
 . rcases E0p k (rc q) u with rfl|u
   . show rc q=rc (rv (rc q));rw[H6]
   . exact h.can e u
 . rw[C2w];by_cases hj:j=k
   . rw[g1c hj];show rv (rc q)= _;rw[H6,hj,h1]
   . rw[g0u hj,h.val,h2 j hj]
theorem G4m.len {n:Int} {F:Int->Rat} {es:List Ent} (h:G4m n F es):(es.length:Int)<=max n 0:=by
 have:=F9m h.nd (n:=n) fun i hi=>by
  obtain⟨e,u,rfl⟩:=g2u.1 hi;exact h.rng e u
 rwa[g2v]at this
theorem A3d (x:A9 E6.args) (hw:awf E6.args x) (hp:E6.pre x):V4 x:=by
 obtain⟨l,⟨ok,φ⟩,_⟩:=x;have hl:l.length<=9223372036854775807:=hw.1.1;change List Int at l;have hp:∀i∈l,ok (i,()):=hp;simp only[V4];refine⟨fun p=>0<=p.1/\p.1<=(l.length:Int)/\∀y∈l.take p.1.toNat,φ (y,())=false,fun p=>((l.length:Int)-p.1).toNat,⟨g0k _,g0d _,by simp⟩, ?_⟩;rintro⟨i,_⟩ _ ⟨u,h1,h2⟩;change Int at i;simp only at u h1 h2⊢;refine⟨fun h=> ?_,fun h=> ?_⟩
 . have h:=g0a h;refine⟨⟨u,h⟩,by trivial,hp _ (K8 u h),fun _=>⟨fun ht=> ?_,fun hf=> ?_⟩⟩
   . have a1:l.findIdx? (fun i=>φ (i,()))=some i.toNat:=by
      rw[g5i];have hg:=J9 (d:=(0:Int)) u h;have a0:i.toNat<l.length:=by omega
      rw[g0l a0]at hg;refine⟨a0,by rw[g5q hg];exact ht,fun j hj=> ?_⟩;have:=h2 l[j] (g3s.2 ⟨j,by rw[g0q];omega,by simp⟩);simp[this]
     unfold G5h;rw[a1];show i=((i.toNat:Nat):Int);omega
   . rw[wr (by omega) (by omega)];exact⟨⟨by omega,by omega,A5x u h h2 hf⟩,by omega⟩
 . have h:=g0b h;rw[D9 (by omega)]at h2;unfold G5h;have:l.findIdx? (fun i=>φ (i,()))=none:=by
    rw[g6t];exact h2
   rw[this]
theorem G7t (p:Int->Bool) (l:List Int):0<=G5h p l↔∃i,i∈l/\p i=true:=by
 unfold G5h;cases h:l.findIdx? p with
 |none=>
  rw[g6t]at h;constructor
  . intro h2;simp at h2
  . rintro⟨i,hi,u⟩;have:=h i hi;rw[this]at u;cases u
 |some k=>
  rw[g5i]at h;obtain⟨hk,u,_⟩:=h;exact⟨fun _=>⟨_,g6m hk,u⟩,fun _=>g0d _⟩
theorem A1g (x:A9 C9.args) (hw:awf C9.args x) (u:C9.pre x):R1 x:=by
 obtain⟨l,⟨ok,φ⟩,_⟩:=x;change List Int at l;have u:∀i∈l,ok (i,()):=u;simp only[R1];refine⟨by trivial,by trivial,u, ?_⟩;rintro⟨r,_⟩ _ hr;simp only at hr⊢;rw[hr];exact g4z.2 (G7t _ _)
theorem B0m (x:A9 F7.args) (u:awf F7.args x) (_:F7.pre x):A4p x:=by
 simp only[A4p];rw[M5,Bool.decide_or]
theorem G0c {a b:List Ent} (h:a.Perm b) (j:Int):C1 a j=C1 b j:=by
 induction h with
 |nil=>rfl
 |cons e _ ih=>rw[C1,C1,ih]
 |swap e f l=>simp only[C1];rw[<-g7w, <-g7w,h2w (if f.1=j then rv f.2 else 0)]
 |trans _ _ h1 u=>rw[h1,u]
theorem G8i {a b:Int} (h:¬A0s b a<0):a<=b:=by
 unfold A0s at h;split at h
 . omega
 . split at h<;>omega
theorem C0u (x:A9 X0.args) (hw:awf X0.args x) (hp:X0.pre x):B1q x:=by
 obtain⟨⟨R,C,D⟩,rows,cols,_⟩:=x;have bj:G9r (R,C,D):=E0y hw.1.2.2.2;change Int at R C;change List (List Ent)at D;change List Int at rows cols;obtain⟨⟨hs,bk,bi⟩,ay⟩:(okM K1 (R,C,D)/\rows.length<=1000/\cols.length<=1000)/\cols.Nodup:=by
  obtain⟨a,b,c,d⟩:=hp;exact⟨⟨a,b,c⟩,d⟩
 simp only[B1q];refine⟨trivial, ?_⟩;rintro⟨r,_⟩ _ hr;simp only at hr⊢;by_cases hv:F6 (R,C,D)
 . have hr:r=true:=by rw[hr];exact g0z hv
   rw[hr];obtain⟨v1,v2,v3,v4,_,_⟩:=id hv;have v5:(D.length:Int)=R:=hv.2.2.2.2.1;have v6:∀w∈D,L9 w C:=hv.2.2.2.2.2;simp only at v1 v2 v3 v4;refine⟨fun h=>(by cases h),fun _=>⟨by trivial,by trivial,fun _ _=>trivial, ?_⟩⟩;rintro⟨b1,_⟩ _ a9;simp only at a9⊢;refine⟨by trivial,by trivial,fun _ _ _=>trivial, ?_⟩;rintro⟨b2,_⟩ a2;simp only at a2⊢;rw[M5];have key:(b1||b2)=true↔((∃i,i∈rows/\(i<0\/R<=i))\/∃i,i∈cols/\(i<0\/C<=i)):=by
    by_cases h1:∃i,i∈rows/\(i<0\/R<=i)
    . have:b1=true:=by
       rw[a9];obtain⟨i,hi,hc⟩:=h1;exact g0z ⟨i,hi,g0z hc⟩
      rw[this];exact⟨fun _=> .inl h1,fun _=>rfl⟩
    . have am:b1=false:=by
       rw[a9];exact g1e fun⟨i,hi,hc⟩=>h1 ⟨i,hi,g0a hc⟩
      have a2:=(a2 am).2;rw[am,g5v,a2];constructor
      . intro h;obtain⟨i,hi,hc⟩:=g0a h;exact .inr ⟨i,hi,g0a hc⟩
      . rintro(h| ⟨i,hi,hc⟩)
        . exact absurd h h1
        . exact g0z ⟨i,hi,g0z hc⟩
   refine⟨fun h=> ?_,fun h=>⟨trivial, ?_⟩⟩
   . have h:=key.1 h;exact⟨fun h2=>absurd hv h2,fun _=>⟨fun _=>⟨rfl,by trivial⟩,fun h2=>absurd h h2⟩⟩
   have a6:¬((∃i,i∈rows/\(i<0\/R<=i))\/∃i,i∈cols/\(i<0\/C<=i)):=fun h2=>by rw[key.2 h2]at h;cases h
   have ai:∀i∈rows,0<=i/\i<R:=fun i hi=>g0v fun hn=>a6 (.inl ⟨i,hi,by omega⟩)
   have ae:∀i∈cols,0<=i/\i<C:=fun i hi=>g0v fun hn=>a6 (.inr ⟨i,hi,by omega⟩)
   rintro⟨b3,_⟩ _ ac;simp only at ac⊢;refine⟨fun _=>trivial, ?_⟩;rintro⟨b4,_⟩ ad;simp only at ad⊢;have h3:b3=true:=by rw[ac];exact g0z ⟨by omega,by omega⟩
   have h4:b4=true:=by rw[(ad (by rw[h3];rfl)).2];exact g0z ⟨by omega,by omega⟩
   rw[h3,h4];refine⟨fun h=>(by cases h),fun _=> ?_⟩;clear a9 a2 ac ad key h;refine⟨fun p=>0<=p.1/\p.1<=(cols.length:Int)/\(∀k:Nat,k<p.1.toNat->J6 (.int .i64) (cols.getD k 0) p.2.1=some [(k:Int)])/\∀c,c∉cols.take p.1.toNat->J6 (.int .i64) c p.2.1=Option.none,fun p=>((cols.length:Int)-p.1).toNat,⟨g0k _,g0d _,fun k hk=>by simp at hk,fun _ _=>rfl⟩, ?_⟩;rintro⟨i,es,_⟩ _ ⟨i0,i1,aa,a3⟩;change Int at i;change List (Int×List Int)at es;simp only at i0 i1 aa a3⊢;refine⟨fun hi=> ?_,fun hi=> ?_⟩
   . have hi:=g0a hi;have hg:=F3 (d:=(0:Int)) i0 hi;have aw:i.toNat<cols.length:=by omega
     have b8:cols.take (i+1).toNat=cols.take i.toNat++ [cols.getD i.toNat 0]:=by
      rw[show(i+1).toNat=i.toNat+1 from by omega,g1z,g0l aw,G2 _ _ aw];rfl
     have ab:cols.getD i.toNat 0∉cols.take i.toNat:=fun af=>by
      have h1:(cols.take (i+1).toNat).Nodup:=ay.take;rw[b8,g2q]at h1;exact h1.2.2 _ af _ (g0x.2 rfl) rfl
     rw[hg,wr (by omega) (by omega)];refine⟨⟨i0,hi⟩,a3 _ ab,⟨by simp only[g1l];omega,by simp only[g1l];omega⟩,⟨by omega,by omega,fun k hk=> ?_,fun c hc=> ?_⟩,by omega⟩
     . show J6 (.int .i64) (cols.getD k 0) (B6o (.int .i64) (cols.getD i.toNat 0) [i] es)= _;rw[C2w];by_cases av:k=i.toNat
       . rw[g1c (by rw[av]),av,show((i.toNat:Nat):Int)=i from by omega]
       . have bb:k<i.toNat:=by have hk:k<(i+1).toNat:=hk;omega
         rw[g0u,aa k bb];intro he;apply ab;rw[<-he,G2 _ _ (show k<cols.length by omega)];exact g3s.2 ⟨k,by rw[g0q];omega,by simp⟩
     . show J6 (.int .i64) c (B6o (.int .i64) (cols.getD i.toNat 0) [i] es)= _;have hc:c∉cols.take (i+1).toNat:=hc;rw[b8,g1b,g0x,not_or]at hc;rw[C2w,g0u hc.2,a3 c hc.1]
   . have hi:=g0b hi;rw[D9 (by omega)]at a3;have af:i.toNat=cols.length:=by omega
     rw[af]at aa;rw[g0i];refine⟨⟨by omega,g0k _,by omega,by omega⟩,fun p=>0<=p.1/\p.1<=(rows.length:Int)/\G0d rows.length p.1.toNat (fun i=>isV cols.length fun j=>el (R,C,D) (rows.getD i 0).toNat (cols.getD j 0).toNat) p.2.1,fun p=>((rows.length:Int)-p.1).toNat,⟨g0k _,g0d _,H0x g1a⟩, ?_⟩;rintro⟨k,out,_⟩ _ ⟨k0,k1,hf⟩;change Int at k;change List (List Ent)at out;simp only at k0 k1 hf⊢;have bm:=hf.1;refine⟨fun hk=> ?_,fun hk=> ?_⟩
     . have hk:=g0a hk;have hg:=F3 (d:=(0:Int)) k0 hk;have ah:=ai _ (K8 (d:=(0:Int)) k0 hk);rw[hg]at ah⊢;have ba:∀ {w:List Ent},isV cols.length (fun j=>el (R,C,D) (rows.getD k.toNat 0).toNat (cols.getD j 0).toNat) w->G0d rows.length (k+1).toNat (fun i=>isV cols.length fun j=>el (R,C,D) (rows.getD i 0).toNat (cols.getD j 0).toNat) (out.set k.toNat w):=fun {w} hw2=>F8t hf k0 hk hw2
       generalize rows.getD k.toNat 0=a8 at*;have b6:a8<(D.length:Int):=by omega
       rw[F0g ah.1 b6];have ax:D.getD a8.toNat []∈D:=B7 (by omega);have a7:=F7x hv hs ax;have be:=v6 _ ax;have ar:∀c:Int,0<=c->C1 (D.getD a8.toNat []) c=el (R,C,D) a8.toNat c.toNat:=fun c hc=>G2y _ _ hc
       generalize D.getD a8.toNat []=row at*;have bn:=a7.2.2;refine⟨⟨k0,hk⟩,⟨ah.1,b6⟩,fun p=>0<=p.2.1/\p.2.1<=(row.length:Int)/\p.1.length<=p.2.1.toNat/\(p.1.map fun e=>e.1).Nodup/\(∀x∈p.1,∃q:Nat,q<cols.length/\x.1=(q:Int)/\(∃y∈row.take p.2.1.toNat,y.1=cols.getD q 0)/\rv x.2≠0/\x.2=rc (rv x.2))/\∀j:Nat,j<cols.length->C1 p.1 (j:Int)=C1 (row.take p.2.1.toNat) (cols.getD j 0),fun p=>((row.length:Int)-p.2.1).toNat,⟨g0k _,g0d _,g0w _,g7z,fun _ h=>(by cases h),fun j _=>rfl⟩, ?_⟩;rintro⟨o,t,_⟩ _ ⟨t0,t1,o1,o2,o3,o4⟩;change List Ent at o;change Int at t;simp only at t0 t1 o1 o2 o3 o4⊢;refine⟨fun ht=> ?_,fun ht=> ?_⟩
       . have ht:=g0a ht;have au:=K8 (d:=dEE) t0 ht;obtain⟨e0,e1,ez⟩:=be.2 _ au;have bd:=a7.2.1 _ au;have b9:=F5p (d:=dEE) t0 ht;have ap:∀y∈row.take t.toNat,y.1≠(gx dEE row t).1:=fun x hx hxe=>by
          have h1:(row.take (t+1).toNat).Pairwise (fun a b=>a.1<b.1):=a7.1.take;rw[show(t+1).toNat=t.toNat+1 from by omega,g1z,J9 (d:=dEE) t0 ht,g4s]at h1;have:=h1.2.2 x hx (gx dEE row t) (by simp);omega
         have b7:∀y∈row.take t.toNat,y∈row.take (t+1).toNat:=fun y hy=>by
          rw[show(t+1).toNat=t.toNat+1 from by omega,g1z];exact g1b.2 (.inl hy)
         have az:gx dEE row t∈row.take (t+1).toNat:=by
          rw[show(t+1).toNat=t.toNat+1 from by omega,g1z,J9 (d:=dEE) t0 ht];simp
         generalize gx dEE row t=e at*;have hL:(J6 (.int .i64) e.1 es).getD []= []/\e.1∉cols\/∃q:Nat,q<cols.length/\cols.getD q 0=e.1/\(J6 (.int .i64) e.1 es).getD []= [(q:Int)]:=by
          by_cases hc:e.1∈cols
          . obtain⟨q,hq,a1⟩:=N7 0 hc;have:=aa q hq;rw[a1]at this;exact .inr ⟨q,hq,a1,by rw[this];rfl⟩
          . exact .inl ⟨by rw[a3 _ hc];rfl,hc⟩
         generalize (J6 (.int .i64) e.1 es).getD []=L at*;have bg:L.length<=1:=by
          rcases hL with⟨h,_⟩ | ⟨q,_,_,h⟩<;>rw[h]<;>simp
         refine⟨⟨t0,ht⟩,fun p=>0<=p.2.1/\p.2.1<=(L.length:Int)/\p.1=o++(L.take p.2.1.toNat).map fun q=>(q,rc (rv e.2)),fun p=>((L.length:Int)-p.2.1).toNat,⟨g0k _,g0d _,by simp⟩, ?_⟩;rintro⟨o',u,_⟩ _ ⟨u0,u1,a0⟩;change List Ent at o';change Int at u;simp only at u0 u1 a0⊢;have bf:o'.length<=o.length+1:=by
          rw[a0,g1o,g2v,g0q];omega
         refine⟨fun hu=> ?_,fun hu=> ?_⟩
         . have hu:=g0a hu;refine⟨⟨u0,hu⟩,L5 bd (by decide), ?_⟩;rintro⟨q,_⟩ _ hq;simp only at hq⊢;rw[wr (by omega) (by omega)];refine⟨⟨by simp only[g1l];omega,by simp only[g1l];omega⟩,⟨by omega,by omega, ?_⟩,by omega⟩;rw[a0,hq,show(u+1).toNat=u.toNat+1 from by omega,g1z,J9 (d:=(0:Int)) u0 hu,g4h,g3p];rfl
         . have hu:=g0b hu;rw[D9 (l:=L) (i:=u) (by omega)]at a0;rw[wr (by omega) (by omega)];have aq:∀j:Nat,j<cols.length->C1 (row.take (t+1).toNat) (cols.getD j 0)=C1 (row.take t.toNat) (cols.getD j 0)+if e.1=cols.getD j 0 then rv e.2 else 0:=fun j _=>b9 _
           have a4:∀x∈o,∃q:Nat,q<cols.length/\x.1=(q:Int)/\(∃y∈row.take (t+1).toNat,y.1=cols.getD q 0)/\rv x.2≠0/\x.2=rc (rv x.2):=fun x hx=>by
            obtain⟨q,h1,h2,⟨y,hy,h3⟩,h4,h5⟩:=o3 x hx;exact⟨q,h1,h2,⟨y,b7 y hy,h3⟩,h4,h5⟩
           rcases hL with⟨hL,bc⟩ | ⟨q,hq,a1,hL⟩
           . rw[hL,h1r,g5h]at a0;subst a0;refine⟨⟨by omega,by omega,by omega,o2,a4,fun j hj=> ?_⟩,by omega⟩;rw[o4 j hj,aq j hj,g0u (fun h=>bc (by rw[h];exact B7 hj)),g1p]
           . rw[hL,g1x,h1r]at a0;subst a0;refine⟨⟨by omega,by omega,by omega, ?_,fun x hx=> ?_,fun j hj=> ?_⟩,by omega⟩
             . show((o++ [((q:Int),rc (rv e.2))]).map fun e:Ent=>e.1).Nodup;rw[g4h,g2q];refine⟨o2,by simp,fun a ha b hb bh=> ?_⟩;obtain⟨x,hx,rfl⟩:=g2u.1 ha;simp only[g1x,h1r,g0x]at hb;obtain⟨q',h1,h2,⟨y,hy,h3⟩,_⟩:=o3 x hx;have:q'=q:=by omega
               subst this;exact ap y hy (by rw[h3,a1])
             . rcases g1b.1 hx with hx|hx
               . exact a4 x hx
               . rw[g0x.1 hx];exact⟨q,hq,rfl,⟨e,az,a1.symm⟩,by rw[H6];exact ez,by rw[H6]⟩
             . show C1 (o++ [((q:Int),rc (rv e.2))]) (j:Int)= _;rw[B5h,o4 j hj,aq j hj];congr 1;by_cases b5:q=j
               . subst b5;rw[g1c rfl,g1c a1.symm]
               . rw[g0u (by omega),g0u];intro h6;apply b5;have h7:cols.getD q 0=cols.getD j 0:=a1.trans h6;rw[G2 _ _ hq,G2 _ _ hj]at h7;exact(g5u ay).1 h7
       . have ht:=g0b ht;rw[D9 (by omega)]at o4;refine⟨by omega,fun l' _ ag aj=> ?_⟩;have aj:l'.Pairwise fun a b:Ent=>¬A0s b.1 a.1<0:=aj
         rw[wr (by omega) (by omega)];refine⟨⟨k0,by omega⟩,⟨by omega,by omega,ba ?_⟩,by omega⟩;have a5:(l'.map fun e:Ent=>e.1).Nodup:=(ag.map _).nodup_iff.2 o2;have ao:asc l':=by
          unfold List.Nodup at a5;rw[g6c]at a5;refine List.Pairwise.imp₂ ?_ aj a5;intro a b h1 h2;have:=G8i h1;omega
         have hx:∀x∈l',∃q:Nat,q<cols.length/\x.1=(q:Int)/\rv x.2≠0/\x.2=rc (rv x.2):=fun x hx=>by
          obtain⟨q,h1,h2,_,h4,h5⟩:=o3 x (ag.mem_iff.1 hx);exact⟨q,h1,h2,h4,h5⟩
         refine⟨⟨ao,fun x ak=> ?_⟩,fun x ak=> ?_,fun j hj=> ?_⟩
         . obtain⟨q,_,_,h4,h5⟩:=hx x ak;exact⟨h4,h5⟩
         . obtain⟨q,h1,h2,_⟩:=hx x ak;omega
         . rw[G0c ag,o4 j hj];exact ar _ (ae _ (B7 hj)).1
     . have hk:=g0b hk;exact⟨fun h=>absurd hv h,fun _=>⟨fun h2=>absurd h2 a6,fun _=>⟨fun h2=>absurd h2 (by omega),fun _=>⟨⟨rfl,rfl,hf.1,fun i hi=>hf.2 i (by omega)⟩,by trivial⟩⟩⟩⟩
 . have hr:r=false:=by rw[hr];exact g1e hv
   rw[hr];exact⟨fun _=>⟨fun _=>⟨rfl,by trivial⟩,fun h=>absurd h hv⟩,fun h=>(by cases h)⟩
end Go.Proofs.YthiimnbdinlfeaaGreat
