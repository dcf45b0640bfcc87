/- Part. -/
import Derived.Test.YthiimnbdinlfeaaGreatKBF
set_option linter.all false
namespace Go.Proofs.YthiimnbdinlfeaaGreat
open Go.Proofs.Tryz
open Go.Vc Go.Gw
open Go.IntKind (i64 u64 u32)
def cK:An:= {loop:= [(2,⟨[0],[],[(3,false,vI)],[],[]⟩)]}
def ZC:An:= {loop:= [(4,⟨[0,1],[],[(5,false,vI)],[],[]⟩)],plan:= [(6,[3,7],[],true,(pR 0 3 (.q 3 (pR 4 3 (.q 7 (.p 8 .done))))))]}
def FV:An:= {}
def iL:An:= {join:= [(8,⟨[0,1,5,7],[0],[(6,false,vU)],[],[]⟩),(10,⟨[0,1,5,7],[0],[(6,false,vU)],[],[]⟩)],loop:= [(4,⟨[0,1,5],[],[(6,false,vU),(7,false,vI)],[],[(0, .row (.int .u32) 70)]⟩)]}
def iO:An:= {join:= [(12,⟨[0,1,6,8],[0],[(9,false,vU)],[],[]⟩),(17,⟨[0,1,6,8,9],[0],[(7,false,vU),(10,false,vU)],[],[]⟩)],loop:= [(7,⟨[0,1,6],[],[(7,false,vU),(8,false,vI)],[],[(0, .row (.int .u32) 70)]⟩)]}
def PS:An:= {loop:= [(7,⟨[0,1],[],[(5,false,vI)],[],[]⟩)],plan:= [(9,[3,7],[],true,(pR 0 3 (.q 3 (pR 4 3 (.q 7 (.p 8 .done)))))),(11,[3,7],[],true,(pR 0 3 (.q 3 (pR 4 3 (.q 7 (.p 8 .done))))))]}
def iN:An:= {loop:= [(7,⟨[0,1,5,6],[],[(7,false,vU),(8,false,vI)],[],[(0, .row (.int .u32) 70)]⟩),(3,⟨[0,1,5],[],[(6,false,vI)],[],[(0, .row (.int .u32) 70)]⟩)],plan:= [(9,[6,11,16],[],true,(pR 0 6 (.q 6 (pR 7 4 (.q 11 (pR 12 4 (.q 16 (pR 17 5 .done))))))))]}
def VI:An:= {loop:= [(6,⟨[0],[],[(4,false,vU),(5,false,vI)],[],[]⟩)]}
def MP:A2 Le.args->Prop:=fun(x:List Int×Unit)=>let f:=(1:Int);let c:=(x.1.length:Int);let a:=(0:Int);let g:=a.toNat;∃(I:Int×Unit->Prop),∃(μ: _->Nat),I (c,())/\∀(p:Int×Unit),let e:=p.1.toNat;let d:=(i64.wrap (p.1-f),());let b:=(decide (gx a x.1 (i64.wrap (p.1-f))=a));(Ty.int i64).wf p.1/\True->I p->(decide (a<p.1)=true->a<=i64.wrap (p.1-f)/\i64.wrap (p.1-f)<c)/\(iB (K7 (decide (a<p.1)) b false) (I d/\μ d<μ p) ((a<=a/\a<=p.1/\p.1<=c)/\(((0:Nat)+(List.drop g (List.take e x.1)).length)*(4:Nat)<=(140737488355328:Nat)/\(0:Nat)+(List.drop g (List.take e x.1)).length<=9223372036854775807)/\List.drop g (List.take e x.1)=nc (nv x.1)))
def HZ:A2 Ij.args->Prop:=fun(x:List Int×List Int×Unit)=>let f:Prop:=(x.1=x.2.1);let e:=(0:Int);let b:=(x.2.1.length:Int);let a:=(x.1.length:Int);(iB (decide (a≠b)) (false=decide f) (∃(I:Int×Unit->Prop),∃(μ: _->Nat),I (e,())/\∀(p:Int×Unit),let d:=(i64.wrap (p.1+1),());let c:Prop:=(gx e x.1 p.1≠gx e x.2.1 p.1);(Ty.int i64).wf p.1/\True->I p->(iB (decide (p.1<a)) ((e<=p.1/\p.1<a)/\(e<=p.1/\p.1<b)/\(iB (decide c) (false=decide f) (I d/\μ d<μ p))) (true=decide f))))
def Nk:A2 Y7.args->Prop:=fun(x:Int×Unit)=>let a:=((32:Int).toNat);(0:(Ty.int u64).den)<=(32:Int)/\Gu [u32.wrap x.1,u32.wrap (Int.fdiv x.1 ((2:Int)^Min.min a u64.bits))]/\∀(r:List Int×Unit),I5 r.1/\True->r.1=nc (nv [u32.wrap x.1,u32.wrap (Int.fdiv x.1 ((2:Int)^Min.min a u64.bits))])->r.1=nc x.1.toNat
def UA:A2 Py.args->Prop:=fun(x:List Int×List Int×Unit)=>let f:=(1:Int);let e:=(0:Int);let b:=(x.1.length:Int);let a:=(x.2.1.length:Int);(e<=i64.wrap (Max.max b a+f)/\i64.wrap (Max.max b a+f)<=i64.wrap (Max.max b a+f)/\(↑(4:Nat):Int)*i64.wrap (Max.max b a+f)<=(281474976710656:Int)/\i64.wrap (Max.max b a+f)<=(9223372036854775807:Int))/\∃(I:Int×Int×List Int×Unit->Prop),∃(μ: _->Nat),I (e,e,List.replicate (i64.wrap (Max.max b a+f)).toNat e,())/\∀(p:Int×Int×List Int×Unit),let d:=(p.2.2.1.length:Int);(Ty.int u64).wf p.1/\(Ty.int i64).wf p.2.1/\I5 p.2.2.1/\True->I p->(iB (decide (p.2.1<d)) (∃(J:Int×Unit->Prop),((iB (decide (p.2.1<b)) ((e<=p.2.1/\p.2.1<b)/\J (u64.wrap (p.1+u64.wrap (gx e x.1 p.2.1)),())) (J (p.1,()))))/\∀(g:Int×Unit),(Ty.int u64).wf g.1/\True->J g->∃(J:Int×Unit->Prop),((iB (decide (p.2.1<a)) ((e<=p.2.1/\p.2.1<a)/\J (u64.wrap (g.1+u64.wrap (gx e x.2.1 p.2.1)),())) (J g)))/\∀(h:Int×Unit),let c:=(Int.fdiv h.1 ((2:Int)^Min.min ((32:Int).toNat) u64.bits),i64.wrap (p.2.1+f),List.set p.2.2.1 p.2.1.toNat (u32.wrap h.1),());(Ty.int u64).wf h.1/\True->J h->(e<=p.2.1/\p.2.1<d)/\(0:(Ty.int u64).den)<=(32:Int)/\I c/\μ c<μ p) (Gu p.2.2.1/\∀(r:List Int×Unit),I5 r.1/\True->r.1=nc (nv p.2.2.1)->r.1=nc (nv x.1+nv x.2.1)))
def UE:A2 Qb.args->Prop:=fun(x:List Int×List Int×Unit)=>let f:=(nv x.1-nv x.2.1);let c:=(0:Int);(E6 x.1/\E6 x.2.1)/\∀(r:Int×Unit),D2 r.1/\True->r.1=Bw (nv x.1) (nv x.2.1)->(iB (decide (r.1<c)) ((nv x.1<nv x.2.1->Bq Int= []/\false=false)/\(nv x.2.1<=nv x.1->Bq Int=nc f/\false=true)) (Gu x.1/\∀(r:List Int×Unit),let a:=(r.1.length:Int);I5 r.1/\True->r.1=nc (nv x.1)->Gu x.2.1/\∀(i:List Int×Unit),let e:=(i.1.length:Int);I5 i.1/\True->i.1=nc (nv x.2.1)->(c<=a/\a<=a/\(↑(4:Nat):Int)*a<=(281474976710656:Int)/\a<=(9223372036854775807:Int))/\∃(I:Int×Int×List Int×Unit->Prop),∃(μ: _->Nat),I (c,c,List.replicate a.toNat c,())/\∀(p:Int×Int×List Int×Unit),let d:=(gx c r.1 p.2.1);(Ty.int u64).wf p.1/\(Ty.int i64).wf p.2.1/\I5 p.2.2.1/\True->I p->(iB (decide (p.2.1<a)) (∃(J:Int×Unit->Prop),((iB (decide (p.2.1<e)) ((c<=p.2.1/\p.2.1<e)/\J (u64.wrap (p.1+u64.wrap (gx c i.1 p.2.1)),())) (J (p.1,()))))/\∀(j:Int×Unit),let g:Prop:=(u64.wrap d<j.1);(Ty.int u64).wf j.1/\True->J j->(c<=p.2.1/\p.2.1<a)/\∃(J:Int×Int×Unit->Prop),((iB (decide g) (J ((1:Int),u64.wrap (u64.wrap d+(4294967296:Int)),())) (J (c,u64.wrap d,()))))/\∀(h:Int×Int×Unit),let b:=(h.1,i64.wrap (p.2.1+1),List.set p.2.2.1 p.2.1.toNat (u32.wrap (u64.wrap (h.2.1-j.1))),());(Ty.int u64).wf h.1/\(Ty.int u64).wf h.2.1/\True->J h->(c<=p.2.1/\p.2.1<(p.2.2.1.length:Int))/\I b/\μ b<μ p) (Gu p.2.2.1/\∀(r:List Int×Unit),I5 r.1/\True->r.1=nc (nv p.2.2.1)->(nv x.1<nv x.2.1->r.1= []/\true=false)/\(nv x.2.1<=nv x.1->r.1=nc f/\true=true)))))
def Yj:A2 Eb.args->Prop:=fun(x:List Int×List Int×Unit)=>let i:=(1:Int);let e:=(nv x.1);let d:=(nv x.2.1);let c:=(0:Int);Gu x.1/\∀(r:List Int×Unit),let a:=(r.1.length:Int);I5 r.1/\True->r.1=nc e->Gu x.2.1/\∀(j:List Int×Unit),let b:=(j.1.length:Int);I5 j.1/\True->j.1=nc d->(iB (decide (a≠b)) ((iB (decide (a<b)) ((-1:Int)=Bw e d) (i=Bw e d))) (∃(I:Int×Unit->Prop),∃(μ: _->Nat),I (i64.wrap (a-i),())/\∀(p:Int×Unit),let h:Prop:=(gx c j.1 p.1<gx c r.1 p.1);let g:Prop:=(gx c r.1 p.1<gx c j.1 p.1);let f:=(i64.wrap (p.1-i),());(Ty.int i64).wf p.1/\True->I p->(iB (decide (c<=p.1)) ((c<=p.1/\p.1<a)/\(c<=p.1/\p.1<b)/\(iB (decide g) ((-1:Int)=Bw e d) ((c<=p.1/\p.1<a)/\(c<=p.1/\p.1<b)/\(iB (decide h) (i=Bw e d) (I f/\μ f<μ p))))) (c=Bw e d))))
def UD:A2 Qa.args->Prop:=fun(x:List Int×List Int×Unit)=>let g:=(0:Int);let c:=(x.1.length:Int);let b:=(x.2.1.length:Int);(g<=i64.wrap (c+b)/\i64.wrap (c+b)<=i64.wrap (c+b)/\(↑(4:Nat):Int)*i64.wrap (c+b)<=(281474976710656:Int)/\i64.wrap (c+b)<=(9223372036854775807:Int))/\∃(I:Int×List Int×Unit->Prop),∃(μ: _->Nat),I (g,List.replicate (i64.wrap (c+b)).toNat g,())/\∀(p:Int×List Int×Unit),(Ty.int i64).wf p.1/\I5 p.2.1/\True->I p->(iB (decide (p.1<c)) (∃(I_1:Int×Int×List Int×Unit->Prop),∃(u: _->Nat),I_1 (g,g,p.2.1,())/\∀(j:Int×Int×List Int×Unit),let i:=(i64.wrap (p.1+j.2.1));let h:=(j.2.2.1.length:Int);let f:=(i64.wrap (p.1+1),List.set j.2.2.1 (i64.wrap (p.1+b)).toNat (u32.wrap j.1),());let e:Prop:=(g<=i64.wrap (p.1+j.2.1)/\i64.wrap (p.1+j.2.1)<h);let a:=(u64.wrap (j.1+u64.wrap (u64.wrap (List.getD j.2.2.1 i.toNat g)+u64.wrap (u64.wrap (gx g x.1 p.1)*u64.wrap (gx g x.2.1 j.2.1)))));let d:=(a.fdiv ((2:Int)^Min.min ((32:Int).toNat) u64.bits),i64.wrap (j.2.1+1),List.set j.2.2.1 i.toNat (u32.wrap a),());(Ty.int u64).wf j.1/\(Ty.int i64).wf j.2.1/\I5 j.2.2.1/\True->I_1 j->(iB (decide (j.2.1<b)) (e/\(g<=p.1/\p.1<c)/\(g<=j.2.1/\j.2.1<b)/\e/\(0:(Ty.int u64).den)<=(32:Int)/\I_1 d/\u d<u j) ((g<=i64.wrap (p.1+b)/\i64.wrap (p.1+b)<h)/\I f/\μ f<μ p))) (Gu p.2.1/\∀(r:List Int×Unit),I5 r.1/\True->r.1=nc (nv p.2.1)->r.1=nc (nv x.1*nv x.2.1)))
def CL:A2 Fz.args->Prop:=fun(x:List Int×Unit)=>let d:=(0:Int);let c:=(18446744073709551616:Nat);Gu x.1/\∀(r:List Int×Unit),let b:=(r.1.length:Int);I5 r.1/\True->r.1=nc (nv x.1)->(iB (decide ((2:Int)<b)) ((nv x.1<c->d=(↑(nv x.1):Int)/\false=true)/\(c<=nv x.1->false=false)) (∃(I:Int×Int×Unit->Prop),∃(μ: _->Nat),I (d,i64.wrap (b-(1:Int)),())/\∀(p:Int×Int×Unit),let a:=(u64.wrap (↑(BitVec.ofInt u64.bits (u64.wrap (p.1*2^Min.min ((32:Int).toNat) u64.bits)) |||BitVec.ofInt u64.bits (u64.wrap (gx d r.1 p.2.1))).toNat:Int),i64.wrap (p.2.1-1),());(Ty.int u64).wf p.1/\(Ty.int i64).wf p.2.1/\True->I p->(iB (decide (d<=p.2.1)) ((0:(Ty.int u64).den)<=(32:Int)/\(d<=p.2.1/\p.2.1<b)/\I a/\μ a<μ p) ((nv x.1<c->p.1=(↑(nv x.1):Int)/\true=true)/\(c<=nv x.1->true=false)))))
def UG (x:A2 Le.args) (hw:awf Le.args x) (hp:Le.pre x):MP x:=by
 obtain⟨l,_⟩:=x;have hl:l.length<=35184372088832:=hp;have hb:A5 l:=A3 hw.1.2;change List Int at l;simp only[MP,iB];refine⟨fun p=>0<=p.1/\p.1<=(l.length:Int)/\∀i x,p.1.toNat<=i->l[i]? =some x->x=0,fun p=>p.1.toNat,⟨qD _,qI _,fun i x hi hx=> ?_⟩, ?_⟩
 . rw[rS (by simpa using hi)]at hx;cases hx
 rintro⟨n,_⟩ _ ⟨h0,h1,u⟩;change Int at n;simp only at h0 h1 u⊢;refine⟨fun h=> ?_,fun h=> ?_,fun h=> ?_⟩
 . have h:=qA h;rw[wv (by omega)];exact⟨by omega,by omega⟩
 . rw[L8]at h;simp only[qC,sA]at h;obtain⟨h3,h4⟩:=h;rw[wv (by omega)]at h4⊢;refine⟨⟨by omega,by omega,fun i x hi hx=> ?_⟩,by omega⟩;by_cases he:i=(n-1).toNat
   . subst he;rw[J3 (d:=(0:Int)) (by omega) (by omega)]at hx;cases hx;exact h4
   . exact u i x (by omega) hx
 . refine⟨⟨qI _,h0,h1⟩, ?_⟩;have e:(l.take n.toNat).drop (Int.toNat 0)=l.take n.toNat:=rfl;rw[e];have a0:(l.take n.toNat).length<=l.length:=by rw[qU];omega
   refine⟨⟨by omega,by omega⟩,nA hb (by omega) u ?_⟩;rw[L8]at h;simp only[xT,rR]at h;rcases h with h|h
   . exact .inl (by omega)
   . by_cases hn:n=0
     . exact .inl (by omega)
     . rw[wv (by omega)]at h;refine .inr ⟨gx 0 l (n-1), ?_,h⟩;have:=J3 (d:=(0:Int)) (l:=l) (i:=n-1) (by omega) (by omega);rw[<-this];congr 1;omega
def OE (x:A2 Ij.args) (hw:awf Ij.args x) (_:Ij.pre x):HZ x:=by
 obtain⟨a,b,_⟩:=x;have hl:a.length<=9223372036854775807:=hw.1.1;change List Int at a b;simp only[HZ,iB];refine⟨fun h=> ?_,fun h=> ?_⟩
 . have h:=qA h;exact(rH fun e=>h (by rw[e])).symm
 . have a0:a.length=b.length:=by have:=qB h;omega
   refine⟨fun p=>0<=p.1/\p.1<=(a.length:Int)/\a.take p.1.toNat=b.take p.1.toNat,fun p=>((a.length:Int)-p.1).toNat,⟨qI _,qD _,by simp⟩, ?_⟩;rintro⟨i,_⟩ _ ⟨h0,h1,h2⟩;change Int at i;simp only at h0 h1 h2⊢;refine⟨fun h=> ?_,fun h=> ?_⟩
   . have h:=qA h;refine⟨⟨h0,h⟩,⟨h0,by omega⟩,fun u=> ?_,fun u=> ?_⟩
     . have u:=qA u;exact(rH fun e=>u (by rw[e])).symm
     . have u:gx 0 a i=gx 0 b i:=by simpa using u
       rw[wv (by omega)];refine⟨⟨by omega,by omega, ?_⟩,by omega⟩;rw[show(i+1).toNat=i.toNat+1 from by omega,rX,rX,J3 (d:=(0:Int)) h0 h,J3 (d:=(0:Int)) h0 (by omega),h2,u]
   . have h:=qB h;rw[E9 (by omega),E9 (by omega)]at h2;exact(rD h2).symm
def Yk (x:A2 Y7.args) (hw:awf Y7.args x) (_:Y7.pre x):Nk x:=by
 obtain⟨v,_⟩:=x;change Int at v;have hv:u64.min<=v/\v<=u64.max:=hw.1;rw[bR,AG]at hv;simp only[Nk];refine⟨by decide,by simp, ?_⟩;rintro⟨r,_⟩ _ u;simp only at u⊢;rw[u];congr 1;rw[show Min.min (Int.toNat 32) u64.bits=32 from rfl];simp only[nv,Bo];rw[sD _ (by decide),show(2:Int)^32=4294967296 from rfl];omega
def A9w (v:Int) (_:0<=v):Int.fdiv v (2^Min.min (Int.toNat 32) u64.bits)=v/4294967296:=by
 rw[show Min.min (Int.toNat 32) u64.bits=32 from rfl,sD _ (by decide)];rfl
def VU (x:A2 Py.args) (hw:awf Py.args x) (hp:Py.pre x):UA x:=by
 obtain⟨a,b,_⟩:=x;have ha:A5 a:=A3 hw.1.2;have hb:A5 b:=A3 hw.2.1.2;change List Int at a b;obtain⟨la,lb⟩:a.length<=17592186044416/\b.length<=17592186044416:=hp;simp only[UA,iB];have em:i64.wrap (Max.max (a.length:Int) (b.length:Int)+1)=((max a.length b.length+1:Nat):Int):=by
  rw[wv (by omega)];omega
 rw[em];have a4:max a.length b.length+1<=17592186044417:=by omega
 refine⟨⟨by omega,qI _,by simp;omega,by omega⟩, ?_⟩;have a2:a.length<=max a.length b.length+1:=by omega
 have a3:b.length<=max a.length b.length+1:=by omega
 have u:=pU ha hb;generalize max a.length b.length+1=n at a4 a2 a3 u;refine⟨fun p=>0<=p.2.1/\p.2.1<=(n:Int)/\0<=p.1/\p.1<=1/\p.2.2.1.length=n/\nv (p.2.2.1.take p.2.1.toNat)+4294967296^p.2.1.toNat*p.1.toNat=nv (a.take p.2.1.toNat)+nv (b.take p.2.1.toNat),fun p=>((n:Int)-p.2.1).toNat,⟨qI _,qD _,qI _,by show(0:Int)<=1;omega,by simp,by simp[nv]⟩, ?_⟩;rintro⟨c,i,out,_⟩ ⟨_,_,a5,_⟩ ⟨h0,h1,h2,h3,h4,h5⟩;change Int at c i;change List Int at out;simp only at h0 h1 h2 h3 h4 h5⊢;have ho:A5 out:=A3 a5.2;have da:=K6 ha i.toNat;have db:=K6 hb i.toNat;refine⟨fun h=> ?_,fun h=> ?_⟩
 . have h:=qA h;refine⟨fun p=>p.1=c+(dg a i.toNat:Int),⟨fun hi=> ?_,fun hi=> ?_⟩, ?_⟩
   . have hi:=qA hi;refine⟨⟨h0,hi⟩, ?_⟩;show u64.wrap _= _;rw[Eu ha h0 hi,W0 (a:=(dg a i.toNat:Int)) (by omega) (by omega),W0 (by omega) (by omega)]
   . have hi:=qB hi;show c= _;rw[Nu (by omega)];omega
   rintro⟨c1,_⟩ _ a0;simp only at a0⊢;refine⟨fun p=>p.1=c1+(dg b i.toNat:Int),⟨fun hi=> ?_,fun hi=> ?_⟩, ?_⟩
   . have hi:=qA hi;refine⟨⟨h0,hi⟩, ?_⟩;show u64.wrap _= _;rw[Eu hb h0 hi,W0 (a:=(dg b i.toNat:Int)) (by omega) (by omega),W0 (by omega) (by omega)]
   . have hi:=qB hi;show c1= _;rw[Nu (by omega)];omega
   rintro⟨c2,_⟩ _ a1;simp only at a1⊢;subst a0 a1;refine⟨⟨h0,h⟩,by decide, ?_⟩;rw[A9w _ (by omega),wv (by omega),Bo];refine⟨⟨by omega,by omega,by omega,by omega,by rw[qL];exact h4, ?_⟩,by omega⟩;rw[show(i+1).toNat=i.toNat+1 from by omega,Q9 (by omega),H3 a,H3 b,rZ];exact YB h5 (by omega)
 . have h:=qB h;refine⟨by omega, ?_⟩;rintro⟨r,_⟩ _ hr;simp only at hr⊢;rw[hr];congr 1;rw[show i.toNat=n from by omega,qR (by omega),qR a2,qR a3]at h5;have hc:c.toNat=0:=DC (P:=4294967296^n) (x:=nv a+nv b) (by rw[<-h5];exact Nat.le_add_left ..) u;rw[hc,wF,tA]at h5;exact h5
def HY (x:A2 Eb.args) (hw:awf Eb.args x) (hp:Eb.pre x):Yj x:=by
 obtain⟨a,b,_⟩:=x;change List Int at a b;obtain⟨la,lb⟩:a.length<=17592186044416/\b.length<=17592186044416:=hp;simp only[Yj,iB];refine⟨by omega, ?_⟩;rintro⟨r,_⟩ ⟨⟨a3,_⟩,_⟩ hr;simp only at hr a3⊢;subst hr;refine⟨by omega, ?_⟩;rintro⟨s,_⟩ ⟨⟨a4,_⟩,_⟩ hs;simp only at hs a4⊢;subst hs;have ha:=H9 (nv a);have hb:=H9 (nv b);refine⟨fun a1=>⟨fun h=> ?_,fun h=> ?_⟩,fun a1=> ?_⟩
 . have h:=qA h;exact(Mp (Zu (by omega))).symm
 . have h:=qB h;have a1:=qA a1;exact(OT (Zu (by omega))).symm
 . have a2:(nc (nv a)).length=(nc (nv b)).length:=by have:=qB a1;omega
   have ea:=E1 (nv a);have eb:=E1 (nv b);generalize nc (nv a)=r at*;generalize nc (nv b)=s at*;rw[<-ea, <-eb];refine⟨fun p=> -1<=p.1/\p.1<(r.length:Int)/\r.drop (p.1+1).toNat=s.drop (p.1+1).toNat,fun p=>(p.1+1).toNat, ?_, ?_⟩
   . rw[wv (by omega)];refine⟨by omega,by omega, ?_⟩;rw[sC (by omega),sC (by omega)]
   rintro⟨i,_⟩ _ ⟨h0,h1,h2⟩;change Int at i;simp only at h0 h1 h2⊢;refine⟨fun h=> ?_,fun h=> ?_⟩
   . have h:=qA h;refine⟨⟨h,h1⟩,⟨h,by omega⟩,fun a0=> ?_,fun a0=>⟨⟨h,h1⟩,⟨h,by omega⟩,fun u=> ?_,fun u=> ?_⟩⟩
     . exact(Mp (aY ha hb a2 h h1 h2 (qA a0))).symm
     . exact(OT (aY hb ha a2.symm h (by omega) h2.symm (qA u))).symm
     . have a0:=qB a0;have u:=qB u;rw[wv (by omega)];refine⟨⟨by omega,by omega, ?_⟩,by omega⟩;rw[show i-1+1=i from by omega,U5 h h1,U5 h (by omega),h2,show gx 0 r i=gx 0 s i from by omega]
   . have h:=qB h;rw[show(i+1).toNat=0 from by omega,tU,tU]at h2;rw[h2,XX]
def VX (x:A2 Qb.args) (hw:awf Qb.args x) (hp:Qb.pre x):UE x:=by
 obtain⟨a,b,_⟩:=x;change List Int at a b;have a6:A5 a:=A3 hw.1.2;have a9:A5 b:=A3 hw.2.1.2;obtain⟨la,lb⟩:a.length<=17592186044416/\b.length<=17592186044416:=hp;simp only[UE,iB];refine⟨⟨la,lb⟩, ?_⟩;rintro⟨d,_⟩ _ hd;simp only at hd⊢;subst hd;refine⟨fun h=> ?_,fun h=> ?_⟩
 . have h:=qA h;refine⟨fun _=>⟨by trivial,by trivial⟩,fun u=> ?_⟩;unfold Bw at h;rw[qT (by omega)]at h;split at h<;>omega
 . have h:=qB h;have u:nv b<=nv a:=by
    rcases sF (nv a) (nv b)with h1|h1
    . rw[Mp h1]at h;omega
    . exact h1
   refine⟨by omega, ?_⟩;rintro⟨r,_⟩ _ hr;simp only at hr⊢;refine⟨by omega, ?_⟩;rintro⟨s,_⟩ _ hs;simp only at hs⊢;have a1:A5 r:=hr▸H9 _;have a3:A5 s:=hs▸H9 _;have a2:nv r=nv a:=by rw[hr,E1]
   have a4:nv s=nv b:=by rw[hs,E1]
   have ab:r.length<=a.length:=by rw[hr];exact C7 a6
   have a7:s.length<=r.length:=by rw[hr,hs];exact I2 u
   rw[<-a2, <-a4]at u⊢;clear hr hs a2 a4;refine⟨⟨by omega,qI _,by simp;omega,by omega⟩, ?_⟩;refine⟨fun p=>0<=p.2.1/\p.2.1<=(r.length:Int)/\0<=p.1/\p.1<=1/\p.2.2.1.length=r.length/\nv (r.take p.2.1.toNat)+4294967296^p.2.1.toNat*p.1.toNat=nv (p.2.2.1.take p.2.1.toNat)+nv (s.take p.2.1.toNat),fun p=>((r.length:Int)-p.2.1).toNat,⟨qI _,qD _,qI _,by show(0:Int)<=1;omega,by simp,by simp[nv]⟩, ?_⟩;rintro⟨c,i,out,_⟩ ⟨_,_,a8,_⟩ ⟨h0,h1,h2,h3,h4,h5⟩;change Int at c i;change List Int at out;simp only at h0 h1 h2 h3 h4 h5⊢;have ho:A5 out:=A3 a8.2;have da:=K6 a1 i.toNat;have db:=K6 a3 i.toNat;refine⟨fun h=> ?_,fun h=> ?_⟩
   . have h:=qA h;refine⟨fun p=>p.1=c+(dg s i.toNat:Int),⟨fun hi=> ?_,fun hi=> ?_⟩, ?_⟩
     . have hi:=qA hi;refine⟨⟨h0,hi⟩, ?_⟩;show u64.wrap _= _;rw[Eu a3 h0 hi,W0 (a:=(dg s i.toNat:Int)) (by omega) (by omega),W0 (by omega) (by omega)]
     . have hi:=qB hi;show c= _;rw[Nu (by omega)];omega
     rintro⟨c1,_⟩ _ a5;change Int at c1;simp only at a5⊢;refine⟨⟨h0,h⟩, ?_⟩;rw[Eu a1 h0 h,W0 (a:=(dg r i.toNat:Int)) (by omega) (by omega)];refine⟨fun p=>0<=p.1/\p.1<=1/\p.2.1=(dg r i.toNat:Int)+4294967296*p.1/\c1<=p.2.1/\p.2.1-c1<=4294967295,⟨fun hi=> ?_,fun hi=> ?_⟩, ?_⟩
     . have hi:=qA hi;show(0:Int)<=1/\(1:Int)<=1/\u64.wrap _=(dg r i.toNat:Int)+4294967296*1/\c1<=u64.wrap _ /\u64.wrap _-c1<= _;rw[W0 (by omega) (by omega)];omega
     . have hi:=qB hi;show(0:Int)<=0/\(0:Int)<=1/\(dg r i.toNat:Int)=(dg r i.toNat:Int)+4294967296*0/\c1<=(dg r i.toNat:Int)/\(dg r i.toNat:Int)-c1<= _;omega
     rintro⟨c2,x2,_⟩ _ ⟨k1,k2,k3,k4,k5⟩;change Int at c2 x2;simp only at k1 k2 k3 k4 k5⊢;refine⟨⟨h0,by omega⟩, ?_⟩;rw[wv (by omega),W0 (a:=x2-c1) (by omega) (by omega),w32 (by omega) (by omega)];refine⟨⟨by omega,by omega,by omega,by omega,by rw[qL];exact h4, ?_⟩,by omega⟩;rw[show(i+1).toNat=i.toNat+1 from by omega,Q9 (by omega),H3 r,H3 s,rZ];exact SA h5 (by omega)
   . have h:=qB h;refine⟨by omega, ?_⟩;rintro⟨q,_⟩ _ hq;simp only at hq⊢;refine⟨fun aa=>by omega,fun _=>⟨?_,by trivial⟩⟩;rw[hq];congr 1;rw[show i.toNat=r.length from by omega,qR (rA _),qR (by omega),qR a7]at h5;have a0:nv out<4294967296^out.length:=Fm ho;rw[h4]at a0;have hc:c.toNat=0:=DC (P:=4294967296^r.length) (x:=nv out) (by omega) a0;rw[hc,wF,tA]at h5;omega
def VW (x:A2 Qa.args) (hw:awf Qa.args x) (hp:Qa.pre x):UD x:=by
 obtain⟨a,b,_⟩:=x;have ha:A5 a:=A3 hw.1.2;have hb:A5 b:=A3 hw.2.1.2;change List Int at a b;obtain⟨la,lb⟩:a.length<=17592186044416/\b.length<=17592186044416:=hp;simp only[UD,iB];have em:i64.wrap ((a.length:Int)+(b.length:Int))=((a.length+b.length:Nat):Int):=by
  rw[wv (by omega)];omega
 rw[em];refine⟨⟨by omega,qI _,by simp;omega,by omega⟩, ?_⟩;refine⟨fun p=>0<=p.1/\p.1<=(a.length:Int)/\p.2.1.length=a.length+b.length/\nv p.2.1=nv (a.take p.1.toNat)*nv b/\∀j,p.1.toNat+b.length<=j->dg p.2.1 j=0,fun p=>((a.length:Int)-p.1).toNat,⟨qI _,qD _,by rw[rE,qJ],by simp[nv,Ph],fun j _=>GG _ _⟩, ?_⟩;rintro⟨i,out,_⟩ ⟨_,a5,_⟩ ⟨h0,h1,h2,h3,h4⟩;change Int at i;change List Int at out;simp only at h0 h1 h2 h3 h4⊢;have ho:A5 out:=A3 a5.2;refine⟨fun h=> ?_,fun h=> ?_⟩
 . have h:=qA h;have da:=K6 ha i.toNat;refine⟨fun p=>0<=p.2.1/\p.2.1<=(b.length:Int)/\0<=p.1/\p.1<=4294967295/\p.2.2.1.length=a.length+b.length/\nv p.2.2.1+4294967296^(i.toNat+p.2.1.toNat)*p.1.toNat=nv out+4294967296^i.toNat*(dg a i.toNat*nv (b.take p.2.1.toNat))/\∀j,i.toNat+b.length<=j->dg p.2.2.1 j=0,fun p=>((b.length:Int)-p.2.1).toNat,⟨qI _,qD _,qI _,by show(0:Int)<=4294967295;omega,h2,by simp[nv],h4⟩, ?_⟩;rintro⟨c,j,o,_⟩ ⟨_,_,a1,_⟩ ⟨g0,g1,g2,g3,g4,g5,g6⟩;change Int at c j;change List Int at o;simp only at g0 g1 g2 g3 g4 g5 g6⊢;have a0:A5 o:=A3 a1.2;refine⟨fun u=> ?_,fun u=> ?_⟩
   . have u:=qA u;have db:=K6 hb j.toNat;rw[wv (a:=i+j) (by omega)];refine⟨⟨by omega,by omega⟩,⟨h0,h⟩,⟨g0,u⟩,⟨by omega,by omega⟩,by decide, ?_⟩;rw[Eu ha h0 h,Eu hb g0 u,W8 a0,show(i+j).toNat=i.toNat+j.toNat from by omega];have dk:=K6 a0 (i.toNat+j.toNat);have hm:dg a i.toNat*dg b j.toNat<=4294967295*4294967295:=yF da db;have a4:(dg a i.toNat:Int)*(dg b j.toNat:Int)=((dg a i.toNat*dg b j.toNat:Nat):Int):=(uF _ _).symm;rw[W0 (a:=(dg a i.toNat:Int)) (by omega) (by omega),W0 (a:=(dg b j.toNat:Int)) (by omega) (by omega),W0 (a:=(dg o (i.toNat+j.toNat):Int)) (by omega) (by omega),a4];have a6:=g5;generalize a2:dg a i.toNat*dg b j.toNat=M at hm;rw[W0 (a:=(M:Int)) (by omega) (by omega),W0 (a:=(dg o (i.toNat+j.toNat):Int)+(M:Int)) (by omega) (by omega),W0 (by omega) (by omega),A9w _ (by omega),wv (by omega),Bo];refine⟨⟨by omega,by omega,by omega,by omega,by rw[qL];exact g4, ?_,fun q hq=> ?_⟩,by omega⟩
     . have hs:=Je (l:=o) (k:=i.toNat+j.toNat) (v:=(c+((dg o (i.toNat+j.toNat):Int)+(M:Int)))%4294967296) (by omega);rw[show(j+1).toNat=j.toNat+1 from by omega,H3 b, <-uC i.toNat,rZ,tF (dg a i.toNat)];have e1:dg a i.toNat*(4294967296^j.toNat*dg b j.toNat)=4294967296^j.toNat*M:=by rw[<-a2,zK]
       rw[e1,tF (4294967296^i.toNat), <-sJ (4294967296^i.toNat) (4294967296^j.toNat), <-uO, <-uC (nv out), <-g5];generalize 4294967296^(i.toNat+j.toNat)=P at*;have hd:((c+((dg o (i.toNat+j.toNat):Int)+(M:Int)))%4294967296).toNat+4294967296*((c+((dg o (i.toNat+j.toNat):Int)+(M:Int)))/4294967296).toNat=c.toNat+dg o (i.toNat+j.toNat)+M:=by omega
       have a3:=tN (P* ·) hd;simp only[tF, <-sJ]at a3;omega
     . rw[Wc (by omega),qT (by omega)];exact g6 q hq
   . have u:=qB u;rw[wv (a:=i+(b.length:Int)) (by omega),wv (by omega),w32 g2 g3];refine⟨⟨by omega,by omega⟩,⟨by omega,by omega,by rw[qL];exact g4, ?_,fun q hq=> ?_⟩,by omega⟩
     . have hs:=Je (l:=o) (k:=(i+(b.length:Int)).toNat) (v:=c) (by omega);rw[g6 _ (by omega),wF,tA]at hs;rw[hs,show(i+(b.length:Int)).toNat=i.toNat+b.length from by omega];rw[show j.toNat=b.length from by omega,qR (rA b.length)]at g5;rw[g5,show(i+1).toNat=i.toNat+1 from by omega,H3,uH,h3,sJ]
     . rw[Wc (by omega),qT (by omega)];exact g6 q (by omega)
 . have h:=qB h;refine⟨by omega, ?_⟩;rintro⟨r,_⟩ _ hr;simp only at hr⊢;rw[hr,h3,qR (by omega)]
def LD (x:A2 Fz.args) (hw:awf Fz.args x) (hp:Fz.pre x):CL x:=by
 obtain⟨a,_⟩:=x;have ha:A5 a:=A3 hw.1.2;change List Int at a;have la:a.length<=35184372088832:=hp;have n1:=C7 ha;simp only[CL,iB];refine⟨hp, ?_⟩;rintro⟨r,_⟩ _ hr;simp only at hr⊢;have a3:nv r=nv a:=by rw[hr,E1]
 have a0:A5 r:=hr▸H9 _;refine⟨fun h=> ?_,fun h=> ?_⟩
 . have h:=qA h;have u:4294967296^2<=nv a:=A4n (by rw[<-hr];omega);exact⟨fun h3=>by omega,fun _=>by trivial⟩
 . have h:=qB h;have a2:r.length<=2:=by omega
   rw[wv (a:=(r.length:Int)-1) (by omega)];refine⟨fun p=> -1<=p.2.1/\p.2.1<(r.length:Int)/\p.1=(nv (r.drop (p.2.1+1).toNat):Int),fun p=>(p.2.1+1).toNat,⟨by show(-1:Int)<=(r.length:Int)-1;omega,by show(r.length:Int)-1< _;omega, ?_⟩, ?_⟩
   . show(0:Int)= _;rw[sC (by show r.length<=((r.length:Int)-1+1).toNat;omega)];rfl
   rintro⟨v,i,_⟩ _ ⟨i0,i1,hv⟩;change Int at v i;simp only at i0 i1 hv⊢;refine⟨fun u=> ?_,fun u=> ?_⟩
   . have u:=qA u;have hg:=Sa a0 u i1;have a4:nv (r.drop (i+1).toNat)<4294967296:=by
      have h3:=Fm (l:=r.drop (i+1).toNat) fun y hy=>a0 y (uW hy)
      have h4:4294967296^(r.drop (i+1).toNat).length<=4294967296^1:=rW (by decide) (by rw[sR];omega);omega
     rw[wv (a:=i-1) (by omega),show Min.min (Int.toNat 32) u64.bits=32 from rfl,W0 (a:=v*2^32) (by omega) (by omega),W0 (a:=gx 0 r i) (by omega) (by omega)];have a1:=GZ (v:=gx 0 r i) (b:=v) (k:=32) (by omega) (by omega) (by omega) (by omega) (by omega);rw[show u64.bits=64 from rfl,a1,W0 (by omega) (by omega)];refine⟨by decide,⟨u,i1⟩,⟨by omega,by omega, ?_⟩,by omega⟩;rw[show i-1+1=i from by omega,U5 u i1];show _=(((gx 0 r i).toNat+4294967296*nv (r.drop (i+1).toNat):Nat):Int);omega
   . have u:=qB u;rw[show(i+1).toNat=0 from by omega,tU,a3]at hv;refine⟨fun _=>⟨hv,by trivial⟩,fun h3=> ?_⟩;have h4:=Fm a0;have h5:4294967296^r.length<=4294967296^2:=rW (by decide) a2;omega
def cJ:An:= {loop:= [(6,⟨[],[],[(3,false,vI),(4,false,[.val (.int .u32)])],[],[]⟩)]}
def iR:An:= {}
def VH:An:= {join:= [(15,⟨[0,1,4,11],[0],[(5,false,[.val (.sl (.int .u32))])],[],[]⟩),(11,⟨[0,1,4,11],[],[(5,false,[.val (.sl (.int .u32))])],[],[(0, .row (.int .u32) 70)]⟩)],loop:= [(10,⟨[0,1,4],[],[(5,false,[.val (.sl (.int .u32))]),(11,false,vI)],[],[(0, .row (.int .u32) 70)]⟩)],plan:= [(7,[],[],true,(pR 0 3 (pR 4 3 (.e 3 (.e 7 (pR 8 3 .done))))))]}
def iM:An:= {loop:= [(2,⟨[],[],[(0,false,[.val (.sl (.int .u32))]),(1,false,[.val (.sl (.int .u32))])],[],[]⟩)]}
def MO:A2 Ld.args->Prop:=fun(x:List Int×Unit)=>let e:=(↑(I7 (nv x.1)):Int);let d:=(1:Int);let c:=(0:Int);Gu x.1/\∀(r:List Int×Unit),let a:=(r.1.length:Int);I5 r.1/\True->r.1=nc (nv x.1)->(iB (decide (a=c)) (c=e) ((c<=i64.wrap (a-d)/\i64.wrap (a-d)<a)/\∃(I:Int×Int×Unit->Prop),∃(μ: _->Nat),I (i64.wrap ((32:Int)*i64.wrap (a-d)),gx c r.1 (i64.wrap (a-d)),())/\∀(p:Int×Int×Unit),let b:=(i64.wrap (p.1+d),Int.fdiv p.2.1 ((2:Int)^Min.min d.toNat u32.bits),());(Ty.int i64).wf p.1/\(Ty.int u32).wf p.2.1/\True->I p->(iB (decide (c<p.2.1)) ((0:(Ty.int u64).den)<=d/\I b/\μ b<μ p) (p.1=e))))
def UH:A2 Qc.args->Prop:=fun(x:List Int×Int×Unit)=>let e:=(x.1.length:Int);let d:=(0:Int);let c:=(↑(nv x.1/(2:Nat)^x.2.1.toNat%(2:Nat)):Int);let a:=(32:Int);let b:Prop:=(e<=i64.wrap (Int.tdiv x.2.1 a));a≠d/\(iB (decide b) (d=c) (a≠d/\(d<=i64.wrap (Int.tdiv x.2.1 a)/\i64.wrap (Int.tdiv x.2.1 a)<e)/\a≠d/\(0:(Ty.int u64).den)<=u64.wrap (Int.tmod x.2.1 a)/\u32.wrap (↑(BitVec.ofInt u32.bits ((gx d x.1 (i64.wrap (Int.tdiv x.2.1 a))).fdiv ((2:Int)^Min.min (u64.wrap (Int.tmod x.2.1 a)).toNat u32.bits))&&&BitVec.ofInt u32.bits (1:Int)).toNat:Int)=c))
def CK:A2 Fy.args->Prop:=fun(x:List Int×List Int×Unit)=>let j:=(0:Nat);let m:Prop:=(nv x.2.1=j->true=false);let i:=(1:Int);let h:=(nv x.1%nv x.2.1);let g:=(nv x.1/nv x.2.1);let f:=(32:Int);let d:=(18446744073709551616:Nat);let c:=(0:Int);let b:=(x.1.length:Int);Gu x.2.1/\∀(r:List Int×Unit),let l:=(r.1.length:Int);I5 r.1/\True->r.1=nc (nv x.2.1)->(iB (decide (l=c)) ((nv x.2.1=j->false=false)/\(nv x.2.1≠j->Bq Int=nc g/\Bq Int=nc h/\false=true)) (Gu x.1/\∀(s:Int×Bool×Unit),Gy s.1/\True/\True->(nv x.1<d->s.1=(↑(nv x.1):Int)/\s.2.1=true)/\(d<=nv x.1->s.2.1=false)->Gu r.1/\∀(o:Int×Bool×Unit),Gy o.1/\True/\True->(nv r.1<d->o.1=(↑(nv r.1):Int)/\o.2.1=true)/\(d<=nv r.1->o.2.1=false)->(iB (K7 s.2.1 o.2.1 false) (o.1≠c/\o.1≠c/\True/\∀(r:List Int×Unit),I5 r.1/\True->r.1=nc (u64.wrap (Int.tdiv s.1 o.1)).toNat->True/\∀(t:List Int×Unit),I5 t.1/\True->t.1=nc (Int.tmod s.1 o.1).toNat->m/\(nv x.2.1≠j->r.1=nc g/\t.1=nc h/\true=true)) ((c<=b/\b<=b/\(↑(4:Nat):Int)*b<=(281474976710656:Int)/\b<=(9223372036854775807:Int))/\E6 x.1/\∀(t:Int×Unit),D2 t.1/\True->t.1=(↑(I7 (nv x.1)):Int)->∃(I:List Int×Int×List Int×Unit->Prop),∃(μ: _->Nat),I ([],i64.wrap (t.1-i),List.replicate b.toNat c,())/\∀(p:List Int×Int×List Int×Unit),let k:=(i64.wrap (Int.tdiv p.2.1 f));let a:Prop:=(c<=i64.wrap (Int.tdiv p.2.1 f)/\i64.wrap (Int.tdiv p.2.1 f)<(p.2.2.1.length:Int));(Ty.int u32).sl.wf p.1/\(Ty.int i64).wf p.2.1/\I5 p.2.2.1/\True->I p->(iB (decide (c<=p.2.1)) (∃(J:List Int×List Int×Unit->Prop),((E6 p.1/\E6 p.1)/\∀(q:List Int×Unit),I5 q.1/\True->q.1=nc (nv p.1+nv p.1)->∃(J_1:List Int×Unit->Prop),(c<=p.2.1/\∀(r:Int×Unit),(u32.min<=r.1/\r.1<=u32.max)/\True->r.1=(↑(nv x.1/(2:Nat)^Int.toNat p.2.1%(2:Nat)):Int)->(iB (decide (r.1=i)) ((E6 q.1/\E6 [i])/\∀(r:List Int×Unit),I5 r.1/\True->r.1=nc (nv q.1+nv [i])->J_1 r) (J_1 q)))/\∀(n:List Int×Unit),(Ty.int u32).sl.wf n.1/\True->J_1 n->(E6 n.1/\E6 r.1)/\∀(u:List Int×Bool×Unit),I5 u.1/\True/\True->(nv n.1<nv r.1->u.1= []/\u.2.1=false)/\(nv r.1<=nv n.1->u.1=nc (nv n.1-nv r.1)/\u.2.1=true)->(iB u.2.1 (f≠c/\a/\f≠c/\(0:(Ty.int u64).den)<=u64.wrap (Int.tmod p.2.1 f)/\a/\J (u.1,List.set p.2.2.1 k.toNat (u32.wrap (↑(BitVec.ofInt u32.bits (List.getD p.2.2.1 k.toNat c) |||BitVec.ofInt u32.bits (u32.wrap (i*(2:Int)^Min.min (u64.wrap (Int.tmod p.2.1 f)).toNat u32.bits))).toNat:Int)),())) (J (n.1,p.2.2.1,()))))/\∀(n:List Int×List Int×Unit),let e:=(n.1,i64.wrap (p.2.1-i),n.2.1,());(Ty.int u32).sl.wf n.1/\I5 n.2.1/\True->J n->I e/\μ e<μ p) (Gu p.2.2.1/\∀(r:List Int×Unit),I5 r.1/\True->r.1=nc (nv p.2.2.1)->Gu p.1/\∀(q:List Int×Unit),I5 q.1/\True->q.1=nc (nv p.1)->m/\(nv x.2.1≠j->r.1=nc g/\q.1=nc h/\true=true)))))))
def UC:A2 Pz.args->Prop:=fun(x:List Int×List Int×Unit)=>Gu x.1/\∀(r:List Int×Unit),I5 r.1/\True->r.1=nc (nv x.1)->Gu x.2.1/\∀(c:List Int×Unit),I5 c.1/\True->c.1=nc (nv x.2.1)->∃(I:List Int×List Int×Unit->Prop),∃(μ: _->Nat),I (r.1,c)/\∀(p:List Int×List Int×Unit),let a:Prop:=((0:Int)<(p.2.1.length:Int));(Ty.int u32).sl.wf p.1/\(Ty.int u32).sl.wf p.2.1/\True->I p->(iB (decide a) ((Ae p.1/\Ae p.2.1)/\∀(r:List Int×List Int×Bool×Unit),let b:=(p.2.1,r.2.1,());I5 r.1/\I5 r.2.1/\True/\True->(nv p.2.1=0->r.2.2.1=false)/\(nv p.2.1≠0->r.1=nc (nv p.1/nv p.2.1)/\r.2.1=nc (nv p.1%nv p.2.1)/\r.2.2.1=true)->I b/\μ b<μ p) (p.1=nc ((nv x.1).gcd (nv x.2.1))))
def UB (x:A2 Ld.args) (hw:awf Ld.args x) (hp:Ld.pre x):MO x:=by
 obtain⟨a,_⟩:=x;have ha:A5 a:=A3 hw.1.2;change List Int at a;have la:a.length<=17592186044416:=hp;have n1:=C7 ha;have a2:=lW ha;simp only[MO,iB];refine⟨by show a.length<=35184372088832;omega, ?_⟩;rintro⟨r,_⟩ _ u;simp only at u⊢;have a1:nv r=nv a:=by rw[u,E1]
 have a0:A5 r:=u▸H9 _;refine⟨fun h=> ?_,fun h=> ?_⟩
 . have h:=qA h;have h0:nv a=0:=by rw[<-a1,qO (l:=r) (by omega)];rfl
   rw[h0];rfl
 . have h:=qB h;have a3:r.length<=a.length:=by rw[u];exact n1
   have h0:nv a≠0:=fun e=>h (by rw[u,e,N4];rfl)
   have ht:=A1s h0;rw[<-u]at ht;rw[wv (a:=(r.length:Int)-1) (by omega),wv (a:=32*((r.length:Int)-1)) (by omega),Eu a0 (by omega) (by omega),show((r.length:Int)-1).toNat=r.length-1 from by omega];have hd:=K6 a0 (r.length-1);refine⟨⟨by omega,by omega⟩,fun p=>0<=p.1/\0<=p.2.1/\p.1+(I7 p.2.1.toNat:Int)=(I7 (nv a):Int),fun p=>p.2.1.toNat,⟨by show(0:Int)<=32*((r.length:Int)-1);omega,qD _, ?_⟩, ?_⟩
   . show 32*((r.length:Int)-1)+(I7 ((dg r (r.length-1):Nat):Int).toNat:Int)= _;rw[qJ,ht];omega
   rintro⟨n,v,_⟩ _ ⟨h1,h2,h3⟩;change Int at n v;simp only at h1 h2 h3⊢;refine⟨fun h4=> ?_,fun h4=> ?_⟩
   . have h4:=qA h4;have hh:=oE (n:=v.toNat) (by omega);have e:Int.fdiv v (2^Min.min (Int.toNat 1) u32.bits)=v/2:=by
      show Int.fdiv v (2^1)= _;rw[sD _ (by decide)];rfl
     rw[e,wv (a:=n+1) (by omega)];refine⟨by decide,⟨by omega,by omega, ?_⟩,by omega⟩;rw[show(v/2).toNat=v.toNat/2 from by omega];omega
   . have h4:=qB h4;rw[show v.toNat=0 from by omega,Zd]at h3;omega
def VY (x:A2 Qc.args) (hw:awf Qc.args x) (hp:Qc.pre x):UH x:=by
 obtain⟨a,n,_⟩:=x;have u:A5 a:=A3 hw.1.2;have hn:=(show i64.min<=n/\n<=i64.max from hw.2.1);rw[Ru,Zp]at hn;change List Int at a;change Int at n;have a1: -9223372036854775808<=n/\n<=9223372036854775807:=hn;have n0:0<=n:=hp;simp only[UH,iB];have e1:i64.wrap (Int.tdiv n 32)=((n.toNat/32:Nat):Int):=by
  rw[yD n0,wv (by omega)];omega
 have e2:u64.wrap (Int.tmod n 32)=((n.toNat%32:Nat):Int):=by
  rw[tT n0,W0 (by omega) (by omega)];omega
 rw[e1,e2];have hb:=A6x u n.toNat;refine⟨by decide,fun h=> ?_,fun h=> ?_⟩
 . have h:=qA h;rw[Nu (by omega),g3c]at hb;rw[<-hb];rfl
 . have h:=qB h;have h5:n.toNat%32<=31:=by omega
   refine⟨by decide,⟨by omega,by omega⟩,by decide,qD _, ?_⟩;rw[qJ,show Min.min (n.toNat%32) u32.bits=n.toNat%32 from by show Min.min (n.toNat%32) 32= _;omega];rw[Eu u (by omega) (by omega),qJ, <-hb];have hd:=K6 u (n.toNat/32);have e3:Int.fdiv (dg a (n.toNat/32):Int) (2^(n.toNat%32))=((dg a (n.toNat/32)/2^(n.toNat%32):Nat):Int):=by
    rw[show((2:Int)^(n.toNat%32))=((2^(n.toNat%32):Nat):Int)from by rw[xB];rfl,sD _ (qD _)];rfl
   have a0:dg a (n.toNat/32)/2^(n.toNat%32)<=dg a (n.toNat/32):=wO _ _;rw[e3];generalize dg a (n.toNat/32)/2^(n.toNat%32)=Z at*;rw[show u32.bits=32 from rfl,oC (qD _) (by omega),w32 (by omega) (by omega),qJ]
def LB (x:A2 Fy.args) (hw:awf Fy.args x) (hp:Fy.pre x):CK x:=by
 obtain⟨a,b,_⟩:=x;have ha:A5 a:=A3 hw.1.2;have hb:A5 b:=A3 hw.2.1.2;change List Int at a b;obtain⟨la,lb⟩:a.length<=8796093022208/\b.length<=8796093022208:=hp;have n2:=C7 hb;simp only[CK,iB];refine⟨by show b.length<=35184372088832;omega, ?_⟩;rintro⟨d,_⟩ _ hd;simp only at hd⊢;have ac:nv d=nv b:=by rw[hd,E1]
 have ar:d.length<=b.length:=by rw[hd];exact n2
 refine⟨fun h=> ?_,fun h=> ?_⟩
 . have h:=qA h;have h0:nv b=0:=by rw[<-ac,qO (l:=d) (by omega)];rfl
   exact⟨fun _=>by trivial,fun h1=>absurd h0 h1⟩
 have h:=qB h;have a3:nv b≠0:=fun e=>h (by rw[hd,e,N4];rfl)
 refine⟨by show a.length<=35184372088832;omega, ?_⟩;rintro⟨u,su,_⟩ ⟨ab,_⟩ ⟨u1,u2⟩;refine⟨by show d.length<=35184372088832;omega, ?_⟩;rintro⟨v,sv,_⟩ _ ⟨v1,v2⟩;change Int at u v;change Bool at su sv;simp only at u1 u2 v1 v2 ab⊢;rw[ac]at v1 v2;refine⟨fun hs=> ?_,fun _=> ?_⟩
 . rw[L8,qC]at hs;have a1:nv a<18446744073709551616:=by
    rcases sF (nv a) 18446744073709551616 with h1|h1
    . exact h1
    . rw[u2 h1]at hs;exact absurd hs.1 (by decide)
   have a2:nv b<18446744073709551616:=by
    rcases sF (nv b) 18446744073709551616 with h1|h1
    . exact h1
    . rw[v2 h1]at hs;exact absurd hs.2 (by decide)
   have hu:=(u1 a1).1;have hv:=(v1 a2).1;have e1:Int.tdiv u v=((nv a/nv b:Nat):Int):=by rw[hu,hv];rfl
   have e2:Int.tmod u v=((nv a%nv b:Nat):Int):=by rw[hu,hv];rfl
   have hq:nv a/nv b<=nv a:=wO _ _;refine⟨by omega,by omega,trivial, ?_⟩;rintro⟨q,_⟩ _ a5;refine⟨trivial, ?_⟩;rintro⟨m,_⟩ _ hm;simp only at a5 hm⊢;refine⟨fun h0=>absurd h0 a3,fun _=>⟨?_, ?_,by trivial⟩⟩
   . rw[a5,e1];generalize nv a/nv b=Q at*;rw[W0 (by omega) (by omega)];rfl
   . rw[hm,e2];rfl
 . refine⟨⟨by omega,qI _,by omega,by omega⟩,by show a.length<=17592186044416;omega, ?_⟩;rintro⟨n,_⟩ _ hn;change Int at n;simp only at hn⊢;have ap:=lW ha;have a9:=ZI (nv a);rw[hn,wv (a:=(I7 (nv a):Int)-1) (by omega)];clear hn u1 u2 v1 v2 ab;refine⟨fun p=> -1<=p.2.1/\p.2.1<=(I7 (nv a):Int)-1/\p.1=nc (nv a/2^(p.2.1+1).toNat%nv b)/\nv p.2.2.1=nv a/2^(p.2.1+1).toNat/nv b*2^(p.2.1+1).toNat/\p.2.2.1.length=a.length,fun p=>(p.2.1+1).toNat,⟨by show(-1:Int)<=(I7 (nv a):Int)-1;omega,qI _, ?_, ?_, ?_⟩, ?_⟩
   . show []= _;rw[show(((I7 (nv a):Int)-1)+1).toNat=I7 (nv a)from by omega,tX a9,Nat.zero_mod,N4]
   . show nv (List.replicate _ 0)= _;rw[Ph,show(((I7 (nv a):Int)-1)+1).toNat=I7 (nv a)from by omega,tX a9,g3c,xP]
   . show(List.replicate _ 0).length= _;simp
   rintro⟨r,i,q,_⟩ ⟨_,_,ak,_⟩ ⟨i0,i1,hr,hq,ae⟩;change List Int at r q;change Int at i;have ad:A5 q:=A3 ak.2;simp only at i0 i1 hr hq ae⊢;refine⟨fun hi=> ?_,fun hi=> ?_⟩
   . have hi:=qA hi;obtain⟨b0,b1,b2⟩:=A1r (a:=nv a) (b:=nv b) (i:=i.toNat) a3;rw[show(i+1).toNat=i.toNat+1 from by omega]at hr hq;have aa:nv a/2^(i.toNat+1)%nv b<nv b:=vX _ (sP a3);have am:nv a/2^i.toNat%2<2:=vX _ (by decide);have a8:nv r=nv a/2^(i.toNat+1)%nv b:=by rw[hr,E1]
     rw[<-a8]at b1 b2 aa;have ai:r.length<=8796093022208:=by
      have:=I2 (vW aa);rw[a8, <-hr]at this;omega
     have aj:r=nc (nv r):=by rw[a8];exact hr
     clear hr a8;generalize hM:nv a/2^(i.toNat+1)/nv b=M at*;generalize aq:nv a/2^i.toNat%2=bt at*;have e1:i64.wrap (Int.tdiv i 32)=((i.toNat/32:Nat):Int):=by
      rw[yD hi,wv (by omega)];omega
     have e2:u64.wrap (Int.tmod i 32)=((i.toNat%32:Nat):Int):=by
      rw[tT hi,W0 (by omega) (by omega)];omega
     have h5:i.toNat%32<=31:=by omega
     have ah:i.toNat/32<q.length:=by omega
     rw[e1,e2,wv (a:=i-1) (by omega)];refine⟨fun p=>p.1=nc (nv a/2^i.toNat%nv b)/\nv p.2.1=nv a/2^i.toNat/nv b*2^i.toNat/\p.2.1.length=a.length,⟨⟨by show r.length<= _;omega,by show r.length<= _;omega⟩, ?_⟩, ?_⟩
     . rintro⟨r2,_⟩ _ a6;simp only at a6⊢;have l2:r2.length<=8796093022209:=by
        have:=KC (nv r) (nv r);rw[a6];rw[<-aj]at this;omega
       refine⟨fun p=>p.1=nc (2*nv r+bt),⟨hi, ?_⟩, ?_⟩
       . rintro⟨z,_⟩ _ hz;simp only at hz⊢;refine⟨fun h1=> ?_,fun h1=> ?_⟩
         . have h1:=qA h1;refine⟨⟨by show r2.length<= _;omega,by show([1]:List Int).length<= _;decide⟩, ?_⟩;rintro⟨r3,_⟩ _ a0;simp only at a0⊢;rw[a0,a6,E1,B1g];congr 1;omega
         . have h1:=qB h1;show r2= _;rw[a6];congr 1;omega
       rintro⟨r3,_⟩ _ a0;simp only at a0⊢;have ag:nv r3=2*nv r+bt:=by rw[a0,E1]
       have l3:r3.length<=8796093022210:=by
        have e:2*nv r+bt<=(nv r+nv r)+(nv r+nv r)\/nv r=0:=by omega
        rw[a0];rcases e with e|e
        . have a1:=I2 e;have a2:=KC (nv r+nv r) (nv r+nv r);rw[<-a6]at a2;omega
        . have a1:=I2 (m:=2*nv r+bt) (n:=1) (by omega);rw[Sd]at a1;have:([1]:List Int).length=1:=rfl;omega
       refine⟨⟨by show r3.length<= _;omega,by show d.length<= _;omega⟩, ?_⟩;rintro⟨r5,ok,_⟩ _ a7;change Bool at ok;simp only at a7⊢;rw[ag,ac]at a7;refine⟨fun a4=> ?_,fun a4=> ?_⟩
       . have af:nv b<=2*nv r+bt:=by
          rcases sF (2*nv r+bt) (nv b)with h1|h1
          . rw[(a7.1 h1).2]at a4;exact absurd a4 (by decide)
          . exact h1
         rw[rB af]at b1 b2;obtain⟨bb,s1,s2⟩:=A8y (q:=q) ad (M:=M) (i:=i.toNat) hq ah;have ao:=K6 ad (i.toNat/32);obtain⟨o1,o2⟩:=A4w (d:=dg q (i.toNat/32)) (b:=bb) (s:=i.toNat%32) s1 (by omega) h5;refine⟨by decide,⟨by omega,by omega⟩,by decide,qD _,⟨by omega,by omega⟩, ?_, ?_, ?_⟩
         . show r5= _;rw[(a7.2 af).1,b2]
         . show nv (q.set _ _)= _;rw[qJ,qJ,show Min.min (i.toNat%32) u32.bits=i.toNat%32 from by show Min.min (i.toNat%32) 32= _;omega];rw[W8 ad,Int.one_mul,show((2:Int)^(i.toNat%32))=((2^(i.toNat%32):Nat):Int)from by rw[xB];rfl];have aw:2^(i.toNat%32)<=2^31:=rW (by decide) h5;have av:(0:Int)<=((2^(i.toNat%32):Nat):Int):=qD _;rw[w32 (a:=((2^(i.toNat%32):Nat):Int)) (by omega) (by omega),show u32.bits=32 from rfl,o1,w32 (by omega) (by omega),s2,b1]
         . show(q.set _ _).length= _;rw[qL];exact ae
       . have au:2*nv r+bt<nv b:=by
          rcases sF (2*nv r+bt) (nv b)with h1|h1
          . exact h1
          . rw[(a7.2 h1).2]at a4;exact absurd a4 (by decide)
         rw[qT (by omega)]at b1 b2;refine⟨?_, ?_,ae⟩
         . show r3= _;rw[a0,b2,g1u]
         . show nv q= _;rw[hq,b1,tA,rZ];grind
     . rintro⟨r',q',_⟩ _ ⟨j1,j2,j3⟩;simp only at j1 j2 j3⊢;refine⟨⟨by omega,by omega, ?_, ?_,j3⟩,by omega⟩
       . rw[show i-1+1=i from by omega];exact j1
       . rw[show i-1+1=i from by omega];exact j2
   . have hi:=qB hi;rw[show(i+1).toNat=0 from by omega,g3b,g2j]at hr hq;rw[yG]at hq;have ai:r.length<=8796093022208:=by
      have:=I2 (vW (vX (nv a) (sP a3)));rw[<-hr]at this;omega
     refine⟨by show q.length<= _;omega, ?_⟩;rintro⟨q',_⟩ _ a5;refine⟨by show r.length<= _;omega, ?_⟩;rintro⟨r',_⟩ _ hr';simp only at a5 hr'⊢;refine⟨fun h=>absurd h a3,fun _=>⟨by rw[a5,hq],by rw[hr',hr,E1],by trivial⟩⟩
def VV (x:A2 Pz.args) (hw:awf Pz.args x) (hp:Pz.pre x):UC x:=by
 obtain⟨a,b,_⟩:=x;have ha:A5 a:=A3 hw.1.2;have hb:A5 b:=A3 hw.2.1.2;change List Int at a b;obtain⟨la,lb⟩:a.length<=8796093022208/\b.length<=8796093022208:=hp;have n1:=C7 ha;have n2:=C7 hb;simp only[UC,iB];refine⟨by show a.length<=35184372088832;omega, ?_⟩;rintro⟨r,_⟩ _ hr;refine⟨by show b.length<=35184372088832;omega, ?_⟩;rintro⟨s,_⟩ _ hs;simp only at hr hs⊢;refine⟨fun p=>p.1=nc (nv p.1)/\p.2.1=nc (nv p.2.1)/\Nat.gcd (nv p.1) (nv p.2.1)=Nat.gcd (nv a) (nv b)/\p.1.length<=8796093022208/\p.2.1.length<=8796093022208,fun p=>nv p.2.1,⟨by show r=nc (nv r);rw[hr,E1],by show s=nc (nv s);rw[hs,E1],by show Nat.gcd (nv r) (nv s)= _;rw[hr,hs,E1,E1],by show r.length<= _;rw[hr];omega,by show s.length<= _;rw[hs];omega⟩, ?_⟩;rintro⟨u,v,_⟩ _ ⟨e1,e2,hg,l1,l2⟩;change List Int at u v;simp only at e1 e2 hg l1 l2⊢;refine⟨fun h=> ?_,fun h=> ?_⟩
 . have h:=qA h;have a3:0<nv v:=by
    rcases uY (nv v)with h1|h1
    . rw[h1,N4]at e2;rw[e2]at h;exact absurd h (by simp)
    . exact h1
   refine⟨⟨l1,l2⟩, ?_⟩;rintro⟨q,m,ok,_⟩ _ a2;simp only at a2⊢;obtain⟨_,hm,_⟩:=a2.2 (by omega);have a0:nv m=nv u%nv v:=by rw[hm,E1]
   have a1:=vX (nv u) a3;refine⟨⟨e2,by rw[a0];exact hm, ?_,l2, ?_⟩,by rw[a0];exact a1⟩
   . rw[a0, <-hg,wP (nv u),wP (nv v)];exact(g2k (nv v) (nv u)).symm
   . have:=I2 (vW a1);rw[<-hm, <-e2]at this;omega
 . have h:=qB h;have h0:nv v=0:=by rw[qO (l:=v) (by omega)];rfl
   rw[h0,g0q]at hg;rw[e1,hg]
def cL:An:= {}
def cM:An:= {}
def ZD:An:= {}
def PT:An:= {}
def cN:An:= {}
def iW:An:= {}
def iS:An:= {}
def iT:An:= {plan:= [(2,[1,3,5],[8],true,(.p 0 (.q 1 (.p 2 (.q 3 (.p 4 (.q 5 (.e 6 (.e 7 (.e 8 .done))))))))))]}
def iX:An:= {plan:= [(1,[0,1],[4],true,(.q 0 (.q 1 (.e 2 (.e 3 (.e 4 .done))))))]}
def iV:An:= {plan:= [(1,[1,3,6,8],[11],true,(.p 0 (.q 1 (.p 2 (.q 3 (.p 4 (.p 5 (.q 6 (.p 7 (.q 8 (.e 9 (.e 10 (.e 11 .done)))))))))))))]}
def iU:An:= {}
def VJ:An:= {join:= [(10,⟨[4,5],[],[],[(2,36,[.val .bool, .val (.sl (.int .u32))]),(3,36,[.val .bool, .val (.sl (.int .u32))])],[]⟩)],plan:= [(4,[1,3,8],[11,12],true,(.p 0 (.q 1 (.p 2 (.q 3 (.p 4 (.p 5 (.p 7 (.q 8 (.p 9 (.e 6 (.e 10 (.e 11 (.e 12 .done)))))))))))))),(6,[0,1],[4],true,(.q 0 (.q 1 (.e 2 (.e 3 (.e 4 .done)))))),(8,[0],[3],true,(.q 0 (.e 1 (.e 2 (.e 3 .done))))),(9,[0],[3],true,(.q 0 (.e 1 (.e 2 (.e 3 .done))))),(10,[0],[2,3],false,(.q 0 (.or 1 (.e 2 (.e 3 (.p 4 .done))) (.e 2 (.e 1 (.e 3 (.p 4 .done)))))))]}
def MQ:A2 Lf.args->Prop:=fun(x:Bool×List Int×Unit)=>Gu x.2.1/\∀(r:List Int×Unit),I5 r.1/\True->r.1=nc (nv x.2.1)->(K7 x.1 (decide ((0:Int)<(r.1.length:Int))) false,r.1)=ic (iv (x.1,x.2.1))
def MR:A2 Lg.args->Prop:=fun(x:(Bool×List Int)×Unit)=>Gu x.1.2/\∀(r:(Bool×List Int)×Unit),H4 r.1/\True->r.1=ic (iv x.1)->r.1=ic (iv x.1)
def IA:A2 Ik.args->Prop:=fun(x:(Bool×List Int)×(Bool×List Int)×Unit)=>((x.1.1==x.2.1.1)=true->True)/\∀(r:Bool×Unit),((x.1.1==x.2.1.1)=true->(True/\True)/\r.1=decide (x.1.2=x.2.1.2))->K7 (x.1.1==x.2.1.1) r.1 false=decide (x.1=x.2.1)
def Yl:A2 Ed.args->Prop:=fun(x:Int×Unit)=>(iB (decide (x.1<0)) (True/\∀(r:List Int×Unit),I5 r.1/\True->r.1=nc (u64.wrap (u64.wrap (i64.wrap (-i64.wrap (x.1+1)))+(1:Int))).toNat->Gu r.1/\∀(a:(Bool×List Int)×Unit),H4 a.1/\True->a.1=ic (iv (true,r.1))->a.1=ic x.1) (True/\∀(r:List Int×Unit),I5 r.1/\True->r.1=nc (u64.wrap x.1).toNat->Gu r.1/\∀(a:(Bool×List Int)×Unit),H4 a.1/\True->a.1=ic (iv (false,r.1))->a.1=ic x.1))
def MS:A2 Lh.args->Prop:=fun(x:(Bool×List Int)×Unit)=>let b:=(iv x.1);Gu x.1.2/\∀(r:(Bool×List Int)×Unit),let a:Prop:=((r.1.2.length:Int)=(0:Int));H4 r.1/\True->r.1=ic b->(iB r.1.1 ((-1:Int)=b.sign) ((iB (decide a) ((0:Int)=b.sign) ((1:Int)=b.sign))))
def UN:A2 Qh.args->Prop:=fun(x:(Bool×List Int)×Unit)=>Gu x.1.2/\∀(r:(Bool×List Int)×Unit),H4 r.1/\True->r.1=ic (iv (!x.1.1,x.1.2))->r.1=ic (-iv x.1)
def UI:A2 Qd.args->Prop:=fun(x:(Bool×List Int)×Unit)=>Gu x.1.2/\∀(r:(Bool×List Int)×Unit),H4 r.1/\True->r.1=ic (iv (false,x.1.2))->r.1=ic (↑(iv x.1).natAbs:Int)
def UJ:A2 Qe.args->Prop:=fun(x:(Bool×List Int)×(Bool×List Int)×Unit)=>let b:Prop:=(E6 x.1.2/\E6 x.2.1.2);let a:=(iv x.1+iv x.2.1);(iB ((x.1.1==x.2.1.1)) (b/\∀(r:List Int×Unit),I5 r.1/\True->r.1=nc (nv x.1.2+nv x.2.1.2)->Gu r.1/\∀(c:(Bool×List Int)×Unit),H4 c.1/\True->c.1=ic (iv (x.1.1,r.1))->c.1=ic a) (b/\∀(r:List Int×Bool×Unit),I5 r.1/\True/\True->(nv x.1.2<nv x.2.1.2->r.1= []/\r.2.1=false)/\(nv x.2.1.2<=nv x.1.2->r.1=nc (nv x.1.2-nv x.2.1.2)/\r.2.1=true)->(iB r.2.1 (Gu r.1/\∀(c:(Bool×List Int)×Unit),H4 c.1/\True->c.1=ic (iv (x.1.1,r.1))->c.1=ic a) ((E6 x.2.1.2/\E6 x.1.2)/\∀(r:List Int×Bool×Unit),I5 r.1/\True/\True->(nv x.2.1.2<nv x.1.2->r.1= []/\r.2.1=false)/\(nv x.1.2<=nv x.2.1.2->r.1=nc (nv x.2.1.2-nv x.1.2)/\r.2.1=true)->Gu r.1/\∀(c:(Bool×List Int)×Unit),H4 c.1/\True->c.1=ic (iv (x.2.1.1,r.1))->c.1=ic a))))
def UQ:A2 Qi.args->Prop:=fun(x:(Bool×List Int)×(Bool×List Int)×Unit)=>Gu x.2.1.2/\∀(r:(Bool×List Int)×Unit),H4 r.1/\True->r.1=ic (-iv x.2.1)->(E6 x.1.2/\E6 r.1.2)/\∀(a:(Bool×List Int)×Unit),H4 a.1/\True->a.1=ic (iv x.1+iv r.1)->a.1=ic (iv x.1-iv x.2.1)
def UM:A2 Qg.args->Prop:=fun(x:(Bool×List Int)×(Bool×List Int)×Unit)=>(E6 x.1.2/\E6 x.2.1.2)/\∀(r:List Int×Unit),I5 r.1/\True->r.1=nc (nv x.1.2*nv x.2.1.2)->Gu r.1/\∀(a:(Bool×List Int)×Unit),H4 a.1/\True->a.1=ic (iv (x.1.1 !=x.2.1.1,r.1))->a.1=ic (iv x.1*iv x.2.1)
def UK:A2 Qf.args->Prop:=fun(x:(Bool×List Int)×(Bool×List Int)×Unit)=>(Ae x.1.2/\Ae x.2.1.2)/\∀(r:List Int×Unit),I5 r.1/\True->r.1=nc ((nv x.1.2).gcd (nv x.2.1.2))->Gu r.1/\∀(a:(Bool×List Int)×Unit),H4 a.1/\True->a.1=ic (iv (false,r.1))->a.1=ic (↑((nv x.1.2).gcd (nv x.2.1.2)):Int)
def CM:A2 Ga.args->Prop:=fun(x:(Bool×List Int)×(Bool×List Int)×Unit)=>let c:=(iv x.1%iv x.2.1);let b:=(iv x.1/iv x.2.1);(Ae x.1.2/\Ae x.2.1.2)/\∀(r:List Int×List Int×Bool×Unit),I5 r.1/\I5 r.2.1/\True/\True->(nv x.2.1.2=0->r.2.2.1=false)/\(nv x.2.1.2≠0->r.1=nc (nv x.1.2/nv x.2.1.2)/\r.2.1=nc (nv x.1.2%nv x.2.1.2)/\r.2.2.1=true)->(iB ((!r.2.2.1)) (iv x.2.1≠0->(false,[])=ic b/\(false,[])=ic c/\false=true) (Gu r.1/\∀(e:(Bool×List Int)×Unit),H4 e.1/\True->e.1=ic (iv (x.1.1 !=x.2.1.1,r.1))->Gu r.2.1/\∀(f:(Bool×List Int)×Unit),H4 f.1/\True->f.1=ic (iv (x.1.1,r.2.1))->∃(J:Bool×List Int×Bool×List Int×Unit->Prop),((iB f.1.1 (Gu x.2.1.2/\∀(r:(Bool×List Int)×Unit),H4 r.1/\True->r.1=ic (↑(iv x.2.1).natAbs:Int)->(E6 f.1.2/\E6 r.1.2)/\∀(g:(Bool×List Int)×Unit),H4 g.1/\True->g.1=ic (iv f.1+iv r.1)->(iB x.2.1.1 (True/\∀(r:(Bool×List Int)×Unit),H4 r.1/\True->r.1=ic (1:Int)->(E6 e.1.2/\E6 r.1.2)/\∀(d:(Bool×List Int)×Unit),H4 d.1/\True->d.1=ic (iv e.1+iv r.1)->J (d.1.1,d.1.2,g.1.1,g.1.2,())) (True/\∀(r:(Bool×List Int)×Unit),H4 r.1/\True->r.1=ic (1:Int)->(E6 e.1.2/\E6 r.1.2)/\∀(d:(Bool×List Int)×Unit),H4 d.1/\True->d.1=ic (iv e.1-iv r.1)->J (d.1.1,d.1.2,g.1.1,g.1.2,())))) (J (e.1.1,e.1.2,f.1.1,f.1.2,()))))/\∀(p:Bool×List Int×Bool×List Int×Unit),let a:Prop:=(iv x.2.1≠0->(p.1,p.2.1)=ic b/\(p.2.2.1,p.2.2.2.1)=ic c/\true=true);Ty.bool.wf p.1/\(Ty.int u32).sl.wf p.2.1/\Ty.bool.wf p.2.2.1/\(Ty.int u32).sl.wf p.2.2.2.1/\True->J p->a/\a))
def UL (x:A2 Lf.args) (hw:awf Lf.args x) (hp:Lf.pre x):MQ x:=by
 obtain⟨b,l,_⟩:=x;change Bool at b;change List Int at l;have hl:l.length<=35184372088832:=hp;simp only[MQ];refine⟨by omega, ?_⟩;rintro⟨r,_⟩ _ u;simp only at u⊢;rw[B2w,u,L8];have e:decide ((0:Int)<((nc (nv l)).length:Int))=decide (nv l≠0):=by
  rw[vC];constructor
  . intro h h0;rw[h0,N4]at h;simp at h
  . intro h;have:(nc (nv l)).length≠0:=fun h1=>h (Wl.1 (qO h1))
    omega
 rw[e]
def UO (x:A2 Lg.args) (hw:awf Lg.args x) (u:Lg.pre x):MR x:=by
 simp only[MR];exact⟨u,fun r _ h=>h⟩
def OF (x:A2 Ik.args) (hw:awf Ik.args x) (hp:Ik.pre x):IA x:=by
 obtain⟨⟨a,l⟩,⟨b,m⟩,_⟩:=x;change Bool at a b;change List Int at l m;simp only[IA];refine⟨fun _=>trivial, ?_⟩;rintro⟨r,_⟩ u;simp only at u⊢;by_cases h:a=b
 . subst h;have:=(u (by simp)).2;rw[this];simp[K7]
 . have:(a==b)=false:=by simpa using h
   rw[this];simp[K7,h]
def IB (x:A2 Ed.args) (hw:awf Ed.args x) (_:Ed.pre x):Yl x:=by
 obtain⟨v,_⟩:=x;change Int at v;have hv:i64.min<=v/\v<=i64.max:=hw.1;rw[Ru,Zp]at hv;have u:∀n:Nat,n<=9223372036854775808->Gu (nc n):=fun n hn=>by
  have:(nc n).length<=2:=Fl (by omega);show _ <=35184372088832;omega
 simp only[Yl,iB];refine⟨fun h=>⟨trivial, ?_⟩,fun h=>⟨trivial, ?_⟩⟩
 . have h:=qA h;rintro⟨r,_⟩ _ hr;simp only at hr⊢;have e:(u64.wrap (u64.wrap (i64.wrap (-i64.wrap (v+1)))+1)).toNat=v.natAbs:=by
    rw[wv (a:=v+1) (by omega),wv (by omega),W0 (a:= -(v+1)) (by omega) (by omega),W0 (by omega) (by omega)];omega
   rw[e]at hr;subst hr;refine⟨u _ (by omega), ?_⟩;rintro⟨s,_⟩ _ u;simp only at u⊢;rw[u,RI,E1];congr 1;omega
 . have h:=qB h;rintro⟨r,_⟩ _ hr;simp only at hr⊢;have e:(u64.wrap v).toNat=v.natAbs:=by rw[Bp];omega
   rw[e]at hr;subst hr;refine⟨u _ (by omega), ?_⟩;rintro⟨s,_⟩ _ u;simp only at u⊢;rw[u,Jc,E1];congr 1;omega
def UP (x:A2 Lh.args) (hw:awf Lh.args x) (hp:Lh.pre x):MS x:=by
 obtain⟨a,_⟩:=x;simp only[MS,iB];refine⟨hp, ?_⟩;rintro⟨r,_⟩ _ hr;simp only at hr⊢;subst hr;generalize iv a=v;refine⟨fun h=> ?_,fun h=>⟨fun u=> ?_,fun u=> ?_⟩⟩
 . have h:v<0:=qA h;exact(wV h).symm
 . have u:=qA u;have:nc v.natAbs= []:=qO (by show(ic v).2.length=0;omega);rw[Wl]at this;rw[show v=0 from by omega];rfl
 . have h:¬v<0:=qB h;have u:=qB u;have:v≠0:=fun h0=>u (by rw[h0,aC];rfl)
   exact(uG (by omega)).symm
def WD (x:A2 Qh.args) (hw:awf Qh.args x) (hp:Qh.pre x):UN x:=by
 obtain⟨⟨b,l⟩,_⟩:=x;simp only[UN];refine⟨hp, ?_⟩;rintro⟨r,_⟩ _ u;simp only at u⊢;rw[u,A3s]
def WA (x:A2 Qe.args) (hw:awf Qe.args x) (hp:Qe.pre x):UJ x:=by
 obtain⟨⟨a,l⟩,⟨b,m⟩,_⟩:=x;have hl:A5 l:=A3 hw.1.2.2;have hm:A5 m:=A3 hw.2.1.2.2;change Bool at a b;change List Int at l m;obtain⟨p1,p2⟩:l.length<=17592186044416/\m.length<=17592186044416:=hp;have q1:E6 l:=by omega
 have q2:E6 m:=by omega
 have n1:=C7 hl;have n2:=C7 hm;have n3:=KC (nv l) (nv m);simp only[UJ,iB];refine⟨fun h=>⟨⟨q1,q2⟩, ?_⟩,fun h=>⟨⟨q1,q2⟩, ?_⟩⟩
 . have h:a=b:=by simpa using h
   subst h;rintro⟨r,_⟩ _ hr;simp only at hr⊢;subst hr;refine⟨by omega, ?_⟩;rintro⟨s,_⟩ _ hs;simp only at hs⊢;rw[hs];congr 1;cases a
   . simp only[Jc,E1];omega
   . simp only[RI,E1];omega
 . have h:a≠b:=by simpa using h
   rintro⟨r,ok,_⟩ _ ⟨h1,h2⟩;change Bool at ok;simp only at h1 h2⊢;refine⟨fun u=> ?_,fun u=>⟨⟨q2,q1⟩, ?_⟩⟩
   . have a0:nv m<=nv l:=by
      rcases sF (nv l) (nv m)with h3|h3
      . rw[(h1 h3).2]at u;cases u
      . exact h3
     rw[(h2 a0).1];have:=I2 (show nv l-nv m<=nv l by omega);refine⟨by omega, ?_⟩;rintro⟨s,_⟩ _ hs;simp only at hs⊢;rw[hs];congr 1;cases a<;>cases b<;>simp only[RI,Jc,E1]<;>first|omega|exact absurd rfl h
   . have a1:nv l<nv m:=by
      rcases sF (nv l) (nv m)with h3|h3
      . exact h3
      . rw[(h2 h3).2]at u;cases u
     rintro⟨r2,a2,_⟩ _ ⟨_,h4⟩;simp only at h4⊢;rw[(h4 (by omega)).1];have:=I2 (show nv m-nv l<=nv m by omega);refine⟨by omega, ?_⟩;rintro⟨s,_⟩ _ hs;simp only at hs⊢;rw[hs];congr 1;cases a<;>cases b<;>simp only[RI,Jc,E1]<;>first|omega|exact absurd rfl h
def WC (x:A2 Qg.args) (hw:awf Qg.args x) (hp:Qg.pre x):UM x:=by
 obtain⟨⟨a,l⟩,⟨b,m⟩,_⟩:=x;have hl:A5 l:=A3 hw.1.2.2;have hm:A5 m:=A3 hw.2.1.2.2;change Bool at a b;change List Int at l m;obtain⟨p1,p2⟩:l.length<=17592186044416/\m.length<=17592186044416:=hp;have n1:=C7 hl;have n2:=C7 hm;have n3:=Nz (nv l) (nv m);simp only[UM];refine⟨⟨by omega,by omega⟩, ?_⟩;rintro⟨r,_⟩ _ u;simp only at u⊢;subst u;refine⟨by omega, ?_⟩;rintro⟨s,_⟩ _ hs;simp only at hs⊢;rw[hs];congr 1;cases a<;>cases b<;>simp[RI,Jc,E1,uF,Int.neg_mul,Int.mul_neg]
def VZ (x:A2 Qd.args) (hw:awf Qd.args x) (hp:Qd.pre x):UI x:=by
 obtain⟨⟨b,l⟩,_⟩:=x;simp only[UI];refine⟨hp, ?_⟩;rintro⟨r,_⟩ _ u;simp only at u⊢;rw[u,H5,Jc]
def WE (x:A2 Qi.args) (hw:awf Qi.args x) (hp:Qi.pre x):UQ x:=by
 obtain⟨a,b,_⟩:=x;have hb:A5 b.2:=A3 hw.2.1.2.2;change Jt at a b;obtain⟨p1,p2⟩:a.2.length<=17592186044416/\b.2.length<=17592186044416:=hp;have n2:=C7 hb;simp only[UQ];refine⟨by show b.2.length<=35184372088832;omega, ?_⟩;rintro⟨r,_⟩ _ u;simp only at u⊢;refine⟨⟨p1,by show r.2.length<= _;rw[u,Fi,g0j,H5];omega⟩, ?_⟩;rintro⟨s,_⟩ _ hs;simp only at hs⊢;rw[hs,u,U4, <-Int.sub_eq_add_neg]
def WB (x:A2 Qf.args) (hw:awf Qf.args x) (hp:Qf.pre x):UK x:=by
 obtain⟨a,b,_⟩:=x;have ha:A5 a.2:=A3 hw.1.2.2;have hb:A5 b.2:=A3 hw.2.1.2.2;change Jt at a b;obtain⟨p1,p2⟩:a.2.length<=8796093022208/\b.2.length<=8796093022208:=hp;have n1:=C7 ha;have n2:=C7 hb;simp only[UK];refine⟨⟨p1,p2⟩, ?_⟩;rintro⟨r,_⟩ _ u;simp only at u⊢;have hl:r.length<=8796093022209:=by
  rw[u];rcases uY (nv a.2)with h|h
  . rw[h,Nat.gcd_zero_left];omega
  . have:=I2 (Nat.le_of_dvd h (Nat.gcd_dvd_left (nv a.2) (nv b.2)));omega
 refine⟨by show r.length<=35184372088832;omega, ?_⟩;rintro⟨s,_⟩ _ hs;simp only at hs⊢;rw[hs,Jc,u,E1]
def LE (x:A2 Ga.args) (hw:awf Ga.args x) (hp:Ga.pre x):CM x:=by
 obtain⟨⟨sa,a⟩,⟨sb,b⟩,_⟩:=x;have ha:A5 a:=A3 hw.1.2.2;have hb:A5 b:=A3 hw.2.1.2.2;change Bool at sa sb;change List Int at a b;obtain⟨p1,p2⟩:a.length<=8796093022208/\b.length<=8796093022208:=hp;have n1:=C7 ha;have n2:=C7 hb;simp only[CM,iB];refine⟨⟨p1,p2⟩, ?_⟩;rintro⟨q,m,ok,_⟩ _ ⟨z1,z2⟩;change Bool at ok;simp only at z1 z2⊢;refine⟨fun h a0=> ?_,fun h=> ?_⟩
 . have u:nv b≠0:=fun e=>a0 (by unfold iv;simp[e])
   rw[(z2 u).2.2]at h;exact absurd h (by decide)
 have u:nv b≠0:=fun e=>by rw[z1 e]at h;exact absurd h (by decide)
 obtain⟨hq,hm,_⟩:=z2 u;have lq:q.length<=8796093022208:=by
  have:=I2 (wO (nv a) (nv b));rw[hq];omega
 have lm:m.length<=8796093022208:=by
  have:=I2 (vW (vX (nv a) (sP u)));rw[hm];omega
 have vq:nv q=nv a/nv b:=by rw[hq,E1]
 have vm:nv m=nv a%nv b:=by rw[hm,E1]
 obtain⟨c1,c2⟩:=B0m (sa:=sa) (sb:=sb) (A:=nv a) (B:=nv b) u (a:=iv (sa,a)) (b:=iv (sb,b)) (q:=iv (sa !=sb,q)) (m:=iv (sa,m)) rfl rfl (by rw[<-vq];rfl) (by rw[<-vm];rfl);refine⟨by show q.length<=35184372088832;omega, ?_⟩;rintro⟨Q,_⟩ _ hQ;refine⟨by show m.length<=35184372088832;omega, ?_⟩;rintro⟨M,_⟩ _ hM;simp only at hQ hM⊢;have lQ:Q.2.length<=8796093022208:=by
  have:(nc (nv q)).length=q.length:=by rw[vq, <-hq]
  rw[hQ,Fi,H5];show(nc (nv q)).length<= _;omega
 have lM:M.2.length<=8796093022208:=by
  have:(nc (nv m)).length=m.length:=by rw[vm, <-hm]
  rw[hM,Fi,H5];show(nc (nv m)).length<= _;omega
 refine⟨fun p=>(p.1,p.2.1)=ic (iv (sa,a)/iv (sb,b))/\(p.2.2.1,p.2.2.2.1)=ic (iv (sa,a)%iv (sb,b)),⟨fun h1=> ?_,fun h1=> ?_⟩, ?_⟩
 . have h1:iv (sa,m)<0:=by rw[hM]at h1;exact qA h1
   obtain⟨d1,d2,d3⟩:=c1 h1;refine⟨by show b.length<=35184372088832;omega, ?_⟩;rintro⟨B,_⟩ _ hB;simp only at hB⊢;rw[H5]at hB;have lB:B.2.length<=8796093022208:=by
    rw[hB,Fi,uP];show(nc (nv b)).length<= _;omega
   refine⟨⟨by show M.2.length<= _;omega,by show B.2.length<= _;omega⟩, ?_⟩;rintro⟨R,_⟩ _ hR;simp only at hR⊢;have eR:R=ic (iv (sa,a)%iv (sb,b)):=by rw[hR,hM,hB,U4,U4,d1]
   refine⟨fun h2=>⟨trivial, ?_⟩,fun h2=>⟨trivial, ?_⟩⟩
   . rintro⟨o,_⟩ _ ho;simp only at ho⊢;refine⟨⟨by show Q.2.length<= _;omega,by show o.2.length<= _;rw[ho,jN];show 1<= _;decide⟩, ?_⟩;rintro⟨T,_⟩ _ hT;simp only at hT⊢;exact⟨by show T= _;rw[hT,hQ,ho,U4,U4,d2 h2],eR⟩
   . rintro⟨o,_⟩ _ ho;simp only at ho⊢;refine⟨⟨by show Q.2.length<= _;omega,by show o.2.length<= _;rw[ho,jN];show 1<= _;decide⟩, ?_⟩;rintro⟨T,_⟩ _ hT;simp only at hT⊢;exact⟨by show T= _;rw[hT,hQ,ho,U4,U4,d3 h2],eR⟩
 . have h1:¬iv (sa,m)<0:=by rw[hM]at h1;exact qB h1
   obtain⟨d1,d2⟩:=c2 h1;exact⟨by show Q= _;rw[hQ,d2],by show M= _;rw[hM,d1]⟩
 . rintro⟨t1,t2,t3,t4,_⟩ _ ⟨j1,j2⟩;exact⟨fun _=>⟨j1,j2,by trivial⟩,fun _=>⟨j1,j2,by trivial⟩⟩
def cO:An:= {join:= [(11,⟨[4,7,10],[2],[],[(5,36,[.val .bool, .val (.sl (.int .u32))]),(7,36,[.val .bool, .val (.sl (.int .u32))])],[]⟩)],plan:= [(5,[0,3],[5],true,(.q 0 (.p 2 (.q 3 (.e 1 (.p 4 (.e 5 .done))))))),(10,[0,2],[4,5],true,(.q 0 (.q 2 (.e 1 (.e 3 (.e 4 (.e 5 .done)))))))]}
def cS:An:= {}
def cP:An:= {}
def ZE:An:= {}
def IU:An:= {plan:= [(1,[0,1],[],true,(.q 0 (.q 1 (.e 2 (.e 3 (.p 4 .done))))))]}
def iZ:An:= {}
def PU:An:= {}
def oB:An:= {}
def cR:An:= {}
def MT:A2 Li.args->Prop:=fun(x:(Bool×List Int)×(Bool×List Int)×Unit)=>let a:=(0:Int);Gu x.2.1.2/\∀(r:Int×Unit),D2 r.1/\True->r.1=(iv x.2.1).sign->(iB (decide (r.1=a)) (True/\∀(r:QQ×Unit),L6 r.1/\True->r.1=rc (0:Rat)->r.1=rc (Ic x.1 x.2.1)) (Gu x.2.1.2/\∀(r:(Bool×List Int)×Unit),H4 r.1/\True->r.1=ic (iv x.2.1)->((!r.1.1)=true->True)/\∀(e:Bool×Unit),((!r.1.1)=true->(True/\True)/\e.1=decide (r.1.2= [(1:Int)]))->(iB (K7 (!r.1.1) e.1 false) (Gu x.1.2/\∀(b:(Bool×List Int)×Unit),H4 b.1/\True->b.1=ic (iv x.1)->(b.1,r.1.2)=rc (Ic x.1 x.2.1)) ((Ae x.1.2/\Ae x.2.1.2)/\∀(r:(Bool×List Int)×Unit),H4 r.1/\True->r.1=ic (↑((nv x.1.2).gcd (nv x.2.1.2)):Int)->(Ae x.1.2/\Ae r.1.2)/\∀(b:(Bool×List Int)×(Bool×List Int)×Bool×Unit),H4 b.1/\H4 b.2.1/\True/\True->(iv r.1≠a->b.1=ic (iv x.1/iv r.1)/\b.2.1=ic (iv x.1%iv r.1)/\b.2.2.1=true)->(Ae x.2.1.2/\Ae r.1.2)/\∀(c:(Bool×List Int)×(Bool×List Int)×Bool×Unit),H4 c.1/\H4 c.2.1/\True/\True->(iv r.1≠a->c.1=ic (iv x.2.1/iv r.1)/\c.2.1=ic (iv x.2.1%iv r.1)/\c.2.2.1=true)->∃(J:Bool×List Int×Bool×List Int×Unit->Prop),((iB c.1.1 (Gu b.1.2/\∀(r:(Bool×List Int)×Unit),H4 r.1/\True->r.1=ic (-iv b.1)->Gu c.1.2/\∀(d:(Bool×List Int)×Unit),H4 d.1/\True->d.1=ic (-iv c.1)->J (r.1.1,r.1.2,d.1.1,d.1.2,())) (J (b.1.1,b.1.2,c.1.1,c.1.2,()))))/\∀(p:Bool×List Int×Bool×List Int×Unit),Ty.bool.wf p.1/\(Ty.int u32).sl.wf p.2.1/\Ty.bool.wf p.2.2.1/\(Ty.int u32).sl.wf p.2.2.2.1/\True->J p->((p.1,p.2.1),p.2.2.2.1)=rc (Ic x.1 x.2.1)))))
def MY:A2 Lp.args->Prop:=fun(x:Unit)=>((false,[]),[(1:Int)])=rc (0:Rat)
def MV:A2 Lj.args->Prop:=fun(x:QQ×Unit)=>(Ae x.1.1.2/\Ae x.1.2)/\∀(r:QQ×Unit),L6 r.1/\True->r.1=rc (Ic x.1.1 (false,x.1.2))->r.1=rc (rv x.1)
def IC:A2 Il.args->Prop:=fun(x:QQ×QQ×Unit)=>True/\∀(r:Bool×Unit),True/\True->r.1=decide (x.1.1=x.2.1.1)->(r.1=true->True)/\∀(a:Bool×Unit),(r.1=true->(True/\True)/\a.1=decide (x.1.2=x.2.1.2))->K7 r.1 a.1 false=decide (x.1=x.2.1)
def Qx:A2 Az.args->Prop:=fun(x:QQ×Unit)=>F3 x.1/\∀(r:QQ×Unit),L6 r.1/\True->r.1=rc (rv x.1)->True/\∀(a:Bool×Unit),True/\True->a.1=decide (x.1=r.1)->a.1=decide (x.1=rc (rv x.1))
def UX:A2 Qk.args->Prop:=fun(x:QQ×Unit)=>F3 x.1/\∀(r:QQ×Unit),L6 r.1/\True->r.1=rc (rv x.1)->(false,r.1.2)=ic (↑(rv x.1).den:Int)
def Ym:A2 Ee.args->Prop:=fun(x:Int×Unit)=>True/\∀(r:(Bool×List Int)×Unit),H4 r.1/\True->r.1=ic x.1->True/\∀(a:(Bool×List Int)×Unit),H4 a.1/\True->a.1=ic (1:Int)->(Ae r.1.2/\Ae a.1.2)/\∀(b:QQ×Unit),L6 b.1/\True->b.1=rc (Ic r.1 a.1)->b.1=ri x.1
def YY:A2 Xi.args->Prop:=fun(x:Int×Int×Unit)=>True/\∀(r:(Bool×List Int)×Unit),H4 r.1/\True->r.1=ic x.1->True/\∀(a:(Bool×List Int)×Unit),H4 a.1/\True->a.1=ic x.2.1->(Ae r.1.2/\Ae a.1.2)/\∀(b:QQ×Unit),L6 b.1/\True->b.1=rc (Ic r.1 a.1)->b.1=rc (Rat.divInt x.1 x.2.1)
def MX:A2 Ll.args->Prop:=fun(x:QQ×Unit)=>F3 x.1/\∀(r:QQ×Unit),L6 r.1/\True->r.1=rc (rv x.1)->Gu r.1.1.2/\∀(a:Int×Unit),D2 a.1/\True->a.1=(iv r.1.1).sign->a.1=(rv x.1).num.sign
def UW (x:A2 Lp.args) (u:awf Lp.args x) (_:Lp.pre x):MY x:=by
 simp only[MY];exact nI.symm
def OG (x:A2 Il.args) (hw:awf Il.args x) (hp:Il.pre x):IC x:=by
 obtain⟨⟨a,l⟩,⟨b,m⟩,_⟩:=x;simp only[IC];refine⟨trivial, ?_⟩;rintro⟨r,_⟩ _ u;refine⟨fun _=>trivial, ?_⟩;rintro⟨s,_⟩ hs;simp only at u hs⊢;by_cases h:a=b
 . subst h;have u:r=true:=by rw[u];simp
   have:=(hs u).2;rw[this,u];simp[K7]
 . have u:r=false:=by rw[u];simp[h]
   rw[u];simp[K7,h]
def BP (x:A2 Az.args) (hw:awf Az.args x) (hp:Az.pre x):Qx x:=by
 obtain⟨a,_⟩:=x;simp only[Qx];refine⟨hp, ?_⟩;rintro⟨r,_⟩ _ u;refine⟨trivial, ?_⟩;rintro⟨s,_⟩ _ hs;simp only at u hs⊢;rw[hs,u]
def WG (x:A2 Qk.args) (hw:awf Qk.args x) (hp:Qk.pre x):UX x:=by
 obtain⟨a,_⟩:=x;simp only[UX];refine⟨hp, ?_⟩;rintro⟨r,_⟩ _ u;simp only at u⊢;rw[u];unfold rc ic;simp
def ID (x:A2 Ee.args) (hw:awf Ee.args x) (_:Ee.pre x):Ym x:=by
 obtain⟨v,_⟩:=x;change Int at v;have hv:i64.min<=v/\v<=i64.max:=hw.1;rw[Ru,Zp]at hv;simp only[Ym];refine⟨trivial, ?_⟩;rintro⟨r,_⟩ _ u;refine⟨trivial, ?_⟩;rintro⟨s,_⟩ _ hs;simp only at u hs⊢;subst u hs;have h2:(ic v).2.length<=2:=by rw[Fi];exact Fl (by omega)
 refine⟨⟨by omega,by rw[jN];show 1<= _;decide⟩, ?_⟩;rintro⟨t,_⟩ _ ht;simp only at ht⊢;rw[ht,dG (U4 1),U4,bH]
def UT (x:A2 Lj.args) (hw:awf Lj.args x) (hp:Lj.pre x):MV x:=by
 obtain⟨q,_⟩:=x;change C0 at q;obtain⟨h1,h2⟩:q.1.2.length<=2199023255552/\q.2.length<=2199023255552:=hp;simp only[MV];refine⟨⟨by show q.1.2.length<= _;omega,by show q.2.length<= _;omega⟩, ?_⟩;rintro⟨r,_⟩ _ u;simp only at u⊢;rw[u,A8u]
def UV (x:A2 Ll.args) (hw:awf Ll.args x) (hp:Ll.pre x):MX x:=by
 obtain⟨q,_⟩:=x;have l1:A5 q.1.2:=A3 hw.1.1.2.2;have l2:A5 q.2:=A3 hw.1.2.2;change C0 at q;obtain⟨h1,u⟩:q.1.2.length<=2199023255552/\q.2.length<=2199023255552:=hp;obtain⟨n1,n2⟩:=Sn l1 l2 h1 u (by decide);simp only[MX];refine⟨⟨h1,u⟩, ?_⟩;rintro⟨r,_⟩ _ hr;simp only at hr⊢;have e:r.1=ic (rv q).num:=by rw[hr];rfl
 refine⟨by show r.1.2.length<= _;rw[e];omega, ?_⟩;rintro⟨s,_⟩ _ hs;simp only at hs⊢;rw[hs,e,U4]
def US (x:A2 Li.args) (hw:awf Li.args x) (hp:Li.pre x):MT x:=by
 obtain⟨a,b,_⟩:=x;have la:A5 a.2:=A3 hw.1.2.2;have lb:A5 b.2:=A3 hw.2.1.2.2;change Jt at a b;obtain⟨p1,p2⟩:a.2.length<=8796093022208/\b.2.length<=8796093022208:=hp;have n1:=C7 la;have n2:=C7 lb;simp only[MT,iB];refine⟨by show b.2.length<=35184372088832;omega, ?_⟩;rintro⟨s,_⟩ _ hs;simp only at hs⊢;refine⟨fun h=>⟨trivial, ?_⟩,fun h=>⟨by show b.2.length<=35184372088832;omega, ?_⟩⟩
 . have h:=qA h;rw[hs]at h;rintro⟨r,_⟩ _ hr;simp only at hr⊢;rw[hr,oS (yN.1 h)]
 have h:=qB h;have hB:iv b≠0:=fun e=>h (by rw[hs,e];rfl)
 rintro⟨m,_⟩ _ hm;simp only at hm⊢;refine⟨fun _=>trivial, ?_⟩;rintro⟨e,_⟩ he;simp only at he⊢;refine⟨fun h1=>⟨by show a.2.length<=35184372088832;omega, ?_⟩,fun _=>⟨⟨p1,p2⟩, ?_⟩⟩
 . rw[L8,qC]at h1;have h2:=(he h1.1).2;rw[h1.2]at h2;have h3:m.2= [1]:=qA h2.symm;have h4:m.1=false:=by simpa using h1.1
   have h5:iv b=1:=by
    have e1:m=(false,[1]):=Prod.ext h4 h3;rw[<-U4 (iv b), <-hm,e1];rfl
   rintro⟨r,_⟩ _ hr;simp only at hr⊢;rw[hr,h3,dG h5,bH];rfl
 . rintro⟨g,_⟩ _ hg;simp only at hg⊢;have a3:iv g=((Nat.gcd (nv a.2) (nv b.2):Nat):Int):=by rw[hg,U4]
   obtain⟨G0,Gs,Gn,Gp⟩:=A4f (A:=iv a) (B:=iv b) hB (G:=Nat.gcd (nv a.2) (nv b.2)) (by rw[H5,H5]);have a4:nv b.2≠0:=by rw[<-H5];omega
   have a2:g.2.length<=8796093022208:=by
    rw[hg,Fi,uP];have:=I2 (Nat.le_of_dvd (by omega) (yB (nv a.2) (nv b.2)));omega
   rw[<-a3]at Gs Gn Gp;have a1:iv g≠0:=by omega
   refine⟨⟨p1,a2⟩, ?_⟩;rintro⟨n,n',a6,_⟩ _ hn;refine⟨⟨p2,a2⟩, ?_⟩;rintro⟨d,d',a5,_⟩ _ hd;simp only at hn hd⊢;have hn:=(hn a1).1;have hd:=(hd a1).1;have ln:n.2.length<=8796093022208:=by
    rw[hn,Fi];have h1:=I2 (wY (iv a) (iv g));rw[H5 a]at h1;omega
   have ld:d.2.length<=8796093022208:=by
    rw[hd,Fi];have h1:=I2 (wY (iv b) (iv g));rw[H5 b]at h1;omega
   have a0:d.1=decide (iv b/iv g<0):=by rw[hd];rfl
   refine⟨fun p=>((p.1,p.2.1),p.2.2.2.1)=rc (Ic a b),⟨fun h1=>⟨by show n.2.length<=35184372088832;omega, ?_⟩,fun h1=> ?_⟩, ?_⟩
   . rw[a0]at h1;have h1:=Gs.1 (qA h1);rintro⟨u,_⟩ _ hu;refine⟨by show d.2.length<=35184372088832;omega, ?_⟩;rintro⟨v,_⟩ _ hv;simp only at hu hv⊢;show(u,v.2)= _;rw[hn,U4]at hu;rw[hd,U4]at hv;rw[hu,hv];exact Gn h1
   . rw[a0]at h1;have h1:¬iv b<0:=fun h2=>(qB h1) (Gs.2 h2)
     show(n,d.2)= _;rw[hn,hd];exact Gp h1
   . rintro⟨t1,t2,t3,t4,_⟩ _ j;exact j
def iY:An:= {plan:= [(1,[0,2],[6,7],true,(.q 0 (.q 2 (.or 1 (.or 3 (.or 4 (.e 5 (.e 6 (.e 7 .done))) (.e 5 (.e 4 (.e 6 (.e 7 .done))))) (.or 4 (.or 3 (.e 5 (.e 6 (.e 7 .done))) (.e 5 (.e 3 (.e 6 (.e 7 .done))))) (.e 5 (.or 3 (.e 4 (.e 6 (.e 7 .done))) (.e 4 (.e 3 (.e 6 (.e 7 .done)))))))) (.or 4 (.or 1 (.or 3 (.e 5 (.e 6 (.e 7 .done))) (.e 5 (.e 3 (.e 6 (.e 7 .done))))) (.e 5 (.e 1 (.e 3 (.e 6 (.e 7 .done)))))) (.e 5 (.or 1 (.or 3 (.e 4 (.e 6 (.e 7 .done))) (.e 4 (.e 3 (.e 6 (.e 7 .done))))) (.e 4 (.e 1 (.e 3 (.e 6 (.e 7 .done)))))))))))),(2,[1,2,6,7,11,13],[17],true,(.p 0 (.q 1 (.q 2 (.p 5 (.q 6 (.q 7 (.q 11 (.q 13 (.e 3 (.e 4 (.e 8 (.e 9 (.e 10 (.e 12 (.e 14 (.e 15 (.e 16 (.e 17 .done)))))))))))))))))))]}
def UR:A2 Qj.args->Prop:=fun(x:QQ×QQ×Unit)=>let g:=(rv x.1);let f:=(rv x.2.1);let e:=(rv x.1+rv x.2.1);let d:=(↑g.den:Int);let c:=(↑f.den:Int);let a:Prop:=(F3 x.1/\∀(r:QQ×Unit),L6 r.1/\True->r.1=rc g->(F3 x.2.1/\∀(n:QQ×Unit),L6 n.1/\True->n.1=rc f->F3 x.2.1/\∀(h:(Bool×List Int)×Unit),H4 h.1/\True->h.1=ic c->(E6 r.1.1.2/\E6 h.1.2)/\∀(i:(Bool×List Int)×Unit),H4 i.1/\True->i.1=ic (iv r.1.1*iv h.1)->F3 x.1/\∀(r:(Bool×List Int)×Unit),H4 r.1/\True->r.1=ic d->(E6 n.1.1.2/\E6 r.1.2)/\∀(j:(Bool×List Int)×Unit),H4 j.1/\True->j.1=ic (iv n.1.1*iv r.1)->(E6 i.1.2/\E6 j.1.2)/\∀(r:(Bool×List Int)×Unit),H4 r.1/\True->r.1=ic (iv i.1+iv j.1)->F3 x.1/\∀(k:(Bool×List Int)×Unit),H4 k.1/\True->k.1=ic d->F3 x.2.1/\∀(l:(Bool×List Int)×Unit),H4 l.1/\True->l.1=ic c->(E6 k.1.2/\E6 l.1.2)/\∀(m:(Bool×List Int)×Unit),H4 m.1/\True->m.1=ic (iv k.1*iv l.1)->(Ae r.1.2/\Ae m.1.2)/\∀(o:QQ×Unit),L6 o.1/\True->o.1=rc (Ic r.1 m.1)->o.1=rc e)/\F3 x.2.1/\∀(n:QQ×Unit),L6 n.1/\True->n.1=rc f->F3 x.2.1/\∀(h:(Bool×List Int)×Unit),H4 h.1/\True->h.1=ic c->(E6 r.1.1.2/\E6 h.1.2)/\∀(i:(Bool×List Int)×Unit),H4 i.1/\True->i.1=ic (iv r.1.1*iv h.1)->F3 x.1/\∀(r:(Bool×List Int)×Unit),H4 r.1/\True->r.1=ic d->(E6 n.1.1.2/\E6 r.1.2)/\∀(j:(Bool×List Int)×Unit),H4 j.1/\True->j.1=ic (iv n.1.1*iv r.1)->(E6 i.1.2/\E6 j.1.2)/\∀(r:(Bool×List Int)×Unit),H4 r.1/\True->r.1=ic (iv i.1+iv j.1)->F3 x.1/\∀(k:(Bool×List Int)×Unit),H4 k.1/\True->k.1=ic d->F3 x.2.1/\∀(l:(Bool×List Int)×Unit),H4 l.1/\True->l.1=ic c->(E6 k.1.2/\E6 l.1.2)/\∀(m:(Bool×List Int)×Unit),H4 m.1/\True->m.1=ic (iv k.1*iv l.1)->(Ae r.1.2/\Ae m.1.2)/\∀(o:QQ×Unit),L6 o.1/\True->o.1=rc (Ic r.1 m.1)->o.1=rc e);(F3 x.1/\∀(r:QQ×Unit),let b:Prop:=(F3 x.2.1/\∀(n:QQ×Unit),L6 n.1/\True->n.1=rc f->F3 x.2.1/\∀(h:(Bool×List Int)×Unit),H4 h.1/\True->h.1=ic c->(E6 r.1.1.2/\E6 h.1.2)/\∀(i:(Bool×List Int)×Unit),H4 i.1/\True->i.1=ic (iv r.1.1*iv h.1)->F3 x.1/\∀(r:(Bool×List Int)×Unit),H4 r.1/\True->r.1=ic d->(E6 n.1.1.2/\E6 r.1.2)/\∀(j:(Bool×List Int)×Unit),H4 j.1/\True->j.1=ic (iv n.1.1*iv r.1)->(E6 i.1.2/\E6 j.1.2)/\∀(r:(Bool×List Int)×Unit),H4 r.1/\True->r.1=ic (iv i.1+iv j.1)->F3 x.1/\∀(k:(Bool×List Int)×Unit),H4 k.1/\True->k.1=ic d->F3 x.2.1/\∀(l:(Bool×List Int)×Unit),H4 l.1/\True->l.1=ic c->(E6 k.1.2/\E6 l.1.2)/\∀(m:(Bool×List Int)×Unit),H4 m.1/\True->m.1=ic (iv k.1*iv l.1)->(Ae r.1.2/\Ae m.1.2)/\∀(o:QQ×Unit),L6 o.1/\True->o.1=rc (Ic r.1 m.1)->o.1=rc e);L6 r.1/\True->r.1=rc g->(F3 x.2.1/\∀(n:QQ×Unit),L6 n.1/\True->n.1=rc f->(F3 x.2.1/\∀(h:(Bool×List Int)×Unit),H4 h.1/\True->h.1=ic c->(E6 r.1.1.2/\E6 h.1.2)/\∀(i:(Bool×List Int)×Unit),H4 i.1/\True->i.1=ic (iv r.1.1*iv h.1)->F3 x.1/\∀(r:(Bool×List Int)×Unit),H4 r.1/\True->r.1=ic d->(E6 n.1.1.2/\E6 r.1.2)/\∀(j:(Bool×List Int)×Unit),H4 j.1/\True->j.1=ic (iv n.1.1*iv r.1)->(E6 i.1.2/\E6 j.1.2)/\∀(r:(Bool×List Int)×Unit),H4 r.1/\True->r.1=ic (iv i.1+iv j.1)->F3 x.1/\∀(k:(Bool×List Int)×Unit),H4 k.1/\True->k.1=ic d->F3 x.2.1/\∀(l:(Bool×List Int)×Unit),H4 l.1/\True->l.1=ic c->(E6 k.1.2/\E6 l.1.2)/\∀(m:(Bool×List Int)×Unit),H4 m.1/\True->m.1=ic (iv k.1*iv l.1)->(Ae r.1.2/\Ae m.1.2)/\∀(o:QQ×Unit),L6 o.1/\True->o.1=rc (Ic r.1 m.1)->o.1=rc e)/\F3 x.2.1/\∀(h:(Bool×List Int)×Unit),H4 h.1/\True->h.1=ic c->(E6 r.1.1.2/\E6 h.1.2)/\∀(i:(Bool×List Int)×Unit),H4 i.1/\True->i.1=ic (iv r.1.1*iv h.1)->F3 x.1/\∀(r:(Bool×List Int)×Unit),H4 r.1/\True->r.1=ic d->(E6 n.1.1.2/\E6 r.1.2)/\∀(j:(Bool×List Int)×Unit),H4 j.1/\True->j.1=ic (iv n.1.1*iv r.1)->(E6 i.1.2/\E6 j.1.2)/\∀(r:(Bool×List Int)×Unit),H4 r.1/\True->r.1=ic (iv i.1+iv j.1)->F3 x.1/\∀(k:(Bool×List Int)×Unit),H4 k.1/\True->k.1=ic d->F3 x.2.1/\∀(l:(Bool×List Int)×Unit),H4 l.1/\True->l.1=ic c->(E6 k.1.2/\E6 l.1.2)/\∀(m:(Bool×List Int)×Unit),H4 m.1/\True->m.1=ic (iv k.1*iv l.1)->(Ae r.1.2/\Ae m.1.2)/\∀(o:QQ×Unit),L6 o.1/\True->o.1=rc (Ic r.1 m.1)->o.1=rc e)/\(b/\F3 x.2.1/\∀(n:QQ×Unit),L6 n.1/\True->n.1=rc f->F3 x.2.1/\∀(h:(Bool×List Int)×Unit),H4 h.1/\True->h.1=ic c->(E6 r.1.1.2/\E6 h.1.2)/\∀(i:(Bool×List Int)×Unit),H4 i.1/\True->i.1=ic (iv r.1.1*iv h.1)->F3 x.1/\∀(r:(Bool×List Int)×Unit),H4 r.1/\True->r.1=ic d->(E6 n.1.1.2/\E6 r.1.2)/\∀(j:(Bool×List Int)×Unit),H4 j.1/\True->j.1=ic (iv n.1.1*iv r.1)->(E6 i.1.2/\E6 j.1.2)/\∀(r:(Bool×List Int)×Unit),H4 r.1/\True->r.1=ic (iv i.1+iv j.1)->F3 x.1/\∀(k:(Bool×List Int)×Unit),H4 k.1/\True->k.1=ic d->F3 x.2.1/\∀(l:(Bool×List Int)×Unit),H4 l.1/\True->l.1=ic c->(E6 k.1.2/\E6 l.1.2)/\∀(m:(Bool×List Int)×Unit),H4 m.1/\True->m.1=ic (iv k.1*iv l.1)->(Ae r.1.2/\Ae m.1.2)/\∀(o:QQ×Unit),L6 o.1/\True->o.1=rc (Ic r.1 m.1)->o.1=rc e)/\b/\F3 x.2.1/\∀(n:QQ×Unit),L6 n.1/\True->n.1=rc f->F3 x.2.1/\∀(h:(Bool×List Int)×Unit),H4 h.1/\True->h.1=ic c->(E6 r.1.1.2/\E6 h.1.2)/\∀(i:(Bool×List Int)×Unit),H4 i.1/\True->i.1=ic (iv r.1.1*iv h.1)->F3 x.1/\∀(r:(Bool×List Int)×Unit),H4 r.1/\True->r.1=ic d->(E6 n.1.1.2/\E6 r.1.2)/\∀(j:(Bool×List Int)×Unit),H4 j.1/\True->j.1=ic (iv n.1.1*iv r.1)->(E6 i.1.2/\E6 j.1.2)/\∀(r:(Bool×List Int)×Unit),H4 r.1/\True->r.1=ic (iv i.1+iv j.1)->F3 x.1/\∀(k:(Bool×List Int)×Unit),H4 k.1/\True->k.1=ic d->F3 x.2.1/\∀(l:(Bool×List Int)×Unit),H4 l.1/\True->l.1=ic c->(E6 k.1.2/\E6 l.1.2)/\∀(m:(Bool×List Int)×Unit),H4 m.1/\True->m.1=ic (iv k.1*iv l.1)->(Ae r.1.2/\Ae m.1.2)/\∀(o:QQ×Unit),L6 o.1/\True->o.1=rc (Ic r.1 m.1)->o.1=rc e)/\(a/\F3 x.1/\∀(r:QQ×Unit),L6 r.1/\True->r.1=rc g->F3 x.2.1/\∀(n:QQ×Unit),L6 n.1/\True->n.1=rc f->F3 x.2.1/\∀(h:(Bool×List Int)×Unit),H4 h.1/\True->h.1=ic c->(E6 r.1.1.2/\E6 h.1.2)/\∀(i:(Bool×List Int)×Unit),H4 i.1/\True->i.1=ic (iv r.1.1*iv h.1)->F3 x.1/\∀(r:(Bool×List Int)×Unit),H4 r.1/\True->r.1=ic d->(E6 n.1.1.2/\E6 r.1.2)/\∀(j:(Bool×List Int)×Unit),H4 j.1/\True->j.1=ic (iv n.1.1*iv r.1)->(E6 i.1.2/\E6 j.1.2)/\∀(r:(Bool×List Int)×Unit),H4 r.1/\True->r.1=ic (iv i.1+iv j.1)->F3 x.1/\∀(k:(Bool×List Int)×Unit),H4 k.1/\True->k.1=ic d->F3 x.2.1/\∀(l:(Bool×List Int)×Unit),H4 l.1/\True->l.1=ic c->(E6 k.1.2/\E6 l.1.2)/\∀(m:(Bool×List Int)×Unit),H4 m.1/\True->m.1=ic (iv k.1*iv l.1)->(Ae r.1.2/\Ae m.1.2)/\∀(o:QQ×Unit),L6 o.1/\True->o.1=rc (Ic r.1 m.1)->o.1=rc e)/\a/\F3 x.1/\∀(r:QQ×Unit),L6 r.1/\True->r.1=rc g->F3 x.2.1/\∀(n:QQ×Unit),L6 n.1/\True->n.1=rc f->F3 x.2.1/\∀(h:(Bool×List Int)×Unit),H4 h.1/\True->h.1=ic c->(E6 r.1.1.2/\E6 h.1.2)/\∀(i:(Bool×List Int)×Unit),H4 i.1/\True->i.1=ic (iv r.1.1*iv h.1)->F3 x.1/\∀(r:(Bool×List Int)×Unit),H4 r.1/\True->r.1=ic d->(E6 n.1.1.2/\E6 r.1.2)/\∀(j:(Bool×List Int)×Unit),H4 j.1/\True->j.1=ic (iv n.1.1*iv r.1)->(E6 i.1.2/\E6 j.1.2)/\∀(r:(Bool×List Int)×Unit),H4 r.1/\True->r.1=ic (iv i.1+iv j.1)->F3 x.1/\∀(k:(Bool×List Int)×Unit),H4 k.1/\True->k.1=ic d->F3 x.2.1/\∀(l:(Bool×List Int)×Unit),H4 l.1/\True->l.1=ic c->(E6 k.1.2/\E6 l.1.2)/\∀(m:(Bool×List Int)×Unit),H4 m.1/\True->m.1=ic (iv k.1*iv l.1)->(Ae r.1.2/\Ae m.1.2)/\∀(o:QQ×Unit),L6 o.1/\True->o.1=rc (Ic r.1 m.1)->o.1=rc e
def A5q {p:C0} (u:A5 p.1.2) (l2:A5 p.2) (h:F3 p):(ic (rv p).num).2.length<=2199023255552/\(ic ((rv p).den:Int)).2.length<=2199023255552:=by
 have:=Sn u l2 h.1 h.2 (by decide);exact⟨this.1,by rw[Fi,uP];exact this.2⟩
def icm {x y:Int} {k:Nat} (hx:(ic x).2.length<=k) (u:(ic y).2.length<=k):(ic (x*y)).2.length<=2*k:=by
 rw[Fi]at*;rw[vH];have:=Nz x.natAbs y.natAbs;omega
def ica {x y:Int} {k:Nat} (hx:(ic x).2.length<=k) (u:(ic y).2.length<=k):(ic (x+y)).2.length<=k+1:=by
 rw[Fi]at*;have h1:=I2 (g0x x y);have:=KC x.natAbs y.natAbs;omega
def WF (x:A2 Qj.args) (u:awf Qj.args x) (hp:Qj.pre x):UR x:=by
 obtain⟨p,q,_⟩:=x;have a4:A5 p.1.2:=A3 u.1.1.2.2;have a5:A5 p.2:=A3 u.1.2.2;have a6:A5 q.1.2:=A3 u.2.1.1.2.2;have a7:A5 q.2:=A3 u.2.1.2.2;change C0 at p q;obtain⟨a0,a3⟩:F3 p/\F3 q:=hp;obtain⟨a1,a2⟩:=A5q a4 a5 a0;obtain⟨b1,b2⟩:=A5q a6 a7 a3;have m1:=icm a1 b2;have m2:=icm b1 a2;have m3:=icm a2 b2;have m4:=ica m1 m2;have fin:rc (Ic (ic ((rv p).num*((rv q).den:Int)+(rv q).num*((rv p).den:Int))) (ic (((rv p).den:Int)*((rv q).den:Int))))=rc (rv p+rv q):=by
  unfold Ic;rw[U4,U4,jJ]
 have P1:E6 (ic (rv p).num).2:=by show _ <= _;omega
 have P2:E6 (ic ((rv p).den:Int)).2:=by show _ <= _;omega
 have Q1:E6 (ic (rv q).num).2:=by show _ <= _;omega
 have Q2:E6 (ic ((rv q).den:Int)).2:=by show _ <= _;omega
 have M1:E6 (ic ((rv p).num*((rv q).den:Int))).2:=by show _ <= _;omega
 have M2:E6 (ic ((rv q).num*((rv p).den:Int))).2:=by show _ <= _;omega
 have M3:Ae (ic (((rv p).den:Int)*((rv q).den:Int))).2:=by show _ <= _;omega
 have M4:Ae (ic ((rv p).num*((rv q).den:Int)+(rv q).num*((rv p).den:Int))).2:=by show _ <= _;omega
 clear m1 m2 m3 m4 a1 a2 b1 b2;have r1:(rc (rv p)).1=ic (rv p).num:=rfl;have r2:(rc (rv q)).1=ic (rv q).num:=rfl;simp only[UR]
 repeat' first
  |assumption
  |apply And.intro
  | (rintro⟨r,_⟩ _ h;simp only at h⊢;subst h;try simp only[r1,r2,U4])
def CQ:An:= {}
def IP:An:= {}
def Vn:An:= {}
def CR:An:= {}
def Lr:A2 U9.args->Prop:=fun(x:Int×Int×Unit)=>True/\∀(r:Bool×Unit),True/\True->r.1=false->True/\∀(a:Bool×Unit),True/\True->a.1=false->(iB r.1 ((iB a.1 ((0:Int)=J0 x.1 x.2.1) ((-1:Int)=J0 x.1 x.2.1))) ((iB a.1 ((1:Int)=J0 x.1 x.2.1) ((iB (decide (x.1<x.2.1)) ((-1:Int)=J0 x.1 x.2.1) ((iB (decide (x.2.1<x.1)) ((1:Int)=J0 x.1 x.2.1) ((0:Int)=J0 x.1 x.2.1))))))))
def KZ:A2 Au.args->Prop:=fun(x:Int×Unit)=>decide (x.1≠x.1)=false
def Iq:A2 P6.args->Prop:=fun(x:Int×Int×Unit)=>True/\∀(r:Bool×Unit),True/\True->r.1=false->True/\∀(a:Bool×Unit),True/\True->a.1=false->(iB r.1 ((iB a.1 ((0:Int)=J0 x.1 x.2.1) ((-1:Int)=J0 x.1 x.2.1))) ((iB a.1 ((1:Int)=J0 x.1 x.2.1) ((iB (decide (x.1<x.2.1)) ((-1:Int)=J0 x.1 x.2.1) ((iB (decide (x.2.1<x.1)) ((1:Int)=J0 x.1 x.2.1) ((0:Int)=J0 x.1 x.2.1))))))))
def EP:A2 V2.args->Prop:=fun(x:Int×Unit)=>decide (x.1≠x.1)=false
def Uz (x:A2 U9.args) (hw:awf U9.args x) (_:U9.pre x):Lr x:=by
 obtain⟨a,b,_⟩:=x;change Int at a b;simp only[Lr,iB];refine⟨trivial, ?_⟩;rintro⟨r,_⟩ _ u;refine⟨trivial, ?_⟩;rintro⟨s,_⟩ _ hs;change Bool at r s;simp only at u hs;rw[u,hs];refine⟨fun h=>(by cases h),fun _=>⟨fun h=>(by cases h),fun _=>⟨fun h=> ?_,fun h=>⟨fun h2=> ?_,fun h2=> ?_⟩⟩⟩⟩
 . simp[J0,qA h]
 . simp[J0,qB h,qA h2]
 . simp[J0,qB h,qB h2]
def HR (x:A2 Dv.args) (hw:awf Dv.args x) (hp:Dv.pre x):Xu x:=by
 obtain⟨p,_⟩:=x;change Jt at p;simp only[Xu];refine⟨hp, ?_⟩;rintro⟨r,_⟩ _ u;simp only at u⊢;refine⟨trivial, ?_⟩;rintro⟨s,_⟩ _ hs;simp only at hs⊢;rw[hs,u];have h:=A3g (neg:= !p.1) (m:=nv p.2);have e:iv (!p.1,nc (nv p.2))= -iv p:=by
  rw[A3s];congr 1;unfold iv;simp only[E1]
 rw[<-e,h];have:decide (nc (nv p.2)≠ [])=decide (nv p.2≠0):=vC.2 (g3f Wl);rw[this]
def RY {a b:Int} (u: -2147483647<=a/\a<=2147483647) (hb: -2147483647<=b/\b<=2147483647): -4611686014132420609<=a*b/\a*b<=4611686014132420609:=by
 have h:(a*b).natAbs<=2147483647*2147483647:=by
  rw[vH];exact yF (by omega) (by omega)
 omega
def FD (x:A2 Y9.args) (hw:awf Y9.args x) (hp:Y9.pre x):Uc x:=by
 obtain⟨p,q,_⟩:=x;have af:A5 p.1.2:=A3 hw.1.1.2.2;have ag:A5 p.2:=A3 hw.1.2.2;have ah:A5 q.1.2:=A3 hw.2.1.1.2.2;have ai:A5 q.2:=A3 hw.2.1.2.2;change C0 at p q;obtain⟨a4,a7⟩:F3 p/\F3 q:=hp;obtain⟨a0,a3⟩:=a4;obtain⟨a5,a6⟩:=a7;simp only[Uc,iB];refine⟨trivial, ?_⟩;rintro⟨an,ad,ac,_⟩ _ ⟨a1,a2⟩;refine⟨trivial, ?_⟩;rintro⟨bn,bd,ae,_⟩ _ ⟨b1,b2⟩;change Int at an ad bn bd;simp only at a1 a2 b1 b2⊢;refine⟨fun h=> ?_,fun _=>⟨trivial, ?_⟩⟩
 . rw[L8,qC]at h;have sp:H7 p:=qX fun hn=>by have:=a2 hn;rw[this]at h;exact absurd h.1 (by decide)
   have sq:H7 q:=qX fun hn=>by have:=b2 hn;rw[this]at h;exact absurd h.2 (by decide)
   obtain⟨ea,ed,_⟩:=a1 sp;obtain⟨eb,ee,_⟩:=b1 sq;obtain⟨x1,x2,x3,x4⟩:=Ke sp;obtain⟨y1,y2,y3,y4⟩:=Ke sq;have h1:=RY (a:=an) (b:=bn) (by omega) (by omega);have h2:=RY (a:=ad) (b:=bd) (by omega) (by omega);have h4:0<ad*bd:=Int.mul_pos (by omega) (by omega);rw[wv (a:=ad*bd) (by omega),wv (a:=an*bn) (by omega)];refine⟨h4, ?_⟩;rintro⟨r,_⟩ _ hr;simp only at hr⊢;rw[hr, <-Sf p, <-Sf q, <-ea, <-ed, <-eb, <-ee,g0d,g2s (by omega) (by omega)]
 . rintro⟨n,d,_⟩ ⟨ab,a8,_⟩ h1;refine⟨trivial, ?_⟩;rintro⟨m,e,_⟩ ⟨aa,a9,_⟩ h2;have ln:A5 n.2:=A3 ab.2.2;have ld:A5 d:=A3 a8.2;have lm:A5 m.2:=A3 aa.2.2;have le:A5 e:=A3 a9.2;change Jt at n m;change List Int at d e;simp only at h1 h2⊢;obtain⟨d0,hP⟩:=Ku h1;obtain⟨e0,hQ⟩:=Ku h2;obtain⟨n1,d1⟩:=Hm (k:=2199023255552) h1 a0 a3 (by decide);obtain⟨m1,e1⟩:=Hm (k:=2199023255552) h2 a5 a6 (by decide);have x1:=DL (x:=n) (y:=m) ln lm;have x2:=DS ld le;rw[hP,hQ];refine⟨⟨by show n.2.length<= _;omega,by show m.2.length<= _;omega⟩, ?_⟩;rintro⟨u,_⟩ _ hu;refine⟨⟨by show d.length<= _;omega,by show e.length<= _;omega⟩, ?_⟩;rintro⟨v,_⟩ _ hv;simp only at hu hv⊢;refine⟨⟨by rw[hv,E1];exact yZ d0 e0,by show u.2.length<= _;rw[hu];omega,by show v.length<= _;rw[hv];omega⟩, ?_⟩;rintro⟨r,_⟩ _ hr;simp only at hr⊢;rw[hr,hu,hv,U4,E1,g0d]
def FE (x:A2 Z4.args) (hw:awf Z4.args x) (hp:Z4.pre x):Ud x:=by
 obtain⟨p,_⟩:=x;have a0:A5 p.1.2:=A3 hw.1.1.2.2;have a3:A5 p.2:=A3 hw.1.2.2;change C0 at p;have u:F3 p:=hp;obtain⟨a1,a2⟩:=Sn (k:=2199023255552) a0 a3 u.1 u.2 (by decide);simp only[Ud];refine⟨u, ?_⟩;rintro⟨r,_⟩ _ hr;simp only at hr⊢;subst hr;refine⟨by show(ic (rv p).num).2.length<= _;omega, ?_⟩;rintro⟨s,_⟩ _ hs;simp only at hs⊢;rw[hs];show(ic (-iv (ic (rv p).num)),nc (rv p).den)=(ic (-(rv p)).num,nc (-(rv p)).den);rw[U4,Rat.neg_num,Rat.neg_den]
def B1o {q:Rat} (h:q≠0):(((ic q.num).1,nc q.den),(ic q.num).2)=rc q⁻¹:=by
 have u:q.num≠0:=fun e=>h (zX.1 e)
 unfold rc ic;rw[Rat.num_inv,Rat.den_inv,qT u,vH,uP,g0k u,wR];have hd:(0:Int)<(q.den:Int):=by have:=q.den_pos;omega
 have:(q.num.sign*(q.den:Int)<0)↔q.num<0:=by
  rcases g0w q.num 0 with h1|h1|h1
  . rw[wV h1];omega
  . exact absurd h1 u
  . rw[uG h1];omega
 simp only[this]
def FC (x:A2 Y8.args) (hw:awf Y8.args x) (hp:Y8.pre x):Ub x:=by
 obtain⟨p,_⟩:=x;change C0 at p;have a0:F3 p:=hp;simp only[Ub,iB];refine⟨trivial, ?_⟩;rintro⟨s,_⟩ _ hs;simp only at hs⊢;refine⟨fun h=> ?_,fun h=>⟨a0, ?_⟩⟩
 . have u:=MJ (hs▸qA h);exact⟨fun _=>by trivial,fun hn=>absurd u hn⟩
 . rintro⟨r,_⟩ _ hr;simp only at hr⊢;refine⟨fun u=> ?_,fun u=>⟨by rw[hr];exact B1o u,by trivial⟩⟩;have h:=qB h;rw[hs,u]at h;exact absurd rfl h
def eK {a:Int} (h:i64.min<=a/\a<=i64.max):(ic a).2.length<=2:=by
 have h1: -9223372036854775808<=a/\a<=9223372036854775807:=h;exact Fl (by show a.natAbs<4294967296^2;omega)
def bT (x:A2 Xi.args) (hw:awf Xi.args x) (_:Xi.pre x):YY x:=by
 obtain⟨a,b,_⟩:=x;have ha:(ic a).2.length<=2:=eK hw.1;have hb:(ic b).2.length<=2:=eK hw.2.1;change Int at a b;simp only[YY];refine⟨trivial, ?_⟩;rintro⟨r,_⟩ _ u;refine⟨trivial, ?_⟩;rintro⟨s,_⟩ _ hs;simp only at u hs⊢;subst u hs;refine⟨⟨by show(ic a).2.length<= _;omega,by show(ic b).2.length<= _;omega⟩, ?_⟩;rintro⟨t,_⟩ _ ht;simp only at ht⊢;rw[ht];unfold Ic;rw[U4,U4]
def BH (x:A2 Au.args) (u:awf Au.args x) (_:Au.pre x):KZ x:=rH fun h=>h rfl
def Va (x:A2 V2.args) (u:awf V2.args x) (_:V2.pre x):EP x:=rH fun h=>h rfl
def Qp (x:A2 P6.args) (hw:awf P6.args x) (_:P6.pre x):Iq x:=by
 obtain⟨a,b,_⟩:=x;change Int at a b;simp only[Iq,iB];refine⟨trivial, ?_⟩;rintro⟨r,_⟩ _ u;refine⟨trivial, ?_⟩;rintro⟨s,_⟩ _ hs;change Bool at r s;simp only at u hs;rw[u,hs];refine⟨fun h=>(by cases h),fun _=>⟨fun h=>(by cases h),fun _=>⟨fun h=> ?_,fun h=>⟨fun h2=> ?_,fun h2=> ?_⟩⟩⟩⟩
 . simp[J0,qA h]
 . simp[J0,qB h,qA h2]
 . simp[J0,qB h,qB h2]
def My (z:Int):(z<0/\z.sign= -1)\/(z=0/\z.sign=0)\/(0<z/\z.sign=1):=by
 rcases g0w z 0 with h|h|h
 . exact .inl ⟨h,wV h⟩
 . exact .inr (.inl ⟨h,by rw[h];rfl⟩)
 . exact .inr (.inr ⟨h,uG h⟩)
def Vd (x:A2 V4.args) (hw:awf V4.args x) (_:V4.pre x):Lu x:=by
 obtain⟨p,q,_⟩:=x;change Jt at p q;simp only[Lu,iB];refine⟨trivial, ?_⟩;rintro⟨r,_⟩ _ hr;refine⟨trivial, ?_⟩;rintro⟨s,_⟩ _ hs;change Int at r s;simp only at hr hs⊢;have np:=H5 p;have nq:=H5 q;refine⟨fun h=> ?_,fun h=>⟨fun h2=> ?_,fun h2=>⟨fun h3=>⟨trivial, ?_⟩,fun h3=>⟨trivial, ?_⟩⟩⟩⟩
 . have h:=qA h;have:iv p<iv q:=by rcases My (iv p)with⟨a,b⟩ | ⟨a,b⟩ | ⟨a,b⟩<;>rcases My (iv q)with⟨c,d⟩ | ⟨c,d⟩ | ⟨c,d⟩<;>omega
   unfold J0;rw[rB this]
 . have h2:=qA h2;have:iv q<iv p:=by rcases My (iv p)with⟨a,b⟩ | ⟨a,b⟩ | ⟨a,b⟩<;>rcases My (iv q)with⟨c,d⟩ | ⟨c,d⟩ | ⟨c,d⟩<;>omega
   unfold J0;rw[qT (by omega),rB this]
 . have h:=qB h;have h2:=qB h2;have h3:=qA h3;rintro⟨u,_⟩ _ hu;simp only at hu⊢;rw[hu];have e1:iv p<0:=by rcases My (iv p)with⟨a,b⟩ | ⟨a,b⟩ | ⟨a,b⟩<;>omega
   have e2:iv q<0:=by rcases My (iv q)with⟨a,b⟩ | ⟨a,b⟩ | ⟨a,b⟩<;>omega
   unfold Bw J0
   (repeat' split)<;>first|rfl|omega
 . have h:=qB h;have h2:=qB h2;have h3:=qB h3;rintro⟨u,_⟩ _ hu;simp only at hu⊢;rw[hu];have e1:0<=iv p:=by rcases My (iv p)with⟨a,b⟩ | ⟨a,b⟩ | ⟨a,b⟩<;>omega
   have e2:0<=iv q:=by rcases My (iv q)with⟨a,b⟩ | ⟨a,b⟩ | ⟨a,b⟩<;>omega
   unfold Bw J0
   (repeat' split)<;>first|rfl|omega
def Tc (x:A2 S9.args) (hw:awf S9.args x) (hp:S9.pre x):Jo x:=by
 obtain⟨p,q,_⟩:=x;have af:A5 p.1.2:=A3 hw.1.1.2.2;have ag:A5 p.2:=A3 hw.1.2.2;have ah:A5 q.1.2:=A3 hw.2.1.1.2.2;have ai:A5 q.2:=A3 hw.2.1.2.2;change C0 at p q;obtain⟨a4,a7⟩:F3 p/\F3 q:=hp;obtain⟨a0,a3⟩:=a4;obtain⟨a5,a6⟩:=a7;simp only[Jo,iB];refine⟨trivial, ?_⟩;rintro⟨s,_⟩ _ hs;refine⟨trivial, ?_⟩;rintro⟨t,_⟩ _ ht;change Int at s t;simp only at hs ht⊢;refine⟨fun h=>⟨trivial, ?_⟩,fun h=>⟨trivial, ?_⟩⟩
 . have h:=qA h;rintro⟨u,_⟩ _ hu;simp only at hu⊢;rw[hs,ht]at h hu;rw[hu,oI h]
 rintro⟨an,ad,a8,_⟩ _ ⟨a1,a2⟩;refine⟨trivial, ?_⟩;rintro⟨bn,bd,a9,_⟩ _ ⟨b1,b2⟩;change Int at an ad bn bd;simp only at a1 a2 b1 b2⊢;refine⟨fun h=>⟨trivial, ?_⟩,fun _=>⟨trivial, ?_⟩⟩
 . rw[L8,qC]at h;have sp:H7 p:=qX fun hn=>by have:=a2 hn;rw[this]at h;exact absurd h.1 (by decide)
   have sq:H7 q:=qX fun hn=>by have:=b2 hn;rw[this]at h;exact absurd h.2 (by decide)
   obtain⟨ea,ed,_⟩:=a1 sp;obtain⟨eb,ee,_⟩:=b1 sq;obtain⟨x1,x2,x3,x4⟩:=Ke sp;obtain⟨y1,y2,y3,y4⟩:=Ke sq;have h1:=Pd (a:=an) (b:=bd) (M:=2147483647) (N:=2147483647) (by omega) (by omega) (by omega) (by omega);have h2:=Pd (a:=bn) (b:=ad) (M:=2147483647) (N:=2147483647) (by omega) (by omega) (by omega) (by omega);rintro⟨r,_⟩ _ hr;simp only at hr⊢;rw[wv (by omega),wv (by omega)]at hr;rw[hr, <-Sf p, <-Sf q, <-ea, <-ed, <-eb, <-ee,QD (by omega) (by omega),sN (by omega),sN (by omega)]
 . rintro⟨n,d,_⟩ ⟨ae,aa,_⟩ h1;refine⟨trivial, ?_⟩;rintro⟨m,e,_⟩ ⟨ac,ab,_⟩ h2;change Jt at n m;change List Int at d e;simp only at h1 h2⊢;obtain⟨d0,hP⟩:=Ku h1;obtain⟨e0,hQ⟩:=Ku h2;obtain⟨n1,d1⟩:=Hm (k:=2199023255552) h1 a0 a3 (by decide);obtain⟨m1,e1⟩:=Hm (k:=2199023255552) h2 a5 a6 (by decide);rw[hP,hQ];refine⟨⟨by show n.2.length<= _;omega,by show e.length<= _;omega⟩, ?_⟩;rintro⟨u,_⟩ _ hu;refine⟨⟨by show m.2.length<= _;omega,by show d.length<= _;omega⟩, ?_⟩;rintro⟨v,_⟩ _ hv;simp only at hu hv⊢;refine⟨trivial, ?_⟩;rintro⟨r,_⟩ _ hr;simp only at hr⊢;rw[hr,hu,hv,U4,U4,Jc,Jc,QD d0 e0]
def A8v (q:C0):rv ((!q.1.1,q.1.2),q.2)= -rv q:=by
 unfold rv;rw[Rat.neg_mkRat];congr 1;unfold iv;cases h:q.1.1<;>simp
def FF (x:A2 Co.args) (hw:awf Co.args x) (hp:Co.pre x):Ue x:=by
 obtain⟨p,q,_⟩:=x;change C0 at p q;simp only[Ue];refine⟨hp, ?_⟩;rintro⟨r,_⟩ _ u;simp only at u⊢;rw[u,A8v,tK]
def A8d {n:Nat} (h:n≠0):mkRat (n:Int) n=1:=by
 rw[zR];rw[wS];exact g0t _ (fun e=>h (Rat.natCast_eq_zero_iff.1 e))
def A8w {q:C0} (h:rv q≠0):rv ((q.1.1,q.2),q.1.2)=(rv q)⁻¹:=by
 have u:nv q.2≠0:=fun e=>h (by unfold rv;rw[e,yH])
 have h1:nv q.1.2≠0:=fun e=>h (by unfold rv iv;rw[e];split<;>simp)
 have key:rv ((q.1.1,q.2),q.1.2)*rv q=1:=by
  unfold rv;have e:iv (q.1.1,q.2)*iv q.1=((nv q.1.2*nv q.2:Nat):Int):=by
   unfold iv;rw[uF,g1s (nv q.1.2:Int)];cases q.1.1<;>simp[Int.neg_mul_neg]
  rw[g0d,e];exact A8d (yZ h1 u)
 rw[<-g2p (rv ((q.1.1,q.2),q.1.2)), <-g0t _ h, <-wG,key,yI]
def FB (x:A2 Cn.args) (hw:awf Cn.args x) (hp:Cn.pre x):Ua x:=by
 obtain⟨p,q,_⟩:=x;change C0 at p q;obtain⟨a0,u⟩:F3 p/\F3 q:=hp;simp only[Ua,iB];refine⟨trivial, ?_⟩;rintro⟨s,_⟩ _ hs;change Int at s;simp only at hs⊢;refine⟨fun h=> ?_,fun h=>⟨⟨a0,u.2,u.1⟩, ?_⟩⟩
 . have h0:=MJ (hs▸qA h);exact⟨fun _=>by trivial,fun hn=>absurd h0 hn⟩
 . have h:=qB h;have hn:rv q≠0:=fun e=>h (by rw[hs,e];rfl)
   rintro⟨r,_⟩ _ hr;simp only at hr⊢;refine⟨fun e=>absurd e hn,fun _=>⟨?_,by trivial⟩⟩;rw[hr,A8w hn, <-wS]
def G6:A6:= {args:= [.val false (.sl (.int .i64)), .val false (.sl (.int .i64))],res:= [.val false .bool],shared:=false,pre:=fun(x:(List Int)×(List Int)×Unit)=>True,post:=fun(x:(List Int)×(List Int)×Unit) (r:Bool×Unit)=>r.1=true}
def Cj:A6:=Ah [.val false (.sl (.int .i64))] [.val true (.pair (.int .i64) (.sl (.pair (.int .i64) (.pair (.int .i64) (.pair tQ tQ)))))] (fun(x:(List Int)×Unit)=>True) (fun(x:(List Int)×Unit) (r:(Int×(List (Int×(Int×(QQ×QQ)))))×Unit)=>A7m r.1)
def Dw:A6:= {args:= [],res:= [.val false .bool],shared:=false,pre:=fun(x:Unit)=>True,post:=fun(x:Unit) (r:Bool×Unit)=>r.1=true}
def Lb:A6:= {args:= [.val false (.int .i64), .val false (.int .i64)],res:= [.val false (.int .i64)],shared:=false,pre:=fun(x:Int×Int×Unit)=>0<x.2.1,post:=fun(x:Int×Int×Unit) (r:Int×Unit)=>0<x.2.1->0<=r.1/\r.1<x.2.1/\r.1=(u64.wrap x.1).tmod x.2.1}
def Lc:A6:=Ah [.val false (.sl (.int .i64))] [.obox 60 (.pair (.sl (.int .i64)) (.int .i64))] (fun(x:(List Int)×Unit)=>True) (fun(x:(List Int)×Unit) (r:((List Int)×Int)×Unit)=>r.1=(x.1,0))
def Cd:A6:=Ah [.val true (.pair (.int .i64) (.sl (.pair (.int .i64) (.pair (.int .i64) (.pair tQ tQ))))), .val false (.sl tQ)] [.own tQ 38, .val false (.int .i64)] (fun(x:(Int×(List (Int×(Int×(QQ×QQ)))))×(List QQ)×Unit)=>E7 x.1->Al x.1/\Ht 128 x.2.1) (fun(x:(Int×(List (Int×(Int×(QQ×QQ)))))×(List QQ)×Unit) (r:(List QQ)×Int×Unit)=>(¬E7 x.1->r.1= []/\r.2.1=1)/\(E7 x.1->((x.2.1.length:Int)≠x.1.1->r.1= []/\r.2.1=4)/\((x.2.1.length:Int)=x.1.1->(¬U3 (L9 x.1.1 (Pw x.1.2)) x.2.1->r.1= []/\r.2.1=14)/\(U3 (L9 x.1.1 (Pw x.1.2)) x.2.1->r.2.1=0/\Ht K2 r.1/\∃t:Nat->Rat,(∀b,b<x.1.1.toNat->Zj x.1.2 (Ur x.1.2 t) b=N7 x.2.1 b)/\r.1=LV x.1.2.length (Ur x.1.2 t)))))
def Lk:A6:= {args:= [.val false (.sl tQ), .val false (.sl tQ)],res:= [.val false .bool],shared:=false,pre:=fun(x:(List QQ)×(List QQ)×Unit)=>(∀e∈x.1,F3 e)/\∀e∈x.2.1,F3 e,post:=fun(x:(List QQ)×(List QQ)×Unit) (r:Bool×Unit)=>r.1=decide (x.1=x.2.1/\∀e∈x.1,e=rc (rv e))}
def Y0:A6:=mkM [.box 60 (.pair (.sl (.int .i64)) (.int .i64)), .val false (.int .i64)] [.own tQ 38] (fun(x:((List Int)×Int)×Int×Unit)=>x.2.1<=1000/\0<=x.1.2/\x.1.2<=(x.1.1.length:Int)) (fun(x:((List Int)×Int)×Int×Unit) (r:(List QQ)×Unit)=>(r.1.length:Int)=max x.2.1 0/\∀e∈r.1,Kk e) (fun(x:((List Int)×Int)×Int×Unit) (r:(List QQ)×Unit) (o:((List Int)×Int)×Unit)=>o.1.1=x.1.1/\0<=o.1.2/\o.1.2<=(x.1.1.length:Int))
def Ef:A6:=Ah [.val false (.int .i64), .val false (.sl (.pair (.int .i64) (.int .i64)))] [.val false (.sl (.int .i64))] (fun(x:Int×(List (Int×Int))×Unit)=>SB x.1 x.2.1) (fun(x:Int×(List (Int×Int))×Unit) (r:(List Int)×Unit)=>r.1=L9 x.1 x.2.1)
def Im:A6:=Ah [.val true (.pair (.int .i64) (.sl (.pair (.int .i64) (.pair (.int .i64) (.pair tQ tQ)))))] [.val false (.sl (.pair (.int .i64) (.int .i64)))] (fun(x:(Int×(List (Int×(Int×(QQ×QQ)))))×Unit)=>x.1.2.length<=100000) (fun(x:(Int×(List (Int×(Int×(QQ×QQ)))))×Unit) (r:(List (Int×Int))×Unit)=>r.1=Pw x.1.2)
def X9:A6:=mkM [.box 60 (.pair (.sl (.int .i64)) (.int .i64)), .val false (.int .i64)] [.val false (.int .i64)] (fun(x:((List Int)×Int)×Int×Unit)=>0<x.2.1/\0<=x.1.2/\x.1.2<=(x.1.1.length:Int)) (fun(x:((List Int)×Int)×Int×Unit) (r:Int×Unit)=>0<=r.1/\r.1<x.2.1) (fun(x:((List Int)×Int)×Int×Unit) (r:Int×Unit) (o:((List Int)×Int)×Unit)=>o.1.1=x.1.1/\0<=o.1.2/\o.1.2<=(x.1.1.length:Int))
def N9:A6:=mkM [.box 60 (.pair (.sl (.int .i64)) (.int .i64))] [.val true tQ] (fun(x:((List Int)×Int)×Unit)=>0<=x.1.2/\x.1.2<=(x.1.1.length:Int)) (fun(x:((List Int)×Int)×Unit) (r:QQ×Unit)=>Kk r.1/\0<rv r.1) (fun(x:((List Int)×Int)×Unit) (r:QQ×Unit) (o:((List Int)×Int)×Unit)=>o.1.1=x.1.1/\0<=o.1.2/\o.1.2<=(x.1.1.length:Int))
def Ax:A6:=mkM [.box 60 (.pair (.sl (.int .i64)) (.int .i64))] [.val true tQ] (fun(x:((List Int)×Int)×Unit)=>0<=x.1.2/\x.1.2<=(x.1.1.length:Int)) (fun(x:((List Int)×Int)×Unit) (r:QQ×Unit)=>Kk r.1) (fun(x:((List Int)×Int)×Unit) (r:QQ×Unit) (o:((List Int)×Int)×Unit)=>o.1.1=x.1.1/\0<=o.1.2/\o.1.2<=(x.1.1.length:Int))
def Av:A6:=Ah [.val true (.pair (.int .i64) (.sl (.pair (.int .i64) (.pair (.int .i64) (.pair tQ tQ))))), .val false (.sl tQ)] [.val false (.sl tQ), .val false (.int .i64)] (fun(x:(Int×(List (Int×(Int×(QQ×QQ)))))×(List QQ)×Unit)=>E7 x.1->Al x.1/\Ht 128 x.2.1) (fun(x:(Int×(List (Int×(Int×(QQ×QQ)))))×(List QQ)×Unit) (r:(List QQ)×Int×Unit)=>(¬E7 x.1->r.1= []/\r.2.1=1)/\(E7 x.1->((x.2.1.length:Int)≠x.1.1->r.1= []/\r.2.1=4)/\((x.2.1.length:Int)=x.1.1->(¬U3 (L9 x.1.1 (Pw x.1.2)) x.2.1->r.1= []/\r.2.1=14)/\(U3 (L9 x.1.1 (Pw x.1.2)) x.2.1->r.2.1=0/\(r.1.length:Int)=x.1.1/\(∀e∈r.1,e=rc (rv e))/\Ht K0 r.1/\(∀b,b<x.1.1.toNat->Zj x.1.2 (Ur x.1.2 (N7 r.1)) b=N7 x.2.1 b)/\∀b,b<x.1.1.toNat->W6 x.1 b=b->N7 r.1 b=0))))
def X8:A6:=Ah [.val false (.int .i64)] [.val true (.pair (.int .i64) (.sl (.pair (.int .i64) (.pair (.int .i64) (.pair tQ tQ)))))] (fun(x:Int×Unit)=>True) (fun(x:Int×Unit) (r:(Int×(List (Int×(Int×(QQ×QQ)))))×Unit)=>r.1=(3,[(0,1,rc 1,zr),(1,2,rc 1,zr),(0,2,rc 1,ri x.1)]))
def Fx:A6:=Ah [.val false (.sl (.int .i64))] [.val false (.sl tQ)] (fun(x:(List Int)×Unit)=>x.1.length<=1000) (fun(x:(List Int)×Unit) (r:(List QQ)×Unit)=>r.1=x.1.map ri)
def Ce:A6:= {args:= [.val true (.pair (.int .i64) (.sl (.pair (.int .i64) (.pair (.int .i64) (.pair tQ tQ)))))],res:= [.val false .bool],shared:=false,pre:=fun(x:(Int×(List (Int×(Int×(QQ×QQ)))))×Unit)=>True,post:=fun(x:(Int×(List (Int×(Int×(QQ×QQ)))))×Unit) (r:Bool×Unit)=>r.1=decide (E7 x.1)}
def Aw:A6:=Ah [.val true (.pair (.int .i64) (.sl (.pair (.int .i64) (.pair (.int .i64) (.pair tQ tQ)))))] [.val false (.sl (.int .i64))] (fun(x:(Int×(List (Int×(Int×(QQ×QQ)))))×Unit)=>E7 x.1) (fun(x:(Int×(List (Int×(Int×(QQ×QQ)))))×Unit) (r:(List Int)×Unit)=>r.1=L9 x.1.1 (Pw x.1.2))
def V3:A6:= {args:= [.val false (.sl (.int .i64)), .val false (.sl tQ)],res:= [.val false .bool],shared:=false,pre:=fun(x:(List Int)×(List QQ)×Unit)=>x.1.length=x.2.1.length/\x.1.length<=7/\(∀b∈x.1,0<=b/\b<(x.1.length:Int))/\Ht K0 x.2.1,post:=fun(x:(List Int)×(List QQ)×Unit) (r:Bool×Unit)=>r.1=decide (U3 x.1 x.2.1)}
def Dr:A6:=Ah [.val true (.pair (.int .i64) (.sl (.pair (.int .i64) (.pair (.int .i64) (.pair tQ tQ))))), .val false (.sl tQ)] [.val false (.sl tQ)] (fun(x:(Int×(List (Int×(Int×(QQ×QQ)))))×(List QQ)×Unit)=>E7 x.1/\x.1.2.length<=9/\x.2.1.length=x.1.2.length/\Ht K2 x.2.1) (fun(x:(Int×(List (Int×(Int×(QQ×QQ)))))×(List QQ)×Unit) (r:(List QQ)×Unit)=>r.1=LV x.1.1.toNat (Zj x.1.2 (N7 x.2.1)))
def Cf:A6:=Ah [.val true (.pair (.int .i64) (.sl (.pair (.int .i64) (.pair (.int .i64) (.pair tQ tQ))))), .val false (.sl (.int .i64)), .val false (.sl tQ)] [.val false (.sl tQ), .val false (.int .i64)] (fun(x:(Int×(List (Int×(Int×(QQ×QQ)))))×(List Int)×(List QQ)×Unit)=>E7 x.1/\Al x.1/\x.2.1.Nodup/\x.2.1.length<=6/\(∀b∈x.2.1,0<=b/\b<x.1.1)/\x.2.2.1.length=x.2.1.length/\Ht 256 x.2.2.1/\nonsing x.2.1.length (fun a c=>Ry x.1.2 (ix x.2.1 a) (ix x.2.1 c))) (fun(x:(Int×(List (Int×(Int×(QQ×QQ)))))×(List Int)×(List QQ)×Unit) (r:(List QQ)×Int×Unit)=>r.2.1=0/\r.1.length=x.2.1.length/\(∀e∈r.1,e=rc (rv e))/\Ht K0 r.1/\∀a,a<x.2.1.length->C6 x.2.1.length (fun c=>Ry x.1.2 (ix x.2.1 a) (ix x.2.1 c)*N7 r.1 c)=N7 x.2.2.1 a)
def T4:A6:=Ah [.val false (.int .i64), .val false (.sl (.pair (.int .i64) (.int .i64)))] [.val false (.sl (.int .i64)), .val false (.int .i64)] (fun(x:Int×(List (Int×Int))×Unit)=>True) (fun(x:Int×(List (Int×Int))×Unit) (r:(List Int)×Int×Unit)=>r.1=(if Se x.1 x.2.1=0 then L9 x.1 x.2.1 else [])/\r.2.1=Se x.1 x.2.1)
def F8:A6:= {args:= [.val false (.sl tQ), .fn [(true,tQ)] false .bool],res:= [.val false .bool],shared:=false,pre:=fun(x:(List QQ)×(((QQ×Unit)->Prop)×((QQ×Unit)->Bool))×Unit)=>∀i∈x.1,x.2.1.1 (i,()),post:=fun(x:(List QQ)×(((QQ×Unit)->Prop)×((QQ×Unit)->Bool))×Unit) (r:Bool×Unit)=>r.1=decide (∃i∈x.1,x.2.1.2 (i,())=true)}
def P7:A6:= {args:= [.val true tQ],res:= [.val false .bool],shared:=false,pre:=fun(x:QQ×Unit)=>True,post:=fun(x:QQ×Unit) (r:Bool×Unit)=>r.1=decide (rv x.1≠0)}
def S6:A6:=Ah [.val true (.pair (.int .i64) (.sl (.pair (.int .i64) (.pair (.int .i64) (.pair tQ tQ)))))] [.val true tM, .val false (.int .i64)] (fun(x:(Int×(List (Int×(Int×(QQ×QQ)))))×Unit)=>E7 x.1->Al x.1) (fun(x:(Int×(List (Int×(Int×(QQ×QQ)))))×Unit) (r:MM×Int×Unit)=>(¬E7 x.1->r.1=zm/\r.2.1=1)/\(E7 x.1->pC x.1.1.toNat x.1.1.toNat (Ry x.1.2) r.1/\r.2.1=0))
def Ay:A6:=Ah [.val true tM, .val false (.sl (.int .i64)), .val false (.sl (.int .i64))] [.val true tM, .val false (.int .i64)] (fun(x:MM×(List Int)×(List Int)×Unit)=>Fe K1 x.1/\x.2.1.length<=1000/\x.2.2.1.length<=1000/\x.2.2.1.Nodup) (fun(x:MM×(List Int)×(List Int)×Unit) (r:MM×Int×Unit)=>(¬F4 x.1->r.1=zm/\r.2.1=1)/\(F4 x.1->(((∃i∈x.2.1,i<0\/x.1.1<=i)\/(∃i∈x.2.2.1,i<0\/x.1.2.1<=i))->r.1=zm/\r.2.1=3)/\(¬((∃i∈x.2.1,i<0\/x.1.1<=i)\/(∃i∈x.2.2.1,i<0\/x.1.2.1<=i))->((16384<x.2.1.length\/16384<x.2.2.1.length)->r.1=zm/\r.2.1=8)/\(x.2.1.length<=16384/\x.2.2.1.length<=16384->pC x.2.1.length x.2.2.1.length (fun i j=>el x.1 (x.2.1.getD i 0).toNat (x.2.2.1.getD j 0).toNat) r.1/\r.2.1=0))))
def P3:A6:=Ah [.val true tM] [.val true (.pair (.sl (.int .i64)) (.pair (.sl (.int .i64)) (.pair tM tM))), .val false (.int .i64)] (fun(x:MM×Unit)=>∃s:Nat,1<=s/\Fe s x.1/\s<=K1/\(F4 x.1->x.1.1=x.1.2.1->sK s (x.1.1.toNat-1)<=K1)) (fun(x:MM×Unit) (r:((List Int)×((List Int)×(MM×MM)))×Int×Unit)=>(¬F4 x.1->r.1=bZ/\r.2.1=1)/\(F4 x.1->(x.1.1≠x.1.2.1->r.1=bZ/\r.2.1=4)/\(x.1.1=x.1.2.1->(¬nonsing x.1.1.toNat (el x.1)->r.1=bZ/\r.2.1=6)/\(nonsing x.1.1.toNat (el x.1)->Bv r.1 x.1.1/\r.2.1=0/\(∀v∈r.1.2.2.1.2.2,Gm v)/\(∀v∈r.1.2.2.2.2.2,Gm v)/\(∀s:Nat,1<=s->Fe s x.1->∀i j:Nat,i<x.1.1.toNat->qs (sK s x.1.1.toNat) (el r.1.2.2.1 i j)/\qs (sK s i) (el r.1.2.2.2 i j))/\∀i j:Nat,i<x.1.1.toNat->j<x.1.1.toNat->luM r.1 x.1.1.toNat i j=el x.1 (ix r.1.1 i) (ix r.1.2.1 j)))))
def Cg:A6:=Ah [.val true (.pair (.sl (.int .i64)) (.pair (.sl (.int .i64)) (.pair tM tM))), .val false (.sl tQ)] [.val false (.sl tQ), .val false (.int .i64)] (fun(x:((List Int)×((List Int)×(MM×MM)))×(List QQ)×Unit)=>x.1.1.length<=16384/\Fe K1 x.1.2.2.1/\Fe K1 x.1.2.2.2/\(Bv x.1 x.1.1.length->x.2.1.length=x.1.1.length->∃s T:Nat,1<=s/\1<=T/\Fe s x.1.2.2.1/\Fe s x.1.2.2.2/\Ht T x.2.1/\hK s (gK s T x.1.1.length) x.1.1.length+s<=K1)) (fun(x:((List Int)×((List Int)×(MM×MM)))×(List QQ)×Unit) (r:(List QQ)×Int×Unit)=>(¬Bv x.1 x.1.1.length->r.1= []/\r.2.1=1)/\(Bv x.1 x.1.1.length->(x.2.1.length≠x.1.1.length->r.1= []/\r.2.1=4)/\(x.2.1.length=x.1.1.length->r.2.1=0/\r.1.length=x.1.1.length/\(∀e∈r.1,e=rc (rv e))/\(∀s T:Nat,1<=s->1<=T->Fe s x.1.2.2.1->Fe s x.1.2.2.2->Ht T x.2.1->Ht (hK s (gK s T x.1.1.length) x.1.1.length+s) r.1)/\∀i:Nat,i<x.1.1.length->C6 x.1.1.length (fun j=>luM x.1 x.1.1.length i j*rv (r.1.getD (ix x.1.2.1 j) zr))=rv (x.2.1.getD (ix x.1.1 i) zr))))
def Z8:A6:= {args:= [.val false (.int .i64), .val false (.sl (.pair (.int .i64) (.int .i64)))],res:= [.val false (.int .i64)],shared:=false,pre:=fun(x:Int×(List (Int×Int))×Unit)=>True,post:=fun(x:Int×(List (Int×Int))×Unit) (r:Int×Unit)=>r.1=Se x.1 x.2.1}
def Q3:A6:= {args:= [.val false (.int .i64)],res:= [.own (.int .i64) 3],shared:=false,pre:=fun(x:Int×Unit)=>0<=x.1/\x.1<=16384,post:=fun(x:Int×Unit) (r:(List Int)×Unit)=>r.1=eN x.1}
def O2:A6:= {args:= [.row (.int .i64) 3, .val true (.pair (.int .i64) (.int .i64))],res:= [.val false .bool],shared:=false,pre:=fun(x:(List Int)×(Int×Int)×Unit)=>UF x.1/\NV x.1.length x.2.1/\x.1.length<=16384,post:=fun(x:(List Int)×(Int×Int)×Unit) (r:Bool×Unit)=>r.1=decide (root x.1 x.2.1.1≠root x.1 x.2.1.2),mpost:=fun(x:(List Int)×(Int×Int)×Unit) (r:Bool×Unit) (o:(List Int)×Unit)=>UF o.1/\o.1.length=x.1.length/\∀i:Int,0<=i->i<(x.1.length:Int)->root o.1 i=if root x.1 i=max (root x.1 x.2.1.1) (root x.1 x.2.1.2)then min (root x.1 x.2.1.1) (root x.1 x.2.1.2)else root x.1 i}
def M5:A6:= {args:= [.row (.int .i64) 3, .val false (.int .i64)],res:= [.val false (.int .i64)],shared:=false,pre:=fun(x:(List Int)×Int×Unit)=>UF x.1/\0<=x.2.1/\x.2.1<(x.1.length:Int)/\x.1.length<=16384,post:=fun(x:(List Int)×Int×Unit) (r:Int×Unit)=>r.1=root x.1 x.2.1,mpost:=fun(x:(List Int)×Int×Unit) (r:Int×Unit) (o:(List Int)×Unit)=>UF o.1/\o.1.length=x.1.length/\∀i:Int,0<=i->i<(x.1.length:Int)->root o.1 i=root x.1 i}
def G9:A6:= {args:= [.val false (.sl tQ), .fn [(true,tQ)] false .bool],res:= [.val false (.int .i64)],shared:=false,pre:=fun(x:(List QQ)×(((QQ×Unit)->Prop)×((QQ×Unit)->Bool))×Unit)=>∀i∈x.1,x.2.1.1 (i,()),post:=fun(x:(List QQ)×(((QQ×Unit)->Prop)×((QQ×Unit)->Bool))×Unit) (r:Int×Unit)=>r.1=eP (fun i=>x.2.1.2 (i,())) x.1}
def Bi:A6:=Ah [.val false (.sl tE)] [.own tE 120] (fun(x:(List EE)×Unit)=>fO x.1) (fun(x:(List EE)×Unit) (r:(List EE)×Unit)=>VB (A8 x.1) r.1)
def S7:A6:= {args:= [.val true tM],res:= [.val false .bool],shared:=false,pre:=fun(x:MM×Unit)=>True,post:=fun(x:MM×Unit) (r:Bool×Unit)=>r.1=decide (F4 x.1)}
def I0:A6:= {args:= [.val false (.int .i64), .val false (.ptr (.int .i64))],res:= [.val false .bool],shared:=false,pre:=fun(x:Int×Int×Unit)=>True,post:=fun(x:Int×Int×Unit) (r:Bool×Unit)=>r.1=decide (x.1<0\/x.2.1<=x.1)}
def E3:A6:= {args:= [.val false (.sl (.int .i64)), .fn [(false,(.int .i64))] false .bool],res:= [.val false .bool],shared:=false,pre:=fun(x:(List Int)×(((Int×Unit)->Prop)×((Int×Unit)->Bool))×Unit)=>∀i∈x.1,x.2.1.1 (i,()),post:=fun(x:(List Int)×(((Int×Unit)->Prop)×((Int×Unit)->Bool))×Unit) (r:Bool×Unit)=>r.1=decide (∃i∈x.1,x.2.1.2 (i,())=true)}
def R3:A6:= {args:= [.val false (.int .i64)],res:= [.val false .bool],shared:=false,pre:=fun(x:Int×Unit)=>True,post:=fun(x:Int×Unit) (r:Bool×Unit)=>r.1=decide (0<=x.1/\x.1<=16384)}
def R4:A6:=Ah [.val false (.sl tE), .val false (.sl (.int .i64))] [.val false (.sl tE), .val false .bool] (fun(x:(List EE)×(List Int)×Unit)=>YC K1 x.1/\x.2.1.length<=100000) (fun(x:(List EE)×(List Int)×Unit) (r:(List EE)×Bool×Unit)=>K3 x.2.1 x.2.1.length->(∀j,A8 x.1 j≠0->0<=j/\j<x.2.1.length)->VB (fun i=>if 0<=i/\i<x.2.1.length then A8 x.1 (((List.idxOf i x.2.1:Nat)):Int)else 0) r.1/\r.2.1=true)
def X6:A6:= {args:= [.val true (.pair (.sl (.int .i64)) (.pair (.sl (.int .i64)) (.pair tM tM))), .val false (.sl tQ)],res:= [.val false (.int .i64)],shared:=false,pre:=fun(x:((List Int)×((List Int)×(MM×MM)))×(List QQ)×Unit)=>x.1.1.length<=16384/\Fe K1 x.1.2.2.1/\Fe K1 x.1.2.2.2,post:=fun(x:((List Int)×((List Int)×(MM×MM)))×(List QQ)×Unit) (r:Int×Unit)=>(¬Bv x.1 x.1.1.length->r.1=1)/\(Bv x.1 x.1.1.length->(x.2.1.length≠x.1.1.length->r.1=4)/\(x.2.1.length=x.1.1.length->r.1=0))}
def Ds:A6:=Ah [.val true tQ, .val true tQ, .val true tQ] [.val true tQ] (fun(x:QQ×QQ×QQ×Unit)=>sz K1 x.1/\sz K1 x.2.1/\sz K1 x.2.2.1) (fun(x:QQ×QQ×QQ×Unit) (r:QQ×Unit)=>(rv x.2.2.1=0->r.1=x.1)/\(rv x.2.2.1≠0->r.1=rc (rv x.1-rv x.2.1*rv x.2.2.1)))
def Cq:A6:=Ah [.val false (.sl tE), .val false (.sl tE), .fn [(true,tQ),(true,tQ)] true tQ] [.own tE 120] (fun(x:(List EE)×(List EE)×(((QQ×QQ×Unit)->Prop)×((QQ×QQ×Unit)->QQ))×Unit)=>x.1.length<=100000/\x.2.1.length<=100000/\∀u v,(u=zr\/∃e∈x.1,e.2=u)->(v=zr\/∃e∈x.2.1,e.2=v)->x.2.2.1.1 (u,v,())) (fun(x:(List EE)×(List EE)×(((QQ×QQ×Unit)->Prop)×((QQ×QQ×Unit)->QQ))×Unit) (r:(List EE)×Unit)=>r.1=H1 x.2.2.1.2 x.1 x.2.1)
def Z9:A6:=Ah [.val false (.sl tE)] [.val false (.sl tE)] (fun(x:(List EE)×Unit)=>WK x.1) (fun(x:(List EE)×Unit) (r:(List EE)×Unit)=>(Gl x.1->r.1=x.1)/\(¬Gl x.1->Gl r.1/\(∀j,A8 r.1 j=A8 x.1 j)/\r.1.length<=20/\gU 16777216 r.1))
def Bb:A6:=Ah [.val true tQ, .val true tQ] [.val true tQ] (fun(x:QQ×QQ×Unit)=>F3 x.1) (fun(x:QQ×QQ×Unit) (r:QQ×Unit)=>r.1=rc (rv x.1))
def Cp:A6:= {args:= [.val false (.sl tE), .val false (.int .i64)],res:= [.val false .bool],shared:=false,pre:=fun(x:(List EE)×Int×Unit)=>True,post:=fun(x:(List EE)×Int×Unit) (r:Bool×Unit)=>r.1=decide (K5 x.1 x.2.1)}
def H0:A6:= {args:= [.val false (.sl (.int .i64)), .fn [(false,(.int .i64))] false .bool],res:= [.val false (.int .i64)],shared:=false,pre:=fun(x:(List Int)×(((Int×Unit)->Prop)×((Int×Unit)->Bool))×Unit)=>∀i∈x.1,x.2.1.1 (i,()),post:=fun(x:(List Int)×(((Int×Unit)->Prop)×((Int×Unit)->Bool))×Unit) (r:Int×Unit)=>r.1=eO (fun i=>x.2.1.2 (i,())) x.1}
def Di:A6:=Ah [.val false (.sl tE), .val false (.int .i64)] [.val true tQ] (fun(x:(List EE)×Int×Unit)=>YC K1 x.1) (fun(x:(List EE)×Int×Unit) (r:QQ×Unit)=>r.1=rc (A8 x.1 x.2.1))
def M8:A6:=Ah [.val false (.sl tE), .val true tQ, .val false (.sl tE)] [.val false (.sl tE)] (fun(x:(List EE)×QQ×(List EE)×Unit)=>YC K1 x.1/\sz K1 x.2.1/\YC K1 x.2.2.1) (fun(x:(List EE)×QQ×(List EE)×Unit) (r:(List EE)×Unit)=>VB (fun i=>A8 x.1 i+rv x.2.1*A8 x.2.2.1 i) r.1)
def L2:A6:= {args:= [.val false (.sl (.int .i64))],res:= [.val false .bool],shared:=false,pre:=fun(x:(List Int)×Unit)=>x.1.length<=100000,post:=fun(x:(List Int)×Unit) (r:Bool×Unit)=>r.1=decide (K3 x.1 x.1.length)}
def Aa:A6:= {args:= [.val true tE, .val true tE],res:= [.val false (.int .i64)],shared:=false,pre:=fun(x:EE×EE×Unit)=>True,post:=fun(x:EE×EE×Unit) (r:Int×Unit)=>r.1=J0 x.1.1 x.2.1.1}
def P8:A6:= {args:= [.val true (.pair (.sl (.int .i64)) (.pair (.sl (.int .i64)) (.pair tM tM))), .val false (.int .i64)],res:= [.val false .bool],shared:=false,pre:=fun(x:((List Int)×((List Int)×(MM×MM)))×Int×Unit)=>0<=x.2.1/\x.2.1<=16384/\Fe K1 x.1.2.2.1/\Fe K1 x.1.2.2.2,post:=fun(x:((List Int)×((List Int)×(MM×MM)))×Int×Unit) (r:Bool×Unit)=>r.1=true↔Bv x.1 x.2.1}
def T5:A6:= {args:= [.val false (.sl tE)],res:= [.val false .bool],shared:=false,pre:=fun(x:(List EE)×Unit)=>True,post:=fun(x:(List EE)×Unit) (r:Bool×Unit)=>r.1=decide (Gl x.1)}
def D9:A6:=mkM [.row tE 120, .fn [(true,tE),(true,tE)] false (.int .i64)] [] (fun(x:(List EE)×(((EE×EE×Unit)->Prop)×((EE×EE×Unit)->Int))×Unit)=>Wr x.2.1.1 x.2.1.2/\x.1.length<=20) (fun(x:(List EE)×(((EE×EE×Unit)->Prop)×((EE×EE×Unit)->Int))×Unit) (r:Unit)=>True) (fun(x:(List EE)×(((EE×EE×Unit)->Prop)×((EE×EE×Unit)->Int))×Unit) (r:Unit) (o:(List EE)×Unit)=>o.1.Perm x.1/\Uy x.2.1.2 o.1)
def E2:A6:=mkM [.row tE 120, .val false (.int .i64), .val false (.int .i64), .fn [(true,tE),(true,tE)] false (.int .i64)] [] (fun(x:(List EE)×Int×Int×(((EE×EE×Unit)->Prop)×((EE×EE×Unit)->Int))×Unit)=>Wr x.2.2.2.1.1 x.2.2.2.1.2/\0<=x.2.1/\x.2.1<=x.2.2.1/\x.2.2.1<=(x.1.length:Int)/\x.1.length<=100000) (fun(x:(List EE)×Int×Int×(((EE×EE×Unit)->Prop)×((EE×EE×Unit)->Int))×Unit) (r:Unit)=>True) (fun(x:(List EE)×Int×Int×(((EE×EE×Unit)->Prop)×((EE×EE×Unit)->Int))×Unit) (r:Unit) (o:(List EE)×Unit)=>o.1.Perm x.1/\o.1.take x.2.1.toNat=x.1.take x.2.1.toNat/\o.1.drop x.2.2.1.toNat=x.1.drop x.2.2.1.toNat/\Uy x.2.2.2.1.2 ((o.1.drop x.2.1.toNat).take (x.2.2.1.toNat-x.2.1.toNat)))
def O3:A6:=Ah [.val true tQ, .val true tQ, .val false (.ptr tQ)] [.val true tQ] (fun(x:QQ×QQ×QQ×Unit)=>sz K1 x.1/\sz K1 x.2.1/\sz K1 x.2.2.1) (fun(x:QQ×QQ×QQ×Unit) (r:QQ×Unit)=>r.1=rc (rv x.1+rv x.2.2.1*rv x.2.1))
def K8:A6:= {args:= [.val false (.sl (.int .i64)), .val false (.int .i64)],res:= [.val false .bool],shared:=false,pre:=fun(x:(List Int)×Int×Unit)=>0<=x.2.1/\x.2.1<=16384,post:=fun(x:(List Int)×Int×Unit) (r:Bool×Unit)=>r.1=decide (K3 x.1 x.2.1)}
def M0:A6:= {args:= [.val true tM, .val false (.ptr (.int .i64))],res:= [.val false .bool],shared:=false,pre:=fun(x:MM×Int×Unit)=>True,post:=fun(x:MM×Int×Unit) (r:Bool×Unit)=>r.1=decide (sqr x.1 x.2.1)}
def G3:A6:=mkM [.row tE 120, .val false (.int .i64), .fn [(true,tE),(true,tE)] false (.int .i64)] [] (fun(x:(List EE)×Int×(((EE×EE×Unit)->Prop)×((EE×EE×Unit)->Int))×Unit)=>Wr x.2.2.1.1 x.2.2.1.2/\x.2.1=(x.1.length:Int)/\x.1.length<=20) (fun(x:(List EE)×Int×(((EE×EE×Unit)->Prop)×((EE×EE×Unit)->Int))×Unit) (r:Unit)=>True) (fun(x:(List EE)×Int×(((EE×EE×Unit)->Prop)×((EE×EE×Unit)->Int))×Unit) (r:Unit) (o:(List EE)×Unit)=>o.1.Perm x.1/\Uy x.2.2.1.2 o.1)
def Hr:A6:=Ah [.row tE 120, .val false (.int .i64), .val false (.int .i64), .val false (.int .i64), .fn [(true,tE),(true,tE)] false (.int .i64)] [] (fun(x:(List EE)×Int×Int×Int×(((EE×EE×Unit)->Prop)×((EE×EE×Unit)->Int))×Unit)=>False) (fun(x:(List EE)×Int×Int×Int×(((EE×EE×Unit)->Prop)×((EE×EE×Unit)->Int))×Unit) (r:Unit)=>True)
def AS:An:= {loop:= [(2,⟨[0],[],[(3,false,vI)],[],[]⟩)],plan:= [(4,[5,10],[],true,(pR 0 5 (.q 5 (pR 6 4 (.q 10 (.p 11 .done))))))]}
def NU:An:= {join:= [(13,⟨[2,7,9,10],[1],[(0,false,[.val (.sl tE)]),(1,false,[.val (.sl tE)]),(8,false,vI)],[(2,38,[.val .bool, .val (.sl (.int .u32)), .val (.sl (.int .u32))]),(3,38,[.val .bool, .val (.sl (.int .u32)), .val (.sl (.int .u32))])],[]⟩)],loop:= [(2,⟨[2],[],[(0,false,[.val (.sl tE)]),(1,false,[.val (.sl tE)]),(7,false,[.own tE 120])],[],[]⟩)],plan:= [(5,[11,15],[],true,(pR 0 11 (.q 11 (pR 12 3 (.q 15 (pR 16 3 .done)))))),(6,[3,7],[9],true,(pR 0 3 (.q 3 (pR 4 3 (.q 7 (.p 8 (.e 9 .done))))))),(11,[3,7],[9],true,(pR 0 3 (.q 3 (pR 4 3 (.q 7 (.p 8 (.e 9 .done)))))))]}
def NT:An:= {loop:= [(4,⟨[1,10,11],[],[(12,false,vI)],[],[]⟩)]}
def IX:An:= {}
def PW:An:= {}
def VK:An:= {join:= [(7,⟨[1,4,5,9,10,11],[0],[],[(1,38,[.val .bool, .val (.sl (.int .u32)), .val (.sl (.int .u32))])],[]⟩)],loop:= [(3,⟨[1,4,5,9,10],[0],[(11,false,vI)],[(1,38,[.val .bool, .val (.sl (.int .u32)), .val (.sl (.int .u32))])],[]⟩)]}
def Uo:An:= {plan:= [(3,[0,1,2],[5],true,(.q 0 (.q 1 (.q 2 (.e 3 (.e 4 (.e 5 .done)))))))]}
def AR:An:= {}
def Ow:An:= {loop:= [(3,⟨[0,3,9,10],[],[(11,false,vI)],[],[(0, .row .bool 4)]⟩)]}
def Js:A2 T5.args->Prop:=fun(x:List EE×Unit)=>let d:=(1:Int);let a:=(x.1.length:Int);∃(I:Int×Unit->Prop),∃(μ: _->Nat),I (d,())/\∀(p:Int×Unit),let c:=(i64.wrap (p.1+d),());let b:Prop:=((gx F1 x.1 p.1).1<=(gx F1 x.1 (i64.wrap (p.1-d))).1);(Ty.int i64).wf p.1/\True->I p->(iB (decide (p.1<a)) (((0:Int)<=i64.wrap (p.1-d)/\i64.wrap (p.1-d)<a)/\(0<=p.1/\p.1<a)/\(iB (decide b) (false=decide (Gl x.1)) (I c/\μ c<μ p))) (true=decide (Gl x.1)))
def Ug:A2 Cq.args->Prop:=fun(x:List EE×List EE×((QQ×QQ×Unit->Prop)×(QQ×QQ×Unit->(Bool×List Int)×List Int))×Unit)=>let j:=(x.1.length:Int);let i:=(x.2.1.length:Int);let h:=(1:Int);let o:=h.toNat;let c:=(0:Int);(c<=c/\c<=Max.max j i/\(↑(64:Nat):Int)*Max.max j i<=(281474976710656:Int)/\Max.max j i<=(9223372036854775807:Int))/\∃(I:List EE×List EE×List EE×Unit->Prop),∃(μ: _->Nat),I (x.1,x.2.1,List.replicate c.toNat F1,())/\∀(p:List EE×List EE×List EE×Unit),let f:=(gx F1 p.1 c);let e:=(gx F1 p.2.1 c);let u:=(decide (e.1=f.1));let d:=(p.1.length:Int);let q:=(decide (c<d));let k:=(K7 q (decide (f.1<=e.1)) false);let b:=(p.2.1.length:Int);let t:Prop:=(c<=h/\h<=b/\b<=b);let s:Prop:=(c<=c/\c<b);let m:=(decide (c<b));tE.sl.wf p.1/\tE.sl.wf p.2.1/\tE.sl.wf p.2.2.1/\True->I p->(iB (K7 q true m) (∃(J:List EE×List EE×Int×Bool×List Int×List Int×Bool×List Int×List Int×Unit->Prop),((decide (c<d)=true/\decide (b=c)=false->c<=c/\c<d)/\(decide (c<d)=true/\decide (b=c)=false->c<=c/\c<b)/\(iB (K7 (decide (b=c)) true k) ((c<=c/\c<d)/\(c<=c/\c<d)/\(c<=h/\h<=d/\d<=d)/\(decide (c<b)=true->c<=c/\c<b)/\(iB (K7 m u false) (s/\t/\J (List.drop o (List.take d.toNat p.1),List.drop o (List.take b.toNat p.2.1),f.1,f.2.1.1,f.2.1.2,f.2.2,e.2.1.1,e.2.1.2,e.2.2,())) (J (List.drop o (List.take d.toNat p.1),p.2.1,f.1,f.2.1.1,f.2.1.2,f.2.2,false,[],[],())))) (s/\s/\t/\J (p.1,List.drop o (List.take b.toNat p.2.1),e.1,false,[],[],e.2.1.1,e.2.1.2,e.2.2,()))))/\∀(v:List EE×List EE×Int×Bool×List Int×List Int×Bool×List Int×List Int×Unit),let n:=(v.1,v.2.1,p.2.2.1,());let a:=(((v.2.2.2.1,v.2.2.2.2.1),v.2.2.2.2.2.1),((v.2.2.2.2.2.2.1,v.2.2.2.2.2.2.2.1),v.2.2.2.2.2.2.2.2.1),());let g:=(v.2.2.1,x.2.2.1.2 a);let l:=(v.1,v.2.1,p.2.2.1++ [g],());tE.sl.wf v.1/\tE.sl.wf v.2.1/\(Ty.int i64).wf v.2.2.1/\Ty.bool.wf v.2.2.2.1/\(Ty.int u32).sl.wf v.2.2.2.2.1/\(Ty.int u32).sl.wf v.2.2.2.2.2.1/\Ty.bool.wf v.2.2.2.2.2.2.1/\(Ty.int u32).sl.wf v.2.2.2.2.2.2.2.1/\(Ty.int u32).sl.wf v.2.2.2.2.2.2.2.2.1/\True->J v->Go.Proofs.Tryz.prog=Go.Proofs.Tryz.prog/\x.2.2.1.1 a/\(tQ.wf (x.2.2.1.2 a)->True/\∀(r:Int×Unit),D2 r.1/\True->r.1=(rv (x.2.2.1.2 a)).num.sign->(iB (decide (r.1≠c)) (((p.2.2.1.length+ [g].length)*(64:Nat)<=(140737488355328:Nat)/\p.2.2.1.length+ [g].length<=9223372036854775807)/\I l/\μ l<μ p) (I n/\μ n<μ p)))) (p.2.2.1=H1 x.2.2.1.2 x.1 x.2.1))
def Uf:A2 Cp.args->Prop:=fun(x:List EE×Int×Unit)=>let f:=(0:Int);let d:=(x.1.length:Int);True/\∀(r:Bool×Unit),True/\True->r.1=decide (Gl x.1)->(iB ((!r.1)) (false=decide (K5 x.1 x.2.1)) (∃(I:Int×Unit->Prop),∃(μ: _->Nat),I (f,())/\∀(p:Int×Unit),let e:=(i64.wrap (p.1+1),());let a:=(gx F1 x.1 p.1);let c:=(decide (a.1<f));let b:=(decide (x.2.1<=a.1));(Ty.int i64).wf p.1/\True->I p->(iB (decide (p.1<d)) ((f<=p.1/\p.1<d)/\(K7 c true b=false->True)/\∀(r:Int×Unit),(K7 c true b=false->(D2 r.1/\True)/\r.1=(rv a.2).num.sign)->(iB (K7 (K7 c true b) true (decide (r.1=f))) (false=decide (K5 x.1 x.2.1)) (I e/\μ e<μ p))) (true=decide (K5 x.1 x.2.1)))))
def Rc:A2 Bb.args->Prop:=fun(x:QQ×QQ×Unit)=>F3 x.1/\∀(r:QQ×Unit),L6 r.1/\True->r.1=rc (rv x.1)->r.1=rc (rv x.1)
def Yr:A2 Bi.args->Prop:=fun(x:List EE×Unit)=>WK x.1/\∀(r:List EE×Unit),Re r.1/\True->(Gl x.1->r.1=x.1)/\(¬Gl x.1->Gl r.1/\(∀(j:Int),A8 r.1 j=A8 x.1 j)/\r.1.length<=(20:Nat)/\gU (16777216:Nat) r.1)->∃(ok:QQ×QQ×Unit->Prop),∃(φ:QQ×QQ×Unit->(Bool×List Int)×List Int),(∀(y:QQ×QQ×Unit),tQ.wf y.1/\tQ.wf y.2.1/\True->ok y->F3 y.1/\∀(z:QQ×Unit),L6 z.1/\True->z.1=rc (rv y.1)->true=true/\z.1=φ y)/\(List.length r.1<=100000/\(0:Nat)<=(100000:Nat)/\∀(u v:C0),(u=zr\/∃(e:EE),e∈r.1/\e.2=u)->(v=zr\/∃(e:EE),e∈ []/\e.2=v)->(ok,φ).1 (u,v,()))/\∀(a:List EE×Unit),Re a.1/\True->a.1=H1 φ r.1 []->Gm a.1/\∀(i:Int),A8 a.1 i=A8 x.1 i
def CN:A2 Di.args->Prop:=fun(x:List EE×Int×Unit)=>let c:=(x.1.length:Int);True/\∀(r:QQ×Unit),L6 r.1/\True->r.1=ri (0:Int)->∃(I:Int×Bool×List Int×List Int×Unit->Prop),∃(μ: _->Nat),I ((0:Int),r.1.1.1,r.1.1.2,r.1.2,())/\∀(p:Int×Bool×List Int×List Int×Unit),let d:=(gx F1 x.1 p.1);let a:=((p.2.1,p.2.2.1),p.2.2.2.1);(Ty.int i64).wf p.1/\Ty.bool.wf p.2.1/\(Ty.int u32).sl.wf p.2.2.1/\(Ty.int u32).sl.wf p.2.2.2.1/\True->I p->(iB (decide (p.1<c)) (∃(J:Bool×List Int×List Int×Unit->Prop),((0<=p.1/\p.1<c)/\(iB (decide (d.1=x.2.1)) ((F3 a/\F3 d.2)/\∀(r:QQ×Unit),L6 r.1/\True->r.1=rc (rv a+rv d.2)->J (r.1.1.1,r.1.1.2,r.1.2,())) (J (p.2.1,p.2.2.1,p.2.2.2.1,()))))/\∀(e:Bool×List Int×List Int×Unit),let b:=(i64.wrap (p.1+1),e.1,e.2.1,e.2.2.1,());Ty.bool.wf e.1/\(Ty.int u32).sl.wf e.2.1/\(Ty.int u32).sl.wf e.2.2.1/\True->J e->I b/\μ b<μ p) (a=rc (A8 x.1 x.2.1)))
def Hg:A2 O3.args->Prop:=fun(x:QQ×QQ×QQ×Unit)=>let a:=(rv x.1+rv x.2.2.1*rv x.2.1);True/\∀(r:Int×Unit),D2 r.1/\True->r.1=(rv x.2.1).num.sign->(iB (decide (r.1=0)) (F3 x.1/\∀(r:QQ×Unit),L6 r.1/\True->r.1=rc (rv x.1)->r.1=rc a) ((F3 x.2.2.1/\F3 x.2.1)/\∀(r:QQ×Unit),L6 r.1/\True->r.1=rc (rv x.2.2.1*rv x.2.1)->(F3 x.1/\F3 r.1)/\∀(b:QQ×Unit),L6 b.1/\True->b.1=rc (rv x.1+rv r.1)->b.1=rc a))
def Jr:A2 M8.args->Prop:=fun(x:List EE×QQ×List EE×Unit)=>WK x.1/\∀(r:List EE×Unit),Re r.1/\True->(Gl x.1->r.1=x.1)/\(¬Gl x.1->Gl r.1/\(∀(j:Int),A8 r.1 j=A8 x.1 j)/\r.1.length<=(20:Nat)/\gU (16777216:Nat) r.1)->WK x.2.2.1/\∀(a:List EE×Unit),Re a.1/\True->(Gl x.2.2.1->a.1=x.2.2.1)/\(¬Gl x.2.2.1->Gl a.1/\(∀(j:Int),A8 a.1 j=A8 x.2.2.1 j)/\a.1.length<=(20:Nat)/\gU (16777216:Nat) a.1)->∃(ok:QQ×QQ×Unit->Prop),∃(φ:QQ×QQ×Unit->(Bool×List Int)×List Int),(∀(y:QQ×QQ×Unit),tQ.wf y.1/\tQ.wf y.2.1/\True->ok y->(sz K1 y.1/\sz K1 y.2.1/\sz K1 x.2.1)/\∀(z:QQ×Unit),L6 z.1/\True->z.1=rc (rv y.1+rv x.2.1*rv y.2.1)->true=true/\z.1=φ y)/\(List.length r.1<=100000/\List.length a.1<=100000/\∀(u v:C0),(u=zr\/∃(e:EE),e∈r.1/\e.2=u)->(v=zr\/∃(e:EE),e∈a.1/\e.2=v)->(ok,φ).1 (u,v,()))/\∀(b:List EE×Unit),Re b.1/\True->b.1=H1 φ r.1 a.1->Gm b.1/\∀(i:Int),A8 b.1 i=A8 x.1 i+rv x.2.1*A8 x.2.2.1 i
def Ez:A2 L2.args->Prop:=fun(x:List Int×Unit)=>let i:=(↑x.1.length:Int);let b:=(0:Int);let a:=(x.1.length:Int);(b<=a/\a<=a/\(↑(1:Nat):Int)*a<=(281474976710656:Int)/\a<=(9223372036854775807:Int))/\∃(I:Int×List Bool×Unit->Prop),∃(μ: _->Nat),I (b,List.replicate a.toNat false,())/\∀(p:Int×List Bool×Unit),let h:=(decide (gx b x.1 p.1<b));let g:=(decide (a<=gx b x.1 p.1));let f:=(p.2.1.length:Int);let e:=(List.getD p.2.1 (gx b x.1 p.1).toNat false);let d:=(K7 h true g);let c:=(i64.wrap (p.1+1),List.set p.2.1 (gx b x.1 p.1).toNat true,());(Ty.int i64).wf p.1/\(List.length p.2.1<=9223372036854775807/\∀(x:Bool),x∈p.2.1->True)/\True->I p->(iB (decide (p.1<a)) ((b<=p.1/\p.1<a)/\(K7 h true g=false->b<=gx b x.1 p.1/\gx b x.1 p.1<f)/\(iB (K7 d true e) (false=decide (K3 x.1 i)) ((b<=gx b x.1 p.1/\gx b x.1 p.1<f)/\I c/\μ c<μ p))) (true=decide (K3 x.1 i)))
def aP {l:List D1} (h:∀x∈l,WfE x):RJ l:=fun e u=>⟨A3 (h e u).2.1.2.2,A3 (h e u).2.2.2⟩
def W9 {q:C0} (h:L6 q):Ek q:=⟨A3 h.1.2.2,A3 h.2.2⟩
def Tg (x:A2 T5.args) (hw:awf T5.args x) (_:T5.pre x):Js x:=by
 obtain⟨l,_⟩:=x;have hl:l.length<=9223372036854775807:=hw.1.1;change List D1 at l;simp only[Js,iB];refine⟨fun p=>1<=p.1/\∀s t:Nat,s<t->t<p.1.toNat->t<l.length->(l.getD s F1).1<(l.getD t F1).1,fun p=>((l.length:Int)-p.1).toNat,⟨qI _,fun s t h1 u=>by simp at u;omega⟩, ?_⟩;rintro⟨k,_⟩ _ ⟨h0,h1⟩;change Int at k;simp only at h0 h1⊢;refine⟨fun h=> ?_,fun h=> ?_⟩
 . have h:=qA h;rw[wv (a:=k-1) (by omega)];refine⟨⟨by omega,by omega⟩,⟨by omega,h⟩,fun hb=> ?_,fun hb=> ?_⟩
   . have hb:=qA hb;refine(rH fun hp=> ?_).symm;unfold Gl at hp;rw[uE]at hp;have:=hp (k-1).toNat k.toNat (by omega) (by omega) (by omega);have e1:=J3 (d:=F1) (l:=l) (i:=k) (by omega) h;have e2:=J3 (d:=F1) (l:=l) (i:=k-1) (by omega) (by omega);rw[qN (by omega)]at e1 e2;rw[vZ e1,vZ e2]at this;omega
   . have hb:=qB hb;rw[wv (a:=k+1) (by omega)];rw[F9 (by omega) h,F9 (by omega) (by omega)]at hb;refine⟨⟨by omega,fun s t u h3 h4=> ?_⟩,by omega⟩;by_cases ht:t=k.toNat
     . by_cases hs:s=(k-1).toNat
       . rw[ht,hs];omega
       . have:=h1 s (k-1).toNat (by omega) (by omega) (by omega);rw[ht];omega
     . exact h1 s t u (by omega) h4
 . have h:=qB h;refine(rD ?_).symm;unfold Gl;rw[uE];intro i j hi hj a0;have:=h1 i j a0 (by omega) hj;rw[qF,qN hi,qF,qN hj]at this;exact this
def A2m {α:Type} (e:α) (a:List α):List.drop (Int.toNat 1) (List.take (((e::a).length:Int)).toNat (e::a))=a:=by
 rw[qJ,uZ];rfl
def FH (x:A2 Cq.args) (hw:awf Cq.args x) (hp:Cq.pre x):Ug x:=by
 obtain⟨A,B,⟨ok,φ⟩,_⟩:=x;change List D1 at A B;obtain⟨hA,hB,a6⟩:A.length<=100000/\B.length<=100000/\∀u v:C0,(u=zr\/∃e∈A,e.2=u)->(v=zr\/∃e∈B,e.2=v)->ok (u,v,()):=hp;simp only[Ug,iB];have e0:List.replicate (Int.toNat 0) F1= []:=rfl;rw[e0];refine⟨⟨qI _,by omega,by omega,by omega⟩, ?_⟩;refine⟨fun p=>(∀e∈p.1,e∈A)/\(∀e∈p.2.1,e∈B)/\p.2.2.1++H1 φ p.1 p.2.1=H1 φ A B/\p.2.2.1.length+(p.1.length+p.2.1.length)<=A.length+B.length,fun p=>p.1.length+p.2.1.length,⟨fun _ h=>h,fun _ h=>h,rfl,by simp⟩, ?_⟩;rintro⟨a,b,res,_⟩ _ ⟨ha,hb,hm,hl⟩;change List D1 at a b res;simp only at ha hb hm hl⊢;refine⟨fun hc=> ?_,fun hc=> ?_⟩
 . refine⟨fun q=>(q.1.length+q.2.1.length<a.length+b.length)/\(∀e∈q.1,e∈A)/\(∀e∈q.2.1,e∈B)/\(((q.2.2.2.1,q.2.2.2.2.1),q.2.2.2.2.2.1)=zr\/∃e∈A,e.2=((q.2.2.2.1,q.2.2.2.2.1),q.2.2.2.2.2.1))/\(((q.2.2.2.2.2.2.1,q.2.2.2.2.2.2.2.1),q.2.2.2.2.2.2.2.2.1)=zr\/∃e∈B,e.2=((q.2.2.2.2.2.2.1,q.2.2.2.2.2.2.2.1),q.2.2.2.2.2.2.2.2.1))/\H1 φ a b=put q.2.2.1 (φ (((q.2.2.2.1,q.2.2.2.2.1),q.2.2.2.2.2.1),((q.2.2.2.2.2.2.1,q.2.2.2.2.2.2.2.1),q.2.2.2.2.2.2.2.2.1),())) (H1 φ q.1 q.2.1),⟨fun h=>⟨qI _,qA h.1⟩,fun h=>⟨qI _,by have:=qB h.2;omega⟩,fun h=> ?_,fun h=> ?_⟩, ?_⟩
   . cases a with
     |nil=>
      cases b with
      |nil=>simp[K7]at hc
      |cons f b=>simp[K7]at h;omega
     |cons e a=>
      have a2:e∈A:=ha e (rL ..);have a1:∀z∈a,z∈A:=fun z hz=>ha z (qM _ hz)
      have a3:(0:Int)<((e::a).length:Int):=by simp only[rJ];omega
      rw[A2m];refine⟨⟨qI _,a3⟩,⟨qI _,a3⟩,⟨by omega,by simp only[rJ];omega,qI _⟩,fun h=>⟨qI _,qA h⟩,fun h2=> ?_,fun h2=> ?_⟩
      . cases b with
        |nil=>simp[K7]at h2
        |cons f b=>
         rw[A2m];have a0:(0:Int)<((f::b).length:Int):=by simp only[rJ];omega
         refine⟨⟨qI _,a0⟩,⟨by omega,by simp only[rJ];omega,qI _⟩,by simp only[rJ];omega,a1,fun z hz=>hb z (qM _ hz), .inr ⟨e,a2,rfl⟩, .inr ⟨f,hb f (rL ..),rfl⟩, ?_⟩;rw[L8,qC,sA,sA]at h2;have h3:f.1=e.1:=h2.2;show H1 φ (e::a) (f::b)=put e.1 (φ (e.2,f.2,())) (H1 φ a b);rw[H1,qT (by omega),rB h3.symm]
      . refine⟨by simp only[rJ];omega,a1,hb, .inr ⟨e,a2,rfl⟩, .inl rfl, ?_⟩;show H1 φ (e::a) b=put e.1 (φ (e.2,zr,())) (H1 φ a b);cases b with
        |nil=>rw[H1]
        |cons f b=>
         have h3:¬f.1=e.1:=by
          have:decide ((gx F1 (f::b) 0).1=(gx F1 (e::a) 0).1)=false:=by simpa[K7]using h2
          exact qB this
         have h4:e.1<=f.1:=by
          have:decide ((gx F1 (e::a) 0).1<=(gx F1 (f::b) 0).1)=true:=by
           rw[K4,L8]at h;simp only[rJ,uL,qC,sA]at h;rcases h with h|h
           . omega
           . exact rD h.2
          exact qA this
         rw[H1,rB (by omega)]
   . rw[K4,L8]at h;simp only[rK,xT,rR]at h;obtain⟨a5,h⟩:=h;cases b with
     |nil=>simp at a5
     |cons f b=>
      have a0:(0:Int)<((f::b).length:Int):=by simp only[rJ];omega
      rw[A2m];refine⟨⟨qI _,a0⟩,⟨qI _,a0⟩,⟨by omega,by simp only[rJ];omega,qI _⟩,by simp only[rJ];omega,ha,fun z hz=>hb z (qM _ hz), .inl rfl, .inr ⟨f,hb f (rL ..),rfl⟩, ?_⟩;show H1 φ a (f::b)=put f.1 (φ (zr,f.2,())) (H1 φ a b);cases a with
      |nil=>rw[H1]
      |cons e a=>
       have h3:¬e.1<=f.1:=by
        rcases h with h|h
        . simp at h
        . exact h
       rw[H1,qT (by omega),qT (by omega)]
   . rintro⟨a',b',i,u1,u2,u3,v1,v2,v3,_⟩ _ ⟨j1,j2,j3,j4,j5,j6⟩;change Int at i;simp only at j1 j2 j3 j4 j5 j6⊢;refine⟨by trivial,a6 _ _ j4 j5,fun _=>⟨trivial, ?_⟩⟩;rintro⟨s,_⟩ _ hs;simp only at hs⊢;generalize φ (((u1,u2),u3),((v1,v2),v3),())=z at*;have a4:∀(α:Type) (l:List α) (y:α),(l++ [y]).length=l.length+1:=fun α l y=>by simp
     refine⟨fun h=>⟨⟨by simp only[rO];omega,by simp only[rO];omega⟩,⟨j2,j3, ?_, ?_⟩,j1⟩,fun h=>⟨⟨j2,j3, ?_,by omega⟩,j1⟩⟩
     . have h:=qA h;have hz:¬rv z=0:=fun h0=>h (by rw[hs,h0];rfl)
       rw[<-hm,j6,put,qT hz,tY];rfl
     . show(res++ [(i,z)]).length+ _ <= _;rw[a4];omega
     . have h:=qB h;have hz:rv z=0:=MJ (by rw[<-hs];exact vF.1 h);rw[<-hm,j6,put,rB hz]
 . rw[K4]at hc;simp only[rK,rR]at hc;have h1:a= []:=qO (by omega);have h2:b= []:=qO (by omega);subst h1 h2;rw[H1,vK]at hm;exact hm
def FG (x:A2 Cp.args) (hw:awf Cp.args x) (_:Cp.pre x):Uf x:=by
 obtain⟨l,n,_⟩:=x;have hl:l.length<=9223372036854775807:=hw.1.1;change List D1 at l;change Int at n;simp only[Uf,iB];refine⟨trivial, ?_⟩;rintro⟨r,_⟩ _ hr;simp only at hr⊢;refine⟨fun h=> ?_,fun h=> ?_⟩
 . have:¬Gl l:=by
    rw[hr]at h;simpa using h
   exact(rH fun hv=>this hv.1).symm
 have ha:Gl l:=by
  rw[hr]at h;simpa using h
 refine⟨fun p=>0<=p.1/\∀e∈l.take p.1.toNat,0<=e.1/\e.1<n/\rv e.2≠0,fun p=>((l.length:Int)-p.1).toNat,⟨qI _,by simp⟩, ?_⟩;rintro⟨i,_⟩ _ ⟨u,h1⟩;change Int at i;simp only at u h1⊢;refine⟨fun hi=> ?_,fun hi=> ?_⟩
 . have hi:=qA hi;refine⟨⟨u,hi⟩,fun _=>trivial, ?_⟩;rintro⟨s,_⟩ hs;simp only at hs⊢;simp only[K4]at hs⊢;have a0:gx F1 l i∈l:=J4 u hi;refine⟨fun hb=> ?_,fun hb=> ?_⟩
   . refine(rH fun hv=> ?_).symm;have:=hv.2 _ a0;simp only[uL,sA]at hb;rcases hb with(hb|hb) |hb
     . omega
     . omega
     . have h2:=(hs (by simp only[rK,rR];omega)).2;exact this.2.2 (MJ (by rw[<-h2];exact hb))
   . simp only[rK,rR]at hb;have h2:=(hs (by simp only[rK,rR];exact hb.1)).2;rw[wv (by omega)];refine⟨⟨by omega,Ib (d:=F1) (q:=fun e=>0<=e.1/\e.1<n/\rv e.2≠0) u hi h1 ⟨by omega,by omega,fun h3=>hb.2 (by rw[h2,h3];rfl)⟩⟩,by omega⟩
 . have hi:=qB hi;rw[E9 (by omega)]at h1;exact(rD ⟨ha,h1⟩).symm
def BS (x:A2 Bb.args) (hw:awf Bb.args x) (u:Bb.pre x):Rc x:=by
 simp only[Rc];exact⟨u,fun r _ h=>h⟩
def kT {k:Nat} {v:List D1} (h:gU k v) {u:C0} (hu:u=zr\/∃e∈v,e.2=u):sz k u:=by
 rcases hu with rfl| ⟨e,he,rfl⟩
 . exact⟨rM _,rM _⟩
 . exact h e he
def IG (x:A2 Bi.args) (hw:awf Bi.args x) (hp:Bi.pre x):Yr x:=by
 obtain⟨l,_⟩:=x;change List D1 at l;have hp:fO l:=hp;have ha:WK l:=hp.elim (fun h=> .inl h.1) .inr;simp only[Yr];refine⟨ha, ?_⟩;rintro⟨r,_⟩ _ ⟨r1,r2⟩;change List D1 at r;simp only at r1 r2⊢;have key:Gl r/\(∀j,A8 r j=A8 l j)/\gU K1 r/\r.length<=100000:=by
  by_cases h:Gl l
  . rw[r1 h];rcases hp with⟨_,h2,h3⟩ | ⟨h2,h3⟩
    . exact⟨h,fun _=>rfl,h2,h3⟩
    . exact⟨h,fun _=>rfl,fun e he=>F6 (h3 e he) (by decide),by omega⟩
  . obtain⟨g1,g2,g3,g4⟩:=r2 h;exact⟨g1,g2,fun e he=>F6 (g4 e he) (by decide),by omega⟩
 obtain⟨k1,k2,k3,k4⟩:=key;refine⟨fun y=>sz K1 y.1,fun y=>rc (rv y.1), ?_,⟨k4,by omega,fun u v hu _=>kT k3 hu⟩, ?_⟩
 . rintro⟨u,v,_⟩ _ hu;exact⟨J6 (k:=K1) hu (by decide),fun z _ hz=>⟨by trivial,hz⟩⟩
 . rintro⟨q,_⟩ _ hq;simp only at hq⊢;rw[hq];obtain⟨g1,g2⟩:=pT k1;exact⟨g1,fun i=>(g2 i).trans (k2 i)⟩
def LF (x:A2 Di.args) (hw:awf Di.args x) (hp:Di.pre x):CN x:=by
 obtain⟨v,k,_⟩:=x;have a1:RJ v:=aP hw.1.2;have a5:v.length<=9223372036854775807:=hw.1.1;change List D1 at v;change Int at k;obtain⟨ha,hs,hl⟩:YC K1 v:=hp;simp only[CN,iB];refine⟨trivial, ?_⟩;rintro⟨z,_⟩ _ hz;simp only at hz⊢;have hz:z=rc 0:=by rw[hz, <-bH];rfl
 refine⟨fun p=>0<=p.1/\p.1<=(v.length:Int)/\((p.2.1,p.2.2.1),p.2.2.2.1)=rc (A8 (v.take p.1.toNat) k),fun p=>((v.length:Int)-p.1).toNat,⟨qI _,qD _,by rw[hz];rfl⟩, ?_⟩;rintro⟨i,b,m,d,_⟩ _ ⟨h0,h1,h2⟩;change Int at i;simp only at h0 h1 h2⊢;refine⟨fun h=> ?_,fun h=> ?_⟩
 . have h:=qA h;have a2:gx F1 v i∈v:=J4 h0 h;have a4:v.take (i+1).toNat=v.take i.toNat++ [gx F1 v i]:=by
    rw[show(i+1).toNat=i.toNat+1 from by omega,rX,J3 (d:=F1) h0 h];rfl
   have hq:=mB (v:=v.take i.toNat) (k:=K1) (ha.take) (fun e u=>a1 e (sL u)) (fun e u=>hs e (sL u)) (by decide) k;have a3:=hs _ a2;have a0:A8 (v.take (i+1).toNat) k=A8 (v.take i.toNat) k+if(gx F1 v i).1=k then rv (gx F1 v i).2 else 0:=by
    rw[a4,Q7];simp only[A8,rP]
   generalize gx F1 v i=e at*;refine⟨fun p=>((p.1,p.2.1),p.2.2.1)=rc (A8 (v.take (i+1).toNat) k),⟨⟨h0,h⟩,fun u=>⟨⟨?_,J6 (k:=K1) a3 (by decide)⟩, ?_⟩,fun u=> ?_⟩, ?_⟩
   . rw[h2];exact Hs hq (by decide)
   . have u:=qA u;rintro⟨r,_⟩ _ hr;simp only at hr⊢;show r= _;rw[hr,h2,I8,a0,rB u]
   . have u:=qB u;show((b,m),d)= _;rw[h2,a0,qT u,rP]
   . rintro⟨b',m',d',_⟩ _ hr;simp only at hr⊢;rw[wv (by omega)];exact⟨⟨by omega,by omega,hr⟩,by omega⟩
 . have h:=qB h;rw[E9 (by omega)]at h2;exact h2
def Ok (x:A2 O3.args) (hw:awf O3.args x) (hp:O3.pre x):Hg x:=by
 obtain⟨p,q,f,_⟩:=x;have lq:Ek q:=W9 hw.2.1;have lf:Ek f:=W9 hw.2.2.1;change C0 at p q f;obtain⟨a0,hq,hf⟩:sz K1 p/\sz K1 q/\sz K1 f:=hp;simp only[Hg,iB];refine⟨trivial, ?_⟩;rintro⟨s,_⟩ _ hs;simp only at hs⊢;refine⟨fun h=>⟨J6 a0 (by decide), ?_⟩,fun _=>⟨⟨J6 hf (by decide),J6 hq (by decide)⟩, ?_⟩⟩
 . rintro⟨r,_⟩ _ u;simp only at u⊢;have h:=qA h;rw[hs]at h;rw[u,MJ h,uQ,rP]
 . rintro⟨r,_⟩ _ u;simp only at u⊢;have hm:=EH (Dk lf hf (by decide)) (Dk lq hq (by decide));refine⟨⟨J6 a0 (by decide),by rw[u];exact Hs hm (by decide)⟩, ?_⟩;rintro⟨t,_⟩ _ ht;simp only at ht⊢;rw[ht,u,I8]
def Tf (x:A2 M8.args) (hw:awf M8.args x) (hp:M8.pre x):Jr x:=by
 obtain⟨a,f,b,_⟩:=x;change List D1 at a b;change C0 at f;obtain⟨⟨a1,a2,a3⟩,hf,b1,b2,b3⟩:YC K1 a/\sz K1 f/\YC K1 b:=hp;simp only[Jr];refine⟨.inl a1, ?_⟩;rintro⟨r,_⟩ _ ⟨hr,_⟩;have hr:r=a:=hr a1;simp only;subst hr;refine⟨.inl b1, ?_⟩;rintro⟨s,_⟩ _ ⟨hs,_⟩;have hs:s=b:=hs b1;simp only;subst hs;refine⟨fun y=>sz K1 y.1/\sz K1 y.2.1,fun y=>rc (rv y.1+rv f*rv y.2.1), ?_,⟨a3,b3,fun u v hu hv=>⟨kT a2 hu,kT b2 hv⟩⟩, ?_⟩
 . rintro⟨u,v,_⟩ _ ⟨hu,hv⟩;exact⟨⟨hu,hv,hf⟩,fun z _ hz=>⟨by trivial,hz⟩⟩
 . rintro⟨r,_⟩ _ hr;simp only at hr⊢;rw[hr];obtain⟨m1,_,m3⟩:=LW (fun y=>rc (rv y.1+rv f*rv y.2.1)) (fun p q=>p+rv f*q) (by rw[uQ,rP]) _ _ (fun _ _ _ _=>rfl) a1 b1;exact⟨m1,m3⟩
def cQ:An:= {loop:= [(4,⟨[0,1],[],[(5,false,vI)],[],[]⟩)],plan:= [(6,[3,10,18,22],[],false,(pR 0 3 (.q 3 (.e 4 (pR 5 5 (.q 10 (.e 11 (pR 12 6 (.q 18 (pR 19 3 (.q 22 (.e 23 (.p 24 (.p 25 .done))))))))))))))]}
def MW:A2 Lk.args->Prop:=fun(x:List QQ×List QQ×Unit)=>let g:=(0:Int);let d:=(x.2.1.length:Int);let c:Prop:=(x.1=x.2.1/\∀(e:QQ),e∈x.1->e=rc (rv e));let a:=(x.1.length:Int);(iB (decide (a≠d)) (false=decide c) (∃(I:Int×Unit->Prop),∃(μ: _->Nat),I (g,())/\∀(p:Int×Unit),let h:=(gx dQ x.2.1 p.1);let f:=(i64.wrap (p.1+1),());(Ty.int i64).wf p.1/\True->I p->(iB (decide (p.1<a)) ((g<=p.1/\p.1<a)/\F3 (gx dQ x.1 p.1)/\∀(r:Bool×Unit),True/\True->r.1=decide (gx dQ x.1 p.1=rc (rv (gx dQ x.1 p.1)))->((!r.1)=false->g<=p.1/\p.1<d)/\((!r.1)=false->F3 h)/\∀(i:Bool×Unit),let b:=(K7 (!r.1) true !i.1);((!r.1)=false->(True/\True)/\i.1=decide (gx dQ x.2.1 p.1=rc (rv h)))->(b=false->g<=p.1/\p.1<a)/\(b=false->g<=p.1/\p.1<d)/\(b=false->True)/\∀(j:Bool×Unit),(b=false->(True/\True)/\j.1=decide (gx dQ x.1 p.1=gx dQ x.2.1 p.1))->(iB ((K7 b true !j.1)) (false=decide c) (I f/\μ f<μ p))) (true=decide c))))
def UU (x:A2 Lk.args) (hw:awf Lk.args x) (hp:Lk.pre x):MW x:=by
 obtain⟨a,b,_⟩:=x;have hl:a.length<=9223372036854775807:=hw.1.1;change List C0 at a b;obtain⟨ha,hb⟩:(∀e∈a,F3 e)/\∀e∈b,F3 e:=hp;simp only[MW,iB];refine⟨fun h=> ?_,fun h=> ?_⟩
 . have h:=qA h;exact(rH fun e=>h (by rw[e.1])).symm
 . have a5:a.length=b.length:=by have:=qB h;omega
   refine⟨fun p=>0<=p.1/\p.1<=(a.length:Int)/\a.take p.1.toNat=b.take p.1.toNat/\∀e∈a.take p.1.toNat,e=rc (rv e),fun p=>((a.length:Int)-p.1).toNat,⟨qI _,qD _,by simp,by simp⟩, ?_⟩;rintro⟨i,_⟩ _ ⟨h0,h1,h2,h3⟩;change Int at i;simp only at h0 h1 h2 h3⊢;refine⟨fun h=> ?_,fun h=> ?_⟩
   . have h:=qA h;have ma:=J4 (d:=dQ) h0 h;have mb:=J4 (d:=dQ) (l:=b) h0 (by omega);have ga:=J3 (d:=dQ) h0 h;have gb:=J3 (d:=dQ) (l:=b) h0 (by omega);have a2:a.take (i+1).toNat=a.take i.toNat++ [gx dQ a i]:=by
      rw[show(i+1).toNat=i.toNat+1 from by omega,rX,ga];rfl
     have a4:b.take (i+1).toNat=b.take i.toNat++ [gx dQ b i]:=by
      rw[show(i+1).toNat=i.toNat+1 from by omega,rX,gb];rfl
     generalize gx dQ a i=e at*;generalize gx dQ b i=f at*;refine⟨⟨h0,h⟩,ha _ ma, ?_⟩;rintro⟨r,_⟩ _ u;refine⟨fun _=>⟨h0,by omega⟩,fun _=>hb _ mb, ?_⟩;rintro⟨s,_⟩ hs;refine⟨fun _=>⟨h0,h⟩,fun _=>⟨h0,by omega⟩,fun _=>trivial, ?_⟩;rintro⟨t,_⟩ ht;change Bool at r s t;simp only at u hs ht⊢;rw[K4]at ht;rw[K4,K4];have key:(!r|| !s|| !t)=false↔e=rc (rv e)/\e=f:=by
      by_cases hc:e=rc (rv e)
      . have u:r=true:=by rw[u];exact rD hc
        have hs:=(hs (by simp[u])).2;by_cases hd:f=rc (rv f)
        . have hs:s=true:=by rw[hs];exact rD hd
          have ht:=(ht (by simp[u,hs])).2;rw[u,hs,ht];simp[<-hc]
        . have hs:s=false:=by rw[hs];exact rH hd
          rw[u,hs];simp only[yV,g0i,g1p,g0e,wE];refine⟨fun h=>(by cases h),fun h=>absurd ?_ hd⟩;rw[<-h.2];exact hc
      . have u:r=false:=by rw[u];exact rH hc
        rw[u];simp[hc]
     refine⟨fun hx=> ?_,fun hx=> ?_⟩
     . refine(rH fun a0=> ?_).symm;obtain⟨a3,a1⟩:=a0;subst a3;rw[ga]at gb;have:=key.2 ⟨a1 _ ma,vZ gb⟩;rw[this]at hx;cases hx
     . obtain⟨k1,k2⟩:=key.1 hx;rw[wv (by omega)];refine⟨⟨by omega,by omega, ?_, ?_⟩,by omega⟩
       . rw[a2,a4,h2,k2]
       . rw[a2];intro y hy;rcases rF.1 hy with hy|hy
         . exact h3 y hy
         . rw[qY.1 hy];exact k1
   . have h:=qB h;rw[E9 (by omega),E9 (by omega)]at h2;rw[E9 (by omega)]at h3;exact(rD ⟨h2,h3⟩).symm
def FQ:An:= {}
def NJ:An:= {loop:= [(4,⟨[1,24,25],[0],[(26,false,vI)],[],[]⟩)]}
def Ng:A2 R3.args->Prop:=fun(x:Int×Unit)=>K7 (decide (0<=x.1)) (decide (x.1<=16384)) false=decide (0<=x.1/\x.1<=16384)
def Tv:A2 S7.args->Prop:=fun(x:MM×Unit)=>let e:=(0:Int);let a:=(x.1.2.2.length:Int);let d:=(decide (a≠x.1.1));True/\∀(r:Bool×Unit),True/\True->r.1=decide (e<=x.1.1/\x.1.1<=16384)->((!r.1)=false->True)/\∀(f:Bool×Unit),let c:=(K7 (!r.1) true !f.1);((!r.1)=false->(True/\True)/\f.1=decide (e<=x.1.2.1/\x.1.2.1<=16384))->(iB (K7 c true d) (false=decide (F4 x.1)) (∃(I:Int×Unit->Prop),∃(μ: _->Nat),I (e,())/\∀(p:Int×Unit),let b:=(i64.wrap (p.1+1),());(Ty.int i64).wf p.1/\True->I p->(iB (decide (p.1<a)) ((e<=p.1/\p.1<a)/\True/\∀(r:Bool×Unit),True/\True->r.1=decide (K5 (gx [] x.1.2.2 p.1) x.1.2.1)->(iB ((!r.1)) (false=decide (F4 x.1)) (I b/\μ b<μ p))) (true=decide (F4 x.1)))))
def OP {D:List (List D1)} {R C:Int} (h:∀x∈D,List.length x<=9223372036854775807/\∀y∈x,WfE y):pJ (R,C,D):=fun v u=>aP (h v u).2
def aB {D:List (List D1)} {i:Int} (u:0<=i) (h1:i<(D.length:Int)):gx [] D i=D.getD i.toNat []:=F9 u h1
def Ya (x:A2 R3.args) (u:awf R3.args x) (_:R3.pre x):Ng x:=by
 simp only[Ng];rw[L8,Bool.decide_and]
def EX (x:A2 S7.args) (hw:awf S7.args x) (_:S7.pre x):Tv x:=by
 obtain⟨⟨R,C,D⟩,_⟩:=x;have hD:D.length<=9223372036854775807:=hw.1.2.2.1;change Int at R C;change List (List D1)at D;simp only[Tv,iB];refine⟨trivial, ?_⟩;rintro⟨r,_⟩ _ hr;simp only at hr⊢;refine⟨fun _=>trivial, ?_⟩;rintro⟨s,_⟩ hs;simp only at hs⊢;rw[K4,K4];by_cases hR:0<=R/\R<=16384
 . have hr:r=true:=by rw[hr];exact rD hR
   have hs:=(hs (by rw[hr];rfl)).2;rw[hr,hs];refine⟨fun h=> ?_,fun h=> ?_⟩
   . refine(rH fun hv=> ?_).symm;obtain⟨_,_,v3,v4,v5,_⟩:=hv;simp only at v3 v4 v5;rw[rD (show 0<=C/\C<=16384 from⟨v3,v4⟩)]at h;simp at h;exact h v5
   . simp only[yV,wE,rK,g0h,sA,rR,vF]at h;refine⟨fun p=>0<=p.1/\∀v∈D.take p.1.toNat,K5 v C,fun p=>((D.length:Int)-p.1).toNat,⟨qI _,by simp⟩, ?_⟩;rintro⟨i,_⟩ _ ⟨h0,h1⟩;change Int at i;simp only at h0 h1⊢;refine⟨fun hi=> ?_,fun hi=> ?_⟩
     . have hi:=qA hi;refine⟨⟨h0,hi⟩,trivial, ?_⟩;rintro⟨b,_⟩ _ hb;simp only at hb⊢;refine⟨fun u=> ?_,fun u=> ?_⟩
       . refine(rH fun hv=> ?_).symm;rw[hb]at u;have:=hv.2.2.2.2.2 _ (J4 (d:=([]:List D1)) h0 hi);rw[rD this]at u;cases u
       . rw[hb]at u;have u:decide (K5 (gx [] D i) C)=true:=by simpa using u
         rw[wv (by omega)];exact⟨⟨by omega,Ib (d:=([]:List D1)) (q:=fun v=>K5 v C) h0 hi h1 (qA u)⟩,by omega⟩
     . have hi:=qB hi;rw[E9 (by omega)]at h1;exact(rD ⟨hR.1,hR.2,h.1.1,h.1.2,h.2,h1⟩).symm
 . have hr:r=false:=by rw[hr];exact rH hR
   rw[hr];refine⟨fun _=>(rH fun hv=>hR ⟨hv.1,hv.2.1⟩).symm,fun h=>(by simp at h)⟩
noncomputable def BG:H2:= []
def AL:An:= {}
def IT:An:= {loop:= [(10,⟨[1,2,3,6,9,51,52],[0,1],[(53,false,vI)],[],[(2, .map false (.int .i64) false (.sl (.int .i64)))]⟩),(23,⟨[3,6,9,12,13,17,72,73,74,83,84,85,92,93],[0,1,2,4,5,7],[(15,false,[.own tE 120]),(94,false,vI)],[],[]⟩),(20,⟨[3,6,9,12,13,72,73,74,83,84],[0,1,2,4,5],[(15,false,[.own tE 120]),(85,false,vI)],[],[]⟩),(16,⟨[3,6,9,12,72,73],[0,1,2,5],[(74,false,vI)],[],[(4, .rows tE 118 120)]⟩)]}
noncomputable def KT:H2:= [(53,U2),(100,S7),(101,Fk (A2z prog [(false, .int .i64)] false .bool (.int .i64) (fun n x=>decide (x.1<0\/n<=x.1)))),(103,E3),(104,R3),(106,Fk (OZ 107 tE 120 (fun a b=>J0 a.1 b.1))),(105,Fk (LX ⟨prog,B2a⟩ [(71,BG,AL)] f105.results.toList (f105.body.getD .skip) f105.ntmps))]
def Vq:An:= {}
def Gk:An:= {}
def Ja:An:= {loop:= [(2,⟨[0,1,7],[],[(8,false,vI)],[],[]⟩)]}
def Qv:A2 Ay.args->Prop:=fun(x:MM×List Int×List Int×Unit)=>let C:=(140737488355328:Nat);let u:=(8:Int);let t:=(3:Int);let o:=(1:Int);let n:=(fun(x:Int×Unit)=>True,fun(z:Int×Unit)=>decide (z.1<(0:(Ty.int i64).den)\/x.1.1<=z.1));let m:=(fun(x:Int×Unit)=>True,fun(z:Int×Unit)=>decide (z.1<(0:(Ty.int i64).den)\/x.1.2.1<=z.1));let h:=(16384:Nat);let g:=(x.2.2.1.length:Int);let f:=(x.2.1.length:Int);let d:=(0:Int);let c:Prop:=((∃(i:Int),i∈x.2.1/\(i<d\/x.1.1<=i))\/∃(i:Int),i∈x.2.2.1/\(i<d\/x.1.2.1<=i));True/\∀(r:Bool×Unit),True/\True->r.1=decide (F4 x.1)->(iB ((!r.1)) ((¬F4 x.1->(d,d,[])=zm/\o=o)/\(F4 x.1->(c->(d,d,[])=zm/\o=t)/\(¬c->(h<x.2.1.length\/h<x.2.2.1.length->(d,d,[])=zm/\o=u)/\(x.2.1.length<=h/\x.2.2.1.length<=h->pC x.2.1.length x.2.2.1.length (fun(i j:Nat)=>el x.1 (x.2.1.getD i d).toNat (x.2.2.1.getD j d).toNat) (d,d,[])/\o=d)))) (Go.Proofs.Tryz.prog=Go.Proofs.Tryz.prog/\false=false/\(∀(i:Int),i∈x.2.1->n.1 (i,()))/\∀(H:Bool×Unit),True/\True->H.1=decide (∃(i:Int),i∈x.2.1/\n.2 (i,())=true)->Go.Proofs.Tryz.prog=Go.Proofs.Tryz.prog/\false=false/\(H.1=false->∀(i:Int),i∈x.2.2.1->m.1 (i,()))/\∀(K:Bool×Unit),(H.1=false->(True/\True)/\K.1=decide (∃(i:Int),i∈x.2.2.1/\m.2 (i,())=true))->(iB (K7 H.1 true K.1) ((¬F4 x.1->(d,d,[])=zm/\t=o)/\(F4 x.1->(c->(d,d,[])=zm/\t=t)/\(¬c->(h<x.2.1.length\/h<x.2.2.1.length->(d,d,[])=zm/\t=u)/\(x.2.1.length<=h/\x.2.2.1.length<=h->pC x.2.1.length x.2.2.1.length (fun(i j:Nat)=>el x.1 (x.2.1.getD i d).toNat (x.2.2.1.getD j d).toNat) (d,d,[])/\t=d)))) (True/\∀(J:Bool×Unit),True/\True->J.1=decide (d<=f/\f<=(16384:Int))->((!J.1)=false->True)/\∀(L:Bool×Unit),let A:=(K7 (!J.1) true !L.1);((!J.1)=false->(True/\True)/\L.1=decide (d<=g/\g<=(16384:Int)))->(iB A ((¬F4 x.1->(d,d,[])=zm/\u=o)/\(F4 x.1->(c->(d,d,[])=zm/\u=t)/\(¬c->(h<x.2.1.length\/h<x.2.2.1.length->(d,d,[])=zm/\u=u)/\(x.2.1.length<=h/\x.2.2.1.length<=h->pC x.2.1.length x.2.2.1.length (fun(i j:Nat)=>el x.1 (x.2.1.getD i d).toNat (x.2.2.1.getD j d).toNat) (d,d,[])/\u=d)))) (∃(I:Int×List (Int×List Int)×Unit->Prop),∃(μ: _->Nat),I (d,[],())/\∀(p:Int×List (Int×List Int)×Unit),let B:=(gx d x.2.2.1 p.1);let q:=(i64.wrap (p.1+o),Em (Ty.int i64) B [p.1] p.2.1,());(Ty.int i64).wf p.1/\(∀(x:Int×List Int),x∈p.2.1->D2 x.1/\OI x.2)/\True->I p->(iB (decide (p.1<g)) ((d<=p.1/\p.1<g)/\J2 (Ty.int i64) B p.2.1=Option.none/\(((0:Nat)+ [p.1].length)*(8:Nat)<=C/\(0:Nat)+ [p.1].length<=9223372036854775807)/\I q/\μ q<μ p) ((d<=f/\f<=f/\(↑(24:Nat):Int)*f<=(281474976710656:Int)/\f<=(9223372036854775807:Int))/\∃(I:Int×List (List EE)×Unit->Prop),∃(μ: _->Nat),I (d,List.replicate f.toNat [],())/\∀(F:Int×List (List EE)×Unit),let v:=(f,g,F.2.1);let l:=(gx [] x.1.2.2 (gx d x.2.1 F.1));let y:=(↑l.length:Int);(Ty.int i64).wf F.1/\IM F.2.1/\True->I F->(iB (decide (F.1<f)) ((d<=F.1/\F.1<f)/\(d<=gx d x.2.1 F.1/\gx d x.2.1 F.1<(x.1.2.2.length:Int))/\∃(I_1:List EE×Int×Unit->Prop),∃(a0: _->Nat),I_1 ([],d,())/\∀(G:List EE×Int×Unit),let e:=(gx F1 l G.2.1);let k:=(↑((J2 (Ty.int i64) e.1 p.2.1).getD []).length:Int);tE.sl.wf G.1/\(Ty.int i64).wf G.2.1/\True->I_1 G->(iB (decide (G.2.1<y)) ((d<=G.2.1/\G.2.1<y)/\∃(I:List EE×Int×Unit->Prop),∃(μ: _->Nat),I (G.1,d,())/\∀(D:List EE×Int×Unit),let w:=(D.1,i64.wrap (G.2.1+o),());tE.sl.wf D.1/\(Ty.int i64).wf D.2.1/\True->I D->(iB (decide (D.2.1<k)) ((d<=D.2.1/\D.2.1<k)/\F3 e.2/\∀(r:QQ×Unit),L6 r.1/\True->r.1=rc (rv e.2)->((D.1.length+ [(gx d ((J2 (Ty.int i64) e.1 p.2.1).getD []) D.2.1,r.1)].length)*(64:Nat)<=C/\D.1.length+ [(gx d ((J2 (Ty.int i64) e.1 p.2.1).getD []) D.2.1,r.1)].length<=9223372036854775807)/\I (D.1++ [(gx d ((J2 (Ty.int i64) e.1 p.2.1).getD []) D.2.1,r.1)],i64.wrap (D.2.1+o),())/\μ (D.1++ [(gx d ((J2 (Ty.int i64) e.1 p.2.1).getD []) D.2.1,r.1)],i64.wrap (D.2.1+o),())<μ D) (I_1 w/\a0 w<a0 G))) (G.1.length<=(100000:Nat)/\∀(l':List EE),let s:=(i64.wrap (F.1+o),List.set F.2.1 F.1.toNat l',());tE.sl.wf l'->l'.Perm G.1->List.Pairwise (fun(a b:Int×(Bool×List Int)×List Int)=>¬J0 b.1 a.1<d) l'->(d<=F.1/\F.1<(F.2.1.length:Int))/\I s/\μ s<μ F))) ((¬F4 x.1->v=zm/\d=o)/\(F4 x.1->(c->v=zm/\d=t)/\(¬c->(h<x.2.1.length\/h<x.2.2.1.length->v=zm/\d=u)/\(x.2.1.length<=h/\x.2.2.1.length<=h->pC x.2.1.length x.2.2.1.length (fun(i j:Nat)=>el x.1 (x.2.1.getD i d).toNat (x.2.2.1.getD j d).toNat) v/\d=d)))))))))))))
def Iv:A2 I0.args->Prop:=fun(x:Int×Int×Unit)=>K7 (decide (x.1<0)) true (decide (x.2.1<=x.1))=decide (x.1<0\/x.2.1<=x.1)
def W5:A2 E3.args->Prop:=fun(x:List Int×((Int×Unit->Prop)×(Int×Unit->Bool))×Unit)=>let a:=(x.2.1.1,fun(z:Int×Unit)=>x.2.1.2 z);Go.Proofs.Tryz.prog=Go.Proofs.Tryz.prog/\false=false/\(∀(i:Int),i∈x.1->a.1 (i,()))/\∀(r:Int×Unit),D2 r.1/\True->r.1=eO (fun(i:Int)=>a.2 (i,())) x.1->decide (0<=r.1)=decide (∃(i:Int),i∈x.1/\x.2.1.2 (i,())=true)
def Be:A2 H0.args->Prop:=fun(x:List Int×((Int×Unit->Prop)×(Int×Unit->Bool))×Unit)=>let b:=(x.1.length:Int);∃(I:Int×Unit->Prop),∃(μ: _->Nat),I ((0:Int),())/\∀(p:Int×Unit),let c:=(i64.wrap (p.1+1),());let a:=(gx (0:Int) x.1 p.1,());(Ty.int i64).wf p.1/\True->I p->(iB (decide (p.1<b)) ((0<=p.1/\p.1<b)/\Go.Proofs.Tryz.prog=Go.Proofs.Tryz.prog/\x.2.1.1 a/\(Ty.bool.wf (x.2.1.2 a)->(iB (x.2.1.2 a) (p.1=eO (fun(i:Int)=>x.2.1.2 (i,())) x.1) (I c/\μ c<μ p)))) ((-1:Int)=eO (fun(i:Int)=>x.2.1.2 (i,())) x.1))
def A2g {R C:Int} {D:List (List D1)} (i:Nat) (j:Int) (h:0<=j):A8 (D.getD i []) j=el (R,C,D) i j.toNat:=by
 unfold el;rw[show((j.toNat:Nat):Int)=j from by omega]
def oP {d:D1} {v:List D1} {i:Int} (u:0<=i) (h1:i<(v.length:Int)) (j:Int):A8 (v.take (i+1).toNat) j=A8 (v.take i.toNat) j+if(gx d v i).1=j then rv (gx d v i).2 else 0:=by
 rw[show(i+1).toNat=i.toNat+1 from by omega,rX,J3 (d:=d) u h1,Q7];simp only[g0r,A8,rP]
def Kw (k:Int):ri k=rc (k:Rat):=by
 unfold ri rc;rw[g2c,g2a,Sd]
def Jw (a b:Int):BT (.int .i64) a b=decide (a=b):=rfl
def Zs {α:Type} (k i:Int) (v:α):∀l:List (Int×α),J2 (.int .i64) i (Em (.int .i64) k v l)=if i=k then some v else J2 (.int .i64) i l
 | []=>by
  simp only[Em,J2,Jw];by_cases h:i=k
  . simp[h]
  . rw[qT h];simp[h]
 | (a,b)::l=>by
  have ih:=Zs k i v l;simp only[Em,Jw];by_cases h:k=a
  . subst h;simp only[g2q,qP,J2,Jw];by_cases u:i=k
    . simp[u]
    . simp[u]
  . simp only[h,g1v,rC,J2,Jw,ih];by_cases u:i=a
    . subst u;have:¬i=k:=fun e=>h e.symm
      simp[this]
    . simp[u]
def KA {α:Type} (k:Int) (v:α):∀l:List (Int×α),(Em (.int .i64) k v l).map (fun e=>e.1)=if k∈l.map (fun e=>e.1)then l.map (fun e=>e.1)else l.map (fun e=>e.1)++ [k]
 | []=>by simp[Em]
 | (a,b)::l=>by
  have u:=KA k v l;simp only[Em,Jw];by_cases h:k=a
  . subst h;simp
  . simp only[h,g1v,rC,rY,u,qV,false_or];split<;>simp
def RX {α:Type} (k:Int) (v:α):∀ {l:List (Int×α)} {e:Int×α},e∈Em (.int .i64) k v l->e=(k,v)\/e∈l
 | [],e,h=>by
  simp only[Em,qY]at h;exact .inl h
 | (a,b)::l,e,h=>by
  simp only[Em,Jw]at h;by_cases u:k=a
  . subst u;simp only[g2q,qP,qV]at h;rcases h with h|h
    . exact .inl h
    . exact .inr (qM _ h)
  . simp only[u,g1v,rC,qV]at h;rcases h with h|h
    . exact .inr (h▸rL ..)
    . exact(RX k v h).imp id (qM _)
def RV {α:Type} {k:Int} {v:α} :∀ {l:List (Int×α)},J2 (.int .i64) k l=some v->(k,v)∈l
 | (a,b)::l,h=>by
  simp only[J2,Jw]at h;by_cases u:k=a
  . simp[u]at h;rw[u,h];exact rL ..
  . simp[u]at h;exact qM _ (RV h)
def fJ {α:Type} {k:Int} :∀ {l:List (Int×α)},k∈l.map (fun e=>e.1)->∃v,J2 (.int .i64) k l=some v
 | (a,b)::l,h=>by
  simp only[J2,Jw];by_cases u:k=a
  . exact⟨b,by simp[u]⟩
  . simp only[rY,qV,u,false_or]at h;obtain⟨v,hv⟩:=fJ h;exact⟨v,by simp[u,hv]⟩
def fN:∀ {r l:List Int},r.Nodup->(∀i∈r,i∈l)->r.length<=l.length
 | [],_,_,_=>rM _
 |a::r,l,u,hs=>by
  rw[sQ]at u;have hm:=hs a (rL ..);have:=fN (l:=l.erase a) u.2 fun i hi=>(List.mem_erase_of_ne fun e=>u.1 (by rw[<-e];exact hi)).2 (hs i (qM _ hi))
  have h2:=List.length_erase_of_mem hm;have h3:=List.length_pos_of_mem hm;rw[rJ];omega
def pS {r:List Int} {n:Int} (h:r.Nodup) (u:∀i∈r,0<=i/\i<n):(r.length:Int)<=max n 0:=by
 have:=fN (l:=(List.range n.toNat).map fun i:Nat=>(i:Int)) h fun i hi=>by
  have:=u i hi;exact tG.2 ⟨i.toNat,zI.2 (by omega),by omega⟩
 rw[sU,List.length_range]at this;omega
structure ZB (n:Int) (F:Int->Rat) (es:List D1):Prop where
 nd:(es.map fun e=>e.1).Nodup
 rng:∀e∈es,0<=e.1/\e.1<n
 can:∀e∈es,e.2=rc (rv e.2)
 val:∀j,rv ((J2 (.int .i64) j es).getD dQ)=F j
def ZB.at {n:Int} {F:Int->Rat} {es:List D1} (h:ZB n F es) (j:Int):(J2 (.int .i64) j es).getD dQ=rc (F j)\/((J2 (.int .i64) j es).getD dQ=dQ/\F j=0/\j∉es.map fun e=>e.1):=by
 have u:=h.val j;cases hf:J2 (.int .i64) j es with
 |none=>
  rw[hf]at u;refine .inr ⟨rfl, ?_,fun hj=> ?_⟩
  . rw[<-u];exact HH
  . obtain⟨v,h2⟩:=fJ hj;rw[hf]at h2;cases h2
 |some v=>
  rw[hf]at u;have h2:=h.can _ (RV hf);have u:rv v=F j:=u;left;show v= _;rw[<-u];exact h2
def ZB.sh {n:Int} {F:Int->Rat} {es:List D1} (h:ZB n F es) (j:Int) (u:qs 2199023255552 (F j)):F3 ((J2 (.int .i64) j es).getD dQ):=by
 rcases h.at j with h1| ⟨h1,_⟩
 . rw[h1];exact u
 . rw[h1];exact⟨rM _,rM _⟩
def ZB.put {n:Int} {F G:Int->Rat} {es:List D1} (h:ZB n F es) {k:Int} {q:Rat} (hk:0<=k/\k<n) (h1:G k=q) (h2:∀j,j≠k->G j=F j):ZB n G (Em (.int .i64) k (rc q) es):=by
 refine⟨?_,fun e u=> ?_,fun e u=> ?_,fun j=> ?_⟩
 . have:=KA k (rc q) es;rw[this];split
   . exact h.nd
   . rename_i hn;rw[sX];refine⟨h.nd,by simp,fun a ha b hb a0=> ?_⟩;rw[qY]at hb;subst hb a0;exact hn ha
 . rcases RX k (rc q) u with rfl|u
   . exact hk
   . exact h.rng e u
 . rcases RX k (rc q) u with rfl|u
   . show rc q=rc (rv (rc q));rw[I8]
   . exact h.can e u
 . rw[Zs];by_cases hj:j=k
   . rw[rB hj];show rv (rc q)= _;rw[I8,hj,h1]
   . rw[qT hj,h.val,h2 j hj]
def ZB.len {n:Int} {F:Int->Rat} {es:List D1} (h:ZB n F es):(es.length:Int)<=max n 0:=by
 have:=pS h.nd (n:=n) fun i hi=>by
  obtain⟨e,u,rfl⟩:=tG.1 hi;exact h.rng e u
 rwa[sU]at this
def Gx (x:A2 H0.args) (hw:awf H0.args x) (hp:H0.pre x):Be x:=by
 obtain⟨l,⟨ok,φ⟩,_⟩:=x;have hl:l.length<=9223372036854775807:=hw.1.1;change List Int at l;have hp:∀i∈l,ok (i,()):=hp;simp only[Be,iB];refine⟨fun p=>0<=p.1/\p.1<=(l.length:Int)/\∀y∈l.take p.1.toNat,φ (y,())=false,fun p=>((l.length:Int)-p.1).toNat,⟨qI _,qD _,by simp⟩, ?_⟩;rintro⟨i,_⟩ _ ⟨u,h1,h2⟩;change Int at i;simp only at u h1 h2⊢;refine⟨fun h=> ?_,fun h=> ?_⟩
 . have h:=qA h;refine⟨⟨u,h⟩,by trivial,hp _ (J4 u h),fun _=>⟨fun ht=> ?_,fun hf=> ?_⟩⟩
   . have a1:l.findIdx? (fun i=>φ (i,()))=some i.toNat:=by
      rw[vR];have hg:=J3 (d:=(0:Int)) u h;have a0:i.toNat<l.length:=by omega
      rw[qN a0]at hg;refine⟨a0,by rw[vZ hg];exact ht,fun j hj=> ?_⟩;have:=h2 l[j] (tW.2 ⟨j,by rw[qU];omega,by simp⟩);simp[this]
     unfold eO;rw[a1];show i=((i.toNat:Nat):Int);omega
   . rw[wv (by omega)];exact⟨⟨by omega,by omega,Ib u h h2 hf⟩,by omega⟩
 . have h:=qB h;rw[E9 (by omega)]at h2;unfold eO;have:l.findIdx? (fun i=>φ (i,()))=none:=by
    rw[xA];exact h2
   rw[this]
def A7n (p:Int->Bool) (l:List Int):0<=eO p l↔∃i,i∈l/\p i=true:=by
 unfold eO;cases h:l.findIdx? p with
 |none=>
  rw[xA]at h;constructor
  . intro h2;simp at h2
  . rintro⟨i,hi,u⟩;have:=h i hi;rw[this]at u;cases u
 |some k=>
  rw[vR]at h;obtain⟨hk,u,_⟩:=h;exact⟨fun _=>⟨_,wT hk,u⟩,fun _=>qD _⟩
def Er (x:A2 E3.args) (hw:awf E3.args x) (u:E3.pre x):W5 x:=by
 obtain⟨l,⟨ok,φ⟩,_⟩:=x;change List Int at l;have u:∀i∈l,ok (i,()):=u;simp only[W5];refine⟨by trivial,by trivial,u, ?_⟩;rintro⟨r,_⟩ _ hr;simp only at hr⊢;rw[hr];exact vC.2 (A7n _ _)
def Qw (x:A2 I0.args) (u:awf I0.args x) (_:I0.pre x):Iv x:=by
 simp only[Iv];rw[K4,Bool.decide_or]
def oO {a b:List D1} (h:a.Perm b) (j:Int):A8 a j=A8 b j:=by
 induction h with
 |nil=>rfl
 |cons e _ ih=>rw[A8,A8,ih]
 |swap e f l=>simp only[A8];rw[<-xS, <-xS,g3d (if f.1=j then rv f.2 else 0)]
 |trans _ _ h1 u=>rw[h1,u]
def A6z {a b:Int} (h:¬J0 b a<0):a<=b:=by
 unfold J0 at h;split at h
 . omega
 . split at h<;>omega
def BO (x:A2 Ay.args) (hw:awf Ay.args x) (hp:Ay.pre x):Qv x:=by
 obtain⟨⟨R,C,D⟩,rows,cols,_⟩:=x;have bj:pJ (R,C,D):=OP hw.1.2.2.2;change Int at R C;change List (List D1)at D;change List Int at rows cols;obtain⟨⟨hs,bk,bi⟩,ay⟩:(Fe K1 (R,C,D)/\rows.length<=1000/\cols.length<=1000)/\cols.Nodup:=by
  obtain⟨a,b,c,d⟩:=hp;exact⟨⟨a,b,c⟩,d⟩
 simp only[Qv,iB];refine⟨trivial, ?_⟩;rintro⟨r,_⟩ _ hr;simp only at hr⊢;by_cases hv:F4 (R,C,D)
 . have hr:r=true:=by rw[hr];exact rD hv
   rw[hr];obtain⟨v1,v2,v3,v4,_,_⟩:=id hv;have v5:(D.length:Int)=R:=hv.2.2.2.2.1;have v6:∀w∈D,K5 w C:=hv.2.2.2.2.2;simp only at v1 v2 v3 v4;refine⟨fun h=>(by cases h),fun _=>⟨by trivial,by trivial,fun _ _=>trivial, ?_⟩⟩;rintro⟨b1,_⟩ _ a9;simp only at a9⊢;refine⟨by trivial,by trivial,fun _ _ _=>trivial, ?_⟩;rintro⟨b2,_⟩ a2;simp only at a2⊢;rw[K4];have key:(b1||b2)=true↔((∃i,i∈rows/\(i<0\/R<=i))\/∃i,i∈cols/\(i<0\/C<=i)):=by
    by_cases h1:∃i,i∈rows/\(i<0\/R<=i)
    . have:b1=true:=by
       rw[a9];obtain⟨i,hi,hc⟩:=h1;exact rD ⟨i,hi,rD hc⟩
      rw[this];exact⟨fun _=> .inl h1,fun _=>rfl⟩
    . have am:b1=false:=by
       rw[a9];exact rH fun⟨i,hi,hc⟩=>h1 ⟨i,hi,qA hc⟩
      have a2:=(a2 am).2;rw[am,wE,a2];constructor
      . intro h;obtain⟨i,hi,hc⟩:=qA h;exact .inr ⟨i,hi,qA hc⟩
      . rintro(h| ⟨i,hi,hc⟩)
        . exact absurd h h1
        . exact rD ⟨i,hi,rD hc⟩
   refine⟨fun h=> ?_,fun h=>⟨trivial, ?_⟩⟩
   . have h:=key.1 h;exact⟨fun h2=>absurd hv h2,fun _=>⟨fun _=>⟨rfl,by trivial⟩,fun h2=>absurd h h2⟩⟩
   have a6:¬((∃i,i∈rows/\(i<0\/R<=i))\/∃i,i∈cols/\(i<0\/C<=i)):=fun h2=>by rw[key.2 h2]at h;cases h
   have ai:∀i∈rows,0<=i/\i<R:=fun i hi=>qX fun hn=>a6 (.inl ⟨i,hi,by omega⟩)
   have ae:∀i∈cols,0<=i/\i<C:=fun i hi=>qX fun hn=>a6 (.inr ⟨i,hi,by omega⟩)
   rintro⟨b3,_⟩ _ ac;simp only at ac⊢;refine⟨fun _=>trivial, ?_⟩;rintro⟨b4,_⟩ ad;simp only at ad⊢;have h3:b3=true:=by rw[ac];exact rD ⟨by omega,by omega⟩
   have h4:b4=true:=by rw[(ad (by rw[h3];rfl)).2];exact rD ⟨by omega,by omega⟩
   rw[h3,h4];refine⟨fun h=>(by cases h),fun _=> ?_⟩;clear a9 a2 ac ad key h;refine⟨fun p=>0<=p.1/\p.1<=(cols.length:Int)/\(∀k:Nat,k<p.1.toNat->J2 (.int .i64) (cols.getD k 0) p.2.1=some [(k:Int)])/\∀c,c∉cols.take p.1.toNat->J2 (.int .i64) c p.2.1=Option.none,fun p=>((cols.length:Int)-p.1).toNat,⟨qI _,qD _,fun k hk=>by simp at hk,fun _ _=>rfl⟩, ?_⟩;rintro⟨i,es,_⟩ _ ⟨i0,i1,aa,a3⟩;change Int at i;change List (Int×List Int)at es;simp only at i0 i1 aa a3⊢;refine⟨fun hi=> ?_,fun hi=> ?_⟩
   . have hi:=qA hi;have hg:=F9 (d:=(0:Int)) i0 hi;have aw:i.toNat<cols.length:=by omega
     have b8:cols.take (i+1).toNat=cols.take i.toNat++ [cols.getD i.toNat 0]:=by
      rw[show(i+1).toNat=i.toNat+1 from by omega,rX,qN aw,G8 _ _ aw];rfl
     have ab:cols.getD i.toNat 0∉cols.take i.toNat:=fun af=>by
      have h1:(cols.take (i+1).toNat).Nodup:=ay.take;rw[b8,sX]at h1;exact h1.2.2 _ af _ (qY.2 rfl) rfl
     rw[hg,wv (by omega)];refine⟨⟨i0,hi⟩,a3 _ ab,⟨by simp only[rO];omega,by simp only[rO];omega⟩,⟨by omega,by omega,fun k hk=> ?_,fun c hc=> ?_⟩,by omega⟩
     . show J2 (.int .i64) (cols.getD k 0) (Em (.int .i64) (cols.getD i.toNat 0) [i] es)= _;rw[Zs];by_cases av:k=i.toNat
       . rw[rB (by rw[av]),av,show((i.toNat:Nat):Int)=i from by omega]
       . have bb:k<i.toNat:=by have hk:k<(i+1).toNat:=hk;omega
         rw[qT,aa k bb];intro he;apply ab;rw[<-he,G8 _ _ (show k<cols.length by omega)];exact tW.2 ⟨k,by rw[qU];omega,by simp⟩
     . show J2 (.int .i64) c (Em (.int .i64) (cols.getD i.toNat 0) [i] es)= _;have hc:c∉cols.take (i+1).toNat:=hc;rw[b8,rF,qY,not_or]at hc;rw[Zs,qT hc.2,a3 c hc.1]
   . have hi:=qB hi;rw[E9 (by omega)]at a3;have af:i.toNat=cols.length:=by omega
     rw[af]at aa;rw[qJ];refine⟨⟨by omega,qI _,by omega,by omega⟩,fun p=>0<=p.1/\p.1<=(rows.length:Int)/\dR rows.length p.1.toNat (fun i=>isV cols.length fun j=>el (R,C,D) (rows.getD i 0).toNat (cols.getD j 0).toNat) p.2.1,fun p=>((rows.length:Int)-p.1).toNat,⟨qI _,qD _,B0p rE⟩, ?_⟩;rintro⟨k,out,_⟩ _ ⟨k0,k1,hf⟩;change Int at k;change List (List D1)at out;simp only at k0 k1 hf⊢;have bm:=hf.1;refine⟨fun hk=> ?_,fun hk=> ?_⟩
     . have hk:=qA hk;have hg:=F9 (d:=(0:Int)) k0 hk;have ah:=ai _ (J4 (d:=(0:Int)) k0 hk);rw[hg]at ah⊢;have ba:∀ {w:List D1},isV cols.length (fun j=>el (R,C,D) (rows.getD k.toNat 0).toNat (cols.getD j 0).toNat) w->dR rows.length (k+1).toNat (fun i=>isV cols.length fun j=>el (R,C,D) (rows.getD i 0).toNat (cols.getD j 0).toNat) (out.set k.toNat w):=fun {w} hw2=>oU hf k0 hk hw2
       generalize rows.getD k.toNat 0=a8 at*;have b6:a8<(D.length:Int):=by omega
       rw[aB ah.1 b6];have ax:D.getD a8.toNat []∈D:=C2 (by omega);have a7:=kU hv hs ax;have be:=v6 _ ax;have ar:∀c:Int,0<=c->A8 (D.getD a8.toNat []) c=el (R,C,D) a8.toNat c.toNat:=fun c hc=>A2g _ _ hc
       generalize D.getD a8.toNat []=row at*;have bn:=a7.2.2;refine⟨⟨k0,hk⟩,⟨ah.1,b6⟩,fun p=>0<=p.2.1/\p.2.1<=(row.length:Int)/\p.1.length<=p.2.1.toNat/\(p.1.map fun e=>e.1).Nodup/\(∀x∈p.1,∃q:Nat,q<cols.length/\x.1=(q:Int)/\(∃y∈row.take p.2.1.toNat,y.1=cols.getD q 0)/\rv x.2≠0/\x.2=rc (rv x.2))/\∀j:Nat,j<cols.length->A8 p.1 (j:Int)=A8 (row.take p.2.1.toNat) (cols.getD j 0),fun p=>((row.length:Int)-p.2.1).toNat,⟨qI _,qD _,rA _,yE,fun _ h=>(by cases h),fun j _=>rfl⟩, ?_⟩;rintro⟨o,t,_⟩ _ ⟨t0,t1,o1,o2,o3,o4⟩;change List D1 at o;change Int at t;simp only at t0 t1 o1 o2 o3 o4⊢;refine⟨fun ht=> ?_,fun ht=> ?_⟩
       . have ht:=qA ht;have au:=J4 (d:=F1) t0 ht;obtain⟨e0,e1,ez⟩:=be.2 _ au;have bd:=a7.2.1 _ au;have b9:=oP (d:=F1) t0 ht;have ap:∀y∈row.take t.toNat,y.1≠(gx F1 row t).1:=fun x hx hxe=>by
          have h1:(row.take (t+1).toNat).Pairwise (fun a b=>a.1<b.1):=a7.1.take;rw[show(t+1).toNat=t.toNat+1 from by omega,rX,J3 (d:=F1) t0 ht,uX]at h1;have:=h1.2.2 x hx (gx F1 row t) (by simp);omega
         have b7:∀y∈row.take t.toNat,y∈row.take (t+1).toNat:=fun y hy=>by
          rw[show(t+1).toNat=t.toNat+1 from by omega,rX];exact rF.2 (.inl hy)
         have az:gx F1 row t∈row.take (t+1).toNat:=by
          rw[show(t+1).toNat=t.toNat+1 from by omega,rX,J3 (d:=F1) t0 ht];simp
         generalize gx F1 row t=e at*;have hL:(J2 (.int .i64) e.1 es).getD []= []/\e.1∉cols\/∃q:Nat,q<cols.length/\cols.getD q 0=e.1/\(J2 (.int .i64) e.1 es).getD []= [(q:Int)]:=by
          by_cases hc:e.1∈cols
          . obtain⟨q,hq,a1⟩:=S0 0 hc;have:=aa q hq;rw[a1]at this;exact .inr ⟨q,hq,a1,by rw[this];rfl⟩
          . exact .inl ⟨by rw[a3 _ hc];rfl,hc⟩
         generalize (J2 (.int .i64) e.1 es).getD []=L at*;have bg:L.length<=1:=by
          rcases hL with⟨h,_⟩ | ⟨q,_,_,h⟩<;>rw[h]<;>simp
         refine⟨⟨t0,ht⟩,fun p=>0<=p.2.1/\p.2.1<=(L.length:Int)/\p.1=o++(L.take p.2.1.toNat).map fun q=>(q,rc (rv e.2)),fun p=>((L.length:Int)-p.2.1).toNat,⟨qI _,qD _,by simp⟩, ?_⟩;rintro⟨o',u,_⟩ _ ⟨u0,u1,a0⟩;change List D1 at o';change Int at u;simp only at u0 u1 a0⊢;have bf:o'.length<=o.length+1:=by
          rw[a0,rQ,sU,qU];omega
         refine⟨fun hu=> ?_,fun hu=> ?_⟩
         . have hu:=qA hu;refine⟨⟨u0,hu⟩,J6 bd (by decide), ?_⟩;rintro⟨q,_⟩ _ hq;simp only at hq⊢;rw[wv (by omega)];refine⟨⟨by simp only[rO];omega,by simp only[rO];omega⟩,⟨by omega,by omega, ?_⟩,by omega⟩;rw[a0,hq,show(u+1).toNat=u.toNat+1 from by omega,rX,J3 (d:=(0:Int)) u0 hu,uR,tY];rfl
         . have hu:=qB hu;rw[E9 (l:=L) (i:=u) (by omega)]at a0;rw[wv (by omega)];have aq:∀j:Nat,j<cols.length->A8 (row.take (t+1).toNat) (cols.getD j 0)=A8 (row.take t.toNat) (cols.getD j 0)+if e.1=cols.getD j 0 then rv e.2 else 0:=fun j _=>b9 _
           have a4:∀x∈o,∃q:Nat,q<cols.length/\x.1=(q:Int)/\(∃y∈row.take (t+1).toNat,y.1=cols.getD q 0)/\rv x.2≠0/\x.2=rc (rv x.2):=fun x hx=>by
            obtain⟨q,h1,h2,⟨y,hy,h3⟩,h4,h5⟩:=o3 x hx;exact⟨q,h1,h2,⟨y,b7 y hy,h3⟩,h4,h5⟩
           rcases hL with⟨hL,bc⟩ | ⟨q,hq,a1,hL⟩
           . rw[hL,g2y,vK]at a0;subst a0;refine⟨⟨by omega,by omega,by omega,o2,a4,fun j hj=> ?_⟩,by omega⟩;rw[o4 j hj,aq j hj,qT (fun h=>bc (by rw[h];exact C2 hj)),rP]
           . rw[hL,rY,g2y]at a0;subst a0;refine⟨⟨by omega,by omega,by omega, ?_,fun x hx=> ?_,fun j hj=> ?_⟩,by omega⟩
             . show((o++ [((q:Int),rc (rv e.2))]).map fun e:D1=>e.1).Nodup;rw[uR,sX];refine⟨o2,by simp,fun a ha b hb bh=> ?_⟩;obtain⟨x,hx,rfl⟩:=tG.1 ha;simp only[rY,g2y,qY]at hb;obtain⟨q',h1,h2,⟨y,hy,h3⟩,_⟩:=o3 x hx;have:q'=q:=by omega
               subst this;exact ap y hy (by rw[h3,a1])
             . rcases rF.1 hx with hx|hx
               . exact a4 x hx
               . rw[qY.1 hx];exact⟨q,hq,rfl,⟨e,az,a1.symm⟩,by rw[I8];exact ez,by rw[I8]⟩
             . show A8 (o++ [((q:Int),rc (rv e.2))]) (j:Int)= _;rw[Pa,o4 j hj,aq j hj];congr 1;by_cases b5:q=j
               . subst b5;rw[rB rfl,rB a1.symm]
               . rw[qT (by omega),qT];intro h6;apply b5;have h7:cols.getD q 0=cols.getD j 0:=a1.trans h6;rw[G8 _ _ hq,G8 _ _ hj]at h7;exact(wD ay).1 h7
       . have ht:=qB ht;rw[E9 (by omega)]at o4;refine⟨by omega,fun l' _ ag aj=> ?_⟩;have aj:l'.Pairwise fun a b:D1=>¬J0 b.1 a.1<0:=aj
         rw[wv (by omega)];refine⟨⟨k0,by omega⟩,⟨by omega,by omega,ba ?_⟩,by omega⟩;have a5:(l'.map fun e:D1=>e.1).Nodup:=(ag.map _).nodup_iff.2 o2;have ao:Gl l':=by
          unfold List.Nodup at a5;rw[wK]at a5;refine List.Pairwise.imp₂ ?_ aj a5;intro a b h1 h2;have:=A6z h1;omega
         have hx:∀x∈l',∃q:Nat,q<cols.length/\x.1=(q:Int)/\rv x.2≠0/\x.2=rc (rv x.2):=fun x hx=>by
          obtain⟨q,h1,h2,_,h4,h5⟩:=o3 x (ag.mem_iff.1 hx);exact⟨q,h1,h2,h4,h5⟩
         refine⟨⟨ao,fun x ak=> ?_⟩,fun x ak=> ?_,fun j hj=> ?_⟩
         . obtain⟨q,_,_,h4,h5⟩:=hx x ak;exact⟨h4,h5⟩
         . obtain⟨q,h1,h2,_⟩:=hx x ak;omega
         . rw[oO ag,o4 j hj];exact ar _ (ae _ (C2 hj)).1
     . have hk:=qB hk;exact⟨fun h=>absurd hv h,fun _=>⟨fun h2=>absurd h2 a6,fun _=>⟨fun h2=>absurd h2 (by omega),fun _=>⟨⟨rfl,rfl,hf.1,fun i hi=>hf.2 i (by omega)⟩,by trivial⟩⟩⟩⟩
 . have hr:r=false:=by rw[hr];exact rH hv
   rw[hr];exact⟨fun _=>⟨fun _=>⟨rfl,by trivial⟩,fun h=>absurd h hv⟩,fun h=>(by cases h)⟩
def cH:An:= {}
def cI:An:= {}
def FO:An:= {plan:= [(1,[3,7],[],true,(pR 0 3 (.q 3 (pR 4 3 (.q 7 (.p 8 (.p 9 .done))))))),(4,[3,7,10],[],true,(pR 0 3 (.q 3 (pR 4 3 (.q 7 (.p 8 (.p 9 (.q 10 (.p 11 (.e 12 (.p 13 .done)))))))))))]}
def IS:An:= {}
def FP:An:= {loop:= [(3,⟨[0,1],[],[(5,false,[.own tQ 38]),(6,false,vI)],[(0,60,[.val (.sl (.int .i64)), .val (.int .i64)])],[]⟩)]}
def Uj:An:= {}
def MN:A2 Lb.args->Prop:=fun(x:Int×Int×Unit)=>let b:=(u64.wrap x.2.1);let a:=(u64.wrap x.1);u64.wrap x.2.1≠0/\(0<x.2.1->(0:Int)<=i64.wrap (a.tmod b)/\i64.wrap (a.tmod b)<x.2.1/\i64.wrap (a.tmod b)=a.tmod x.2.1)
def gZ:A2 Lc.args->Prop:=fun(x:List Int×Unit)=>(x.1,(0:Int))=(x.1,(0:Int))
def Nd:A2 X9.args->Prop:=fun(x:(List Int×Int)×Int×Unit)=>let e:=(1:Int);let d:=(↑x.1.1.length:Int);let c:=(x.1.1.length:Int);let b:=(0:Int);let a:=(i64.wrap (x.1.2+e)-e);(iB (decide (c<=x.1.2)) ((b<=b/\b<x.2.1)/\x.1.1=x.1.1/\b<=x.1.2/\x.1.2<=d) ((b<=i64.wrap a/\i64.wrap a<c)/\b<x.2.1/\∀(r:Int×Unit),D2 r.1/\True->(b<x.2.1->b<=r.1/\r.1<x.2.1/\r.1=(u64.wrap (gx b x.1.1 (i64.wrap a))).tmod x.2.1)->(b<=r.1/\r.1<x.2.1)/\x.1.1=x.1.1/\b<=i64.wrap (x.1.2+e)/\i64.wrap (x.1.2+e)<=d))
def Qu:A2 Ax.args->Prop:=fun(x:(List Int×Int)×Unit)=>let b:=(x.1.1.length:Int);let a:=(0:Int);(a<(13:Int)/\a<=x.1.2/\x.1.2<=b)/\∀(r:Int×Unit) (o:(List Int×Int)×Unit),let c:=(o.1.1.length:Int);D2 r.1/\True->((Ty.int i64).sl.pair (Ty.int i64)).wf o.1/\True->a<=r.1/\r.1<13->o.1.1=x.1.1/\a<=o.1.2/\o.1.2<=b->(a<(4:Int)/\a<=o.1.2/\o.1.2<=c)/\∀(e:Int×Unit) (d:(List Int×Int)×Unit),D2 e.1/\True->((Ty.int i64).sl.pair (Ty.int i64)).wf d.1/\True->a<=e.1/\e.1<4->d.1.1=o.1.1/\a<=d.1.2/\d.1.2<=c->True/\∀(f:QQ×Unit),L6 f.1/\True->f.1=rc (Rat.divInt (i64.wrap (r.1-6)) (i64.wrap (1+e.1)))->Kk f.1/\d.1.1=x.1.1/\a<=d.1.2/\d.1.2<=(↑x.1.1.length:Int)
def Nf:A2 Y0.args->Prop:=fun(x:(List Int×Int)×Int×Unit)=>let c:=(0:Int);∃(I:List QQ×Int×List Int×Int×Unit->Prop),∃(μ: _->Nat),I ([],c,x.1.1,x.1.2,())/\∀(p:List QQ×Int×List Int×Int×Unit),let b:=(p.2.2.1.length:Int);tQ.sl.wf p.1/\(Ty.int i64).wf p.2.1/\(Ty.int i64).sl.wf p.2.2.1/\(Ty.int i64).wf p.2.2.2.1/\True->I p->(iB (decide (p.2.1<x.2.1)) ((c<=p.2.2.2.1/\p.2.2.2.1<=b)/\∀(r:QQ×Unit) (o:(List Int×Int)×Unit),let a:=(p.1++ [r.1],i64.wrap (p.2.1+1),o.1.1,o.1.2,());L6 r.1/\True->((Ty.int i64).sl.pair (Ty.int i64)).wf o.1/\True->Kk r.1->o.1.1=p.2.2.1/\c<=o.1.2/\o.1.2<=b->((p.1.length+ [r.1].length)*(56:Nat)<=(140737488355328:Nat)/\p.1.length+ [r.1].length<=9223372036854775807)/\I a/\μ a<μ p) (((↑p.1.length:Int)=Max.max x.2.1 c/\∀(e:QQ),e∈p.1->Kk e)/\p.2.2.1=x.1.1/\c<=p.2.2.2.1/\p.2.2.2.1<=(↑x.1.1.length:Int)))
def Hb:A2 N9.args->Prop:=fun(x:(List Int×Int)×Unit)=>let b:=(x.1.1.length:Int);let a:=(0:Int);(a<(9:Int)/\a<=x.1.2/\x.1.2<=b)/\∀(r:Int×Unit) (o:(List Int×Int)×Unit),let c:=(o.1.1.length:Int);D2 r.1/\True->((Ty.int i64).sl.pair (Ty.int i64)).wf o.1/\True->a<=r.1/\r.1<9->o.1.1=x.1.1/\a<=o.1.2/\o.1.2<=b->(a<(4:Int)/\a<=o.1.2/\o.1.2<=c)/\∀(e:Int×Unit) (d:(List Int×Int)×Unit),D2 e.1/\True->((Ty.int i64).sl.pair (Ty.int i64)).wf d.1/\True->a<=e.1/\e.1<4->d.1.1=o.1.1/\a<=d.1.2/\d.1.2<=c->True/\∀(f:QQ×Unit),L6 f.1/\True->f.1=rc (Rat.divInt (i64.wrap (1+r.1)) (i64.wrap (1+e.1)))->(Kk f.1/\(0:Rat)<rv f.1)/\d.1.1=x.1.1/\a<=d.1.2/\d.1.2<=(↑x.1.1.length:Int)
def grown (n m i j:Nat) (f:Nat->Nat->Rat) (rows:List (List C0)):Prop:=rows.length=n/\∀k,k<n->rows.getD k []=(List.range (if k<i then m else if k=i then j else 0)).map fun l=>rc (f k l)
def TZ (x:A2 Lc.args) (_:awf Lc.args x) (_:Lc.pre x):gZ x:=rfl
def Xy (x:A2 X9.args) (hw:awf X9.args x) (hp:X9.pre x):Nd x:=by
 obtain⟨⟨l,i⟩,n,_⟩:=x;have hl:l.length<=9223372036854775807:=hw.1.1.1;change Int at i n;change List Int at l;obtain⟨u,p1,p2⟩:0<n/\0<=i/\i<=(l.length:Int):=hp;simp only[Nd,iB];refine⟨fun h=>⟨⟨by omega,u⟩,by trivial,p1,p2⟩,fun h=> ?_⟩;have h:=qB h;rw[wv (a:=i+1) (by omega),wv (a:=i+1-1) (by omega)];refine⟨⟨by omega,by omega⟩,u, ?_⟩;rintro⟨r,_⟩ _ hr;exact⟨⟨(hr u).1,(hr u).2.1⟩,by trivial,by omega,by omega⟩
def TY (x:A2 Lb.args) (hw:awf Lb.args x) (hp:Lb.pre x):MN x:=by
 obtain⟨a,b,_⟩:=x;change Int at a b;have hb:0<b:=hp;have h1:JU .i64 b:=hw.2.1;unfold JU at h1;rw[show i64.min= -9223372036854775808 from by decide,show i64.max=9223372036854775807 from by decide]at h1;simp only[MN];have e:u64.wrap b=b:=by simp[IntKind.wrap,IntKind.bits,IntKind.signed];omega
 have u:0<=u64.wrap a:=by simp[IntKind.wrap,IntKind.bits,IntKind.signed];omega
 rw[e];have h3:0<=(u64.wrap a).tmod b:=yX _ u;have h4:(u64.wrap a).tmod b<b:=Int.tmod_lt_of_pos _ hb;rw[wv (by omega)];exact⟨by omega,fun _=>⟨h3,h4,rfl⟩⟩
def LQ {a b:Int} (ha:a.natAbs<4294967296) (u:0<b) (hb:b.natAbs<4294967296):Kk (rc (Rat.divInt a b)):=by
 refine⟨_, ?_,rfl⟩;rw[DH u];exact TB (by omega) (Fl (by simpa using ha)) (Fl (by simpa using hb))
def BN (x:A2 Ax.args) (hw:awf Ax.args x) (hp:Ax.pre x):Qu x:=by
 obtain⟨⟨l,i⟩,_⟩:=x;change Int at i;change List Int at l;obtain⟨p1,p2⟩:0<=i/\i<=(l.length:Int):=hp;simp only[Qu];refine⟨⟨by omega,p1,p2⟩, ?_⟩;rintro⟨a,_⟩ ⟨⟨l1,i1⟩,_⟩ _ _ ha ho;change Int at i1 a;change List Int at l1;simp only at ha ho⊢;obtain⟨rfl,h1,u⟩:=ho;refine⟨⟨by omega,h1,u⟩, ?_⟩;rintro⟨b,_⟩ ⟨⟨l2,i2⟩,_⟩ _ _ hb ho;change Int at i2 b;change List Int at l2;simp only at hb ho⊢;obtain⟨rfl,h1,u⟩:=ho;refine⟨trivial, ?_⟩;rintro⟨q,_⟩ _ hq;simp only at hq⊢;rw[wv (by omega),wv (by omega)]at hq;exact⟨by rw[hq];exact LQ (by omega) (by omega) (by omega),by trivial,h1,u⟩
def Xz (x:A2 Y0.args) (hw:awf Y0.args x) (hp:Y0.pre x):Nf x:=by
 obtain⟨⟨l,i⟩,n,_⟩:=x;change Int at i n;change List Int at l;obtain⟨p0,p1,p2⟩:n<=1000/\0<=i/\i<=(l.length:Int):=hp;simp only[Nf,iB];refine⟨fun p=>0<=p.2.1/\p.2.1<=max n 0/\(p.1.length:Int)=p.2.1/\(∀e∈p.1,Kk e)/\p.2.2.1=l/\0<=p.2.2.2.1/\p.2.2.2.1<=(l.length:Int),fun p=>(n-p.2.1).toNat,⟨qI _,by show 0<=max n 0;omega,rfl,fun e u=>(by cases u),rfl,p1,p2⟩, ?_⟩;rintro⟨o,k,l1,i1,_⟩ _ ⟨h0,h1,h2,h3,h4,h5,h6⟩;change Int at k i1;change List Int at l1;change List C0 at o;simp only at h0 h1 h2 h3 h4 h5 h6⊢;subst h4;refine⟨fun h=> ?_,fun h=> ?_⟩
 . have h:=qA h;refine⟨⟨h5,h6⟩, ?_⟩;rintro⟨q,_⟩ ⟨⟨l2,i2⟩,_⟩ _ _ hq ho;change Int at i2;change List Int at l2;simp only at hq ho⊢;obtain⟨rfl,g1,g2⟩:=ho;rw[wv (by omega)];refine⟨⟨by rw[rO];omega,by rw[rO];omega⟩,⟨by omega,by omega,by rw[rQ,rO];omega,fun e u=> ?_,by trivial,g1,g2⟩,by omega⟩;rcases rF.1 u with u|u
   . exact h3 e u
   . rw[qY.1 u];exact hq
 . have h:=qB h;exact⟨⟨by omega,h3⟩,by trivial,h5,h6⟩
end Go.Proofs.YthiimnbdinlfeaaGreat
