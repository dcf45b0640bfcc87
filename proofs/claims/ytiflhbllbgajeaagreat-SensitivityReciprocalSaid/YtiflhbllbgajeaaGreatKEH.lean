/- Part. -/
import Derived.Test.YtiflhbllbgajeaaGreatKEG
set_option linter.all false
namespace Go.Proofs.YtiflhbllbgajeaaGreat
open Go.Proofs.Tryz
open Go.Vc Go.Gw
open Go.IntKind (i64 u64 u32)
def fO:An:= {}
def fP:An:= {}
def HS:An:= {plan:= [(1,[3,7],[],true,(pZ9 0 3 (.q 3 (pZ9 4 3 (.q 7 (.p 8 (.p 9 .done))))))),(4,[3,7,10],[],true,(pZ9 0 3 (.q 3 (pZ9 4 3 (.q 7 (.p 8 (.p 9 (.q 10 (.p 11 (.e 12 (.p 13 .done)))))))))))]}
def KT:An:= {}
def Ws:An:= {}
def OG:A2 Mn.args->Prop:=fun(x:Ce)=>let b:=(u64.wrap x.2.1);let a:=(u64.wrap x.1);u64.wrap x.2.1≠0/\(0<x.2.1->(0:Int)<=i64.wrap (a.tmod b)/\i64.wrap (a.tmod b)<x.2.1/\i64.wrap (a.tmod b)=a.tmod x.2.1)
def kS:A2 Mo.args->Prop:=fun(x:Lc)=>(x.1,(0:Int))=(x.1,(0:Int))
def Pb:A2 Z6.args->Prop:=fun(x:(List Int×Int)×Int×Unit)=>let e:=(1:Int);let d:=(↑x.1.1.length:Int);let c:=(x.1.1.length:Int);let b:=(0:Int);let a:=(i64.wrap (x.1.2+e)-e);(iB (decide (c<=x.1.2)) ((b<=b/\b<x.2.1)/\x.1.1=x.1.1/\b<=x.1.2/\x.1.2<=d) ((b<=i64.wrap a/\i64.wrap a<c)/\b<x.2.1/\Cg fun r=>(b<x.2.1->b<=r.1/\r.1<x.2.1/\r.1=(u64.wrap (gx b x.1.1 (i64.wrap a))).tmod x.2.1)->(b<=r.1/\r.1<x.2.1)/\x.1.1=x.1.1/\b<=i64.wrap (x.1.2+e)/\i64.wrap (x.1.2+e)<=d))
abbrev AB:=(List Int×Int)×Unit
def Tc:A2 Bh.args->Prop:=fun(x:AB)=>let b:=(x.1.1.length:Int);let a:=(0:Int);(a<(13:Int)/\a<=x.1.2/\x.1.2<=b)/\∀(r:C5) (o:AB),let c:=(o.1.1.length:Int);K9 r.1/\True->((Ty.int i64).sl.pair (Ty.int i64)).wf o.1/\True->a<=r.1/\r.1<13->o.1.1=x.1.1/\a<=o.1.2/\o.1.2<=b->(a<(4:Int)/\a<=o.1.2/\o.1.2<=c)/\∀(e:C5) (d:AB),K9 e.1/\True->((Ty.int i64).sl.pair (Ty.int i64)).wf d.1/\True->a<=e.1/\e.1<4->d.1.1=o.1.1/\a<=d.1.2/\d.1.2<=c->True/\I6 fun f=>f.1=rc (Rat.divInt (i64.wrap (r.1-6)) (i64.wrap (1+e.1)))->Yv f.1/\d.1.1=x.1.1/\a<=d.1.2/\d.1.2<=(↑x.1.1.length:Int)
def Hp:A2 O6.args->Prop:=fun(x:AB)=>let b:=(x.1.1.length:Int);let a:=(0:Int);(a<(9:Int)/\a<=x.1.2/\x.1.2<=b)/\∀(r:C5) (o:AB),let c:=(o.1.1.length:Int);K9 r.1/\True->((Ty.int i64).sl.pair (Ty.int i64)).wf o.1/\True->a<=r.1/\r.1<9->o.1.1=x.1.1/\a<=o.1.2/\o.1.2<=b->(a<(4:Int)/\a<=o.1.2/\o.1.2<=c)/\∀(e:C5) (d:AB),K9 e.1/\True->((Ty.int i64).sl.pair (Ty.int i64)).wf d.1/\True->a<=e.1/\e.1<4->d.1.1=o.1.1/\a<=d.1.2/\d.1.2<=c->True/\I6 fun f=>f.1=rc (Rat.divInt (i64.wrap (1+r.1)) (i64.wrap (1+e.1)))->(Yv f.1/\(0:Rat)<rv f.1)/\d.1.1=x.1.1/\a<=d.1.2/\d.1.2<=(↑x.1.1.length:Int)
def gA:An:= {loop:= [(3,⟨[0,4,5],[0],[(6,false,vI)],[(1,29,[.val (.int .i64), .val (.int .i64), .own (.sl tE) 79])],[]⟩)],plan:= [(5,[1,5],[8,10],false,(.p 0 (.q 1 (pZ9 2 3 (.q 5 (.e 6 (.e 7 (.e 8 (.p 9 (.e 10 .done))))))))))]}
def KY:An:= {loop:= [(4,⟨[2,3],[0,1],[(5,false,vI)],[],[]⟩)],plan:= [(6,[1,4,6,9],[],true,(.p 0 (.q 1 (.p 2 (.p 3 (.q 4 (.p 5 (.q 6 (.p 7 (.p 8 (.q 9 (.e 10 (.p 11 .done)))))))))))))]}
abbrev C0w:=Int×Int×Int×List (List EE)×Unit
def OR:A2 Il.args->Prop:=fun(x:List (List QQ)×Int×Unit)=>let d:=(↑x.2.1.toNat:Int);let b:=(x.1.length:Int);∃(I:C0w->Prop),∃(μ: _->Nat),I ((0:Int),b,x.2.1,[],())/\∀(p:C0w),let c:=(gx [] x.1 p.1);(Ty.int i64).wf p.1/\(Ty.int i64).wf p.2.1/\(Ty.int i64).wf p.2.2.1/\tE.sl.sl.wf p.2.2.2.1/\True->I p->(iB (decide (p.1<b)) ((0<=p.1/\p.1<b)/\(c.length<=(100000:Nat)/\JM K1 c)/\eF fun r=>let a:=(i64.wrap (p.1+1),p.2.1,p.2.2.1,p.2.2.2.1++ [r.1],());PQ c.length (fun(j:Nat)=>rv (c.getD j zr)) r.1->((p.2.2.2.1.length+ [r.1].length)*(24:Nat)<=(140737488355328:Nat)/\p.2.2.2.1.length+ [r.1].length<=9223372036854775807)/\I a/\μ a<μ p) (p.2.1=(↑x.1.length:Int)/\p.2.2.1=d/\p.2.2.2.1.length=x.1.length/\∀(i:Nat),i<x.1.length->Y5 (p.2.2.2.1.getD i [])/\(∀(e:D0),e∈p.2.2.2.1.getD i []->0<=e.1/\e.1<d)/\∀(j:Nat),j<x.2.1.toNat->A4 (p.2.2.2.1.getD i []) (↑j:Int)=rv ((x.1.getD i []).getD j zr)))
def Ti:A2 V3.args->Prop:=fun(x:MM×MM×Unit)=>let d:=(x.2.1.2.2.length:Int);let c:=(K8 (decide (x.1.1≠x.2.1.1)) true (decide (x.1.2.1≠x.2.1.2.1)));let b:Prop:=(false=true↔x.1=x.2.1/\∀(v:List EE),v∈x.1.2.2->∀(e:EE),e∈v->e.2=rc (rv e.2));let a:=(x.1.2.2.length:Int);(iB (K8 c true (decide (a≠d))) (b) (∃(I:C5->Prop),∃(μ: _->Nat),I ((0:Int),())/\∀(p:C5),let f:=(i64.wrap (p.1+1),());(Ty.int i64).wf p.1/\True->I p->(iB (decide (p.1<a)) ((0<=p.1/\p.1<a)/\(0<=p.1/\p.1<d)/\QT K1 (gx [] x.1.2.2 p.1)/\Vy fun r=>r.1=decide (gx [] x.1.2.2 p.1=gx [] x.2.1.2.2 p.1/\∀(e:EE),e∈gx [] x.1.2.2 p.1->e.2=rc (rv e.2))->(iB ((!r.1)) (b) (I f/\μ f<μ p))) ((true=true↔x.1=x.2.1/\∀(v:List EE),v∈x.1.2.2->∀(e:EE),e∈v->e.2=rc (rv e.2))))))
def WX (x:A2 Il.args) (hw:awf Il.args x) (hp:Il.pre x):OR x:=by
 obtain⟨D,C,_⟩:=x;change List (List D3)at D;change Int at C;obtain⟨hs,c0,c1,hl⟩:(∀l∈D,JM K1 l/\(l.length:Int)=C)/\0<=C/\C<=16384/\D.length<=16384:=hp;simp only[OR,iB,eF];refine⟨fun p=>0<=p.1/\p.1<=(D.length:Int)/\p.2.1=(D.length:Int)/\p.2.2.1=C/\p.2.2.2.1.length=p.1.toNat/\∀i,i<p.1.toNat->PQ C.toNat (fun j=>rv ((D.getD i []).getD j zr)) (p.2.2.2.1.getD i []),fun p=>((D.length:Int)-p.1).toNat,⟨qI _,qE _,rfl,rfl,rfl,fun i hi=>by simp at hi⟩, ?_⟩;rintro⟨i,a,b,rows,_⟩ _ ⟨i0,i1,ha,hb,a3,hf⟩;change Int at i a b;change List (List D0)at rows;simp only at i0 i1 ha hb a3 hf⊢;refine⟨fun h=> ?_,fun h=> ?_⟩
 . have h:=qA h;have a2:=I3 (d:=([]:List D3)) i0 h;obtain⟨h1,h2⟩:=hs _ a2;refine⟨⟨i0,h⟩,⟨by omega,h1⟩, ?_⟩;rintro⟨v,_⟩ _ hv;simp only at hv⊢;rw[wv (by omega)];rw[show(gx [] D i).length=C.toNat from by omega,G2 i0 h]at hv;refine⟨⟨by simp only[rG];omega,by simp only[rG];omega⟩,⟨by omega,by omega,ha,hb,by rw[rP,rG];omega,fun k hk=> ?_⟩,by omega⟩;show PQ _ _ ((rows++ [v]).getD k []);by_cases a0:k<rows.length
   . have u:(rows++ [v]).getD k []=rows.getD k []:=by
      rw[qF,wD a0, <-qF]
     rw[u];exact hf k (by omega)
   . have a1:k=i.toNat:=by omega
     have u:(rows++ [v]).getD k []=v:=by
      rw[qF,uD (by omega),show k-rows.length=0 from by omega];rfl
     rw[u,a1];exact hv
 . have h:=qB h;exact⟨ha,by omega,by omega,fun k hk=>hf k (by omega)⟩
def EG (x:A2 V3.args) (hw:awf V3.args x) (hp:V3.pre x):Ti x:=by
 obtain⟨⟨R,C,D⟩,⟨R',C',D'⟩,_⟩:=x;have a4:D.length<=9223372036854775807:=hw.1.2.2.1;change Int at R C R' C';change List (List D0)at D D';have hs:Di K1 (R,C,D):=hp;simp only[Ti,iB,Vy];simp only[J1];refine⟨fun h=> ?_,fun h=> ?_⟩
 . simp only[uI,rY]at h;refine⟨fun u=>(by cases u),fun u=> ?_⟩;have h3:=u.1;simp only[g0a]at h3;obtain⟨rfl,rfl,rfl⟩:=h3;simp at h
 . simp only[rL,rS,vE]at h;obtain⟨⟨rfl,rfl⟩,a3⟩:=h;refine⟨fun p=>0<=p.1/\p.1<=(D.length:Int)/\D.take p.1.toNat=D'.take p.1.toNat/\∀v∈D.take p.1.toNat,∀e∈v,e.2=rc (rv e.2),fun p=>((D.length:Int)-p.1).toNat,⟨qI _,qE _,by simp,by simp⟩, ?_⟩;rintro⟨i,_⟩ _ ⟨h0,h1,u,h3⟩;change Int at i;simp only at h0 h1 u h3⊢;refine⟨fun h=> ?_,fun h=> ?_⟩
   . have h:=qA h;have a0:=I3 (d:=([]:List D0)) h0 h;have ga:=G8 (d:=([]:List D0)) h0 h;have gb:=G8 (d:=([]:List D0)) (l:=D') h0 (by omega);have a1:D.take (i+1).toNat=D.take i.toNat++ [gx [] D i]:=by
      rw[show(i+1).toNat=i.toNat+1 from by omega,rR,ga];rfl
     have a2:D'.take (i+1).toNat=D'.take i.toNat++ [gx [] D' i]:=by
      rw[show(i+1).toNat=i.toNat+1 from by omega,rR,gb];rfl
     refine⟨⟨h0,h⟩,⟨h0,by omega⟩,hs _ a0, ?_⟩;rintro⟨q,_⟩ _ hq;simp only at hq⊢;refine⟨fun h4=>⟨fun h5=>(by cases h5),fun h5=> ?_⟩,fun h4=> ?_⟩
     . obtain⟨h6,h7⟩:=h5;simp only[g0a,true_and]at h6;subst h6;rw[hq,rK (⟨rfl,h7 _ a0⟩: _ /\ _)]at h4;cases h4
     . rw[hq]at h4;have h4:gx [] D i=gx [] D' i/\∀e∈gx [] D i,e.2=rc (rv e.2):=qA (by simpa using h4);rw[wv (by omega)];refine⟨⟨by omega,by omega,by rw[a1,a2,u,h4.1],fun v hv=> ?_⟩,by omega⟩;rw[a1]at hv;rcases rA.1 hv with hv|hv
       . exact h3 v hv
       . rw[qR.1 hv];exact h4.2
   . have h:=qB h;rw[E1 (by omega),E1 (by omega)]at u;rw[E1 (by omega)]at h3;subst u;exact⟨fun _=>⟨rfl,h3⟩,fun _=>by trivial⟩
def grown (n m i j:Nat) (f:Nat->Nat->Rat) (rows:List (List D3)):Prop:=rows.length=n/\∀k,k<n->rows.getD k []=(List.range (if k<i then m else if k=i then j else 0)).map fun l=>rc (f k l)
def VW (x:A2 Mo.args) (_:awf Mo.args x) (_:Mo.pre x):kS x:=rfl
def AL (x:A2 Z6.args) (hw:awf Z6.args x) (hp:Z6.pre x):Pb x:=by
 obtain⟨⟨l,i⟩,n,_⟩:=x;have hl:l.length<=9223372036854775807:=hw.1.1.1;change Int at i n;change List Int at l;obtain⟨u,p1,p2⟩:0<n/\0<=i/\i<=(l.length:Int):=hp;simp only[Pb,iB,Cg];refine⟨fun h=>⟨⟨by omega,u⟩,by trivial,p1,p2⟩,fun h=> ?_⟩;have h:=qB h;rw[wv (a:=i+1) (by omega),wv (a:=i+1-1) (by omega)];refine⟨⟨by omega,by omega⟩,u, ?_⟩;rintro⟨r,_⟩ _ hr;exact⟨⟨(hr u).1,(hr u).2.1⟩,by trivial,by omega,by omega⟩
def VV (x:A2 Mn.args) (hw:awf Mn.args x) (hp:Mn.pre x):OG x:=by
 obtain⟨a,b,_⟩:=x;change Int at a b;have hb:0<b:=hp;have h1:LQ .i64 b:=hw.2.1;unfold LQ at h1;rw[show i64.min= -9223372036854775808 from by decide,show i64.max=9223372036854775807 from by decide]at h1;simp only[OG];have e:u64.wrap b=b:=by simp[IntKind.wrap,IntKind.bits,IntKind.signed];omega
 have u:0<=u64.wrap a:=by simp[IntKind.wrap,IntKind.bits,IntKind.signed];omega
 rw[e];have h3:0<=(u64.wrap a).tmod b:=zA _ u;have h4:(u64.wrap a).tmod b<b:=Int.tmod_lt_of_pos _ hb;rw[wv (by omega)];exact⟨by omega,fun _=>⟨h3,h4,rfl⟩⟩
def Oe {a b:Int} (ha:a.natAbs<4294967296) (u:0<b) (hb:b.natAbs<4294967296):Yv (rc (Rat.divInt a b)):=by
 refine⟨_, ?_,rfl⟩;rw[FT u];exact VA (by omega) (Gc (by simpa using ha)) (Gc (by simpa using hb))
def EA (x:A2 Bh.args) (hw:awf Bh.args x) (hp:Bh.pre x):Tc x:=by
 obtain⟨⟨l,i⟩,_⟩:=x;change Int at i;change List Int at l;obtain⟨p1,p2⟩:0<=i/\i<=(l.length:Int):=hp;simp only[Tc,I6];refine⟨⟨by omega,p1,p2⟩, ?_⟩;rintro⟨a,_⟩ ⟨⟨l1,i1⟩,_⟩ _ _ ha ho;change Int at i1 a;change List Int at l1;simp only at ha ho⊢;obtain⟨rfl,h1,u⟩:=ho;refine⟨⟨by omega,h1,u⟩, ?_⟩;rintro⟨b,_⟩ ⟨⟨l2,i2⟩,_⟩ _ _ hb ho;change Int at i2 b;change List Int at l2;simp only at hb ho⊢;obtain⟨rfl,h1,u⟩:=ho;refine⟨trivial, ?_⟩;rintro⟨q,_⟩ _ hq;simp only at hq⊢;rw[wv (by omega),wv (by omega)]at hq;exact⟨by rw[hq];exact Oe (by omega) (by omega) (by omega),by trivial,h1,u⟩
def Dk:An:= {}
def Iy:An:= {join:= [(16,⟨[0,1,2,6],[],[],[],[(0, .row tE 106)]⟩)],loop:= [(2,⟨[0,1,2,6],[],[(7,false,vI),(8,false,vI)],[],[(0, .row tE 106)]⟩),(9,⟨[0,1,2,6],[],[(7,false,vI),(8,false,vI)],[],[(0, .row tE 106)]⟩),(7,⟨[0,1,2],[],[(6,false,vI)],[],[(0, .row tE 106)]⟩)]}
def Dz:An:= {loop:= [(4,⟨[0,1,2,3,8],[],[(9,false,vI)],[],[(0, .row tE 106)]⟩),(1,⟨[0,1,2,3],[],[(8,false,vI)],[],[(0, .row tE 106)]⟩)],plan:= [(4,[8,13],[],false,(pZ9 0 8 (.q 8 (pZ9 9 4 (.q 13 (.e 14 (.p 15 (.p 16 .done)))))))),(6,[9,13],[15,17],true,(pZ9 0 9 (.q 9 (pZ9 10 3 (.q 13 (.p 14 (.e 15 (.p 16 (.e 17 .done)))))))))]}
def IE:An:= {}
def ID:An:= {join:= [(14,⟨[3,18,19,20],[],[(4,false,vI)],[],[(0, .row tE 106)]⟩)],loop:= [(8,⟨[3,18,19],[],[(4,false,vI),(20,false,vI)],[],[(0, .row tE 106)]⟩)],plan:= [(10,[8,10],[],true,(pZ9 0 8 (.q 8 (.p 9 (.q 10 (.p 11 (.p 12 .done))))))),(11,[8,10],[14],true,(pZ9 0 8 (.q 8 (.p 9 (.q 10 (.e 11 (.p 12 (.p 13 (.e 14 .done)))))))))]}
def P9:A2 E6.args->Prop:=fun(x:List EE×((EE×EE×Unit->Prop)×(EE×EE×Unit->Int))×Unit)=>let a:=(x.1.length:Int);Go.Proofs.Tryz.prog=Go.Proofs.Tryz.prog/\false=false/\((Zf x.2.1.1 fun(z:PY)=>x.2.1.2 z)/\a=a/\List.length x.1<=20)/\∀(r:Unit) (o:AC),True->tE.sl.wf o.1/\True->True->o.1.Perm x.1/\Xk (fun(z:PY)=>x.2.1.2 z) o.1->True/\o.1.Perm x.1/\Xk x.2.1.2 o.1
abbrev A4c:=Int×Int×List EE×Unit
abbrev XW:=Int×List EE×Unit
def Aq:A2 H0.args->Prop:=fun(x:List EE×Int×((EE×EE×Unit->Prop)×(EE×EE×Unit->Int))×Unit)=>let g:=(0:Int);∃(I:A4c->Prop),∃(μ: _->Nat),I (g,(20:Int),x.1,())/\∀(p:A4c),let f:=(p.2.2.1.length:Int);let b:=p.1.toNat;(Ty.int i64).wf p.1/\(Ty.int i64).wf p.2.1/\OW p.2.2.1/\True->I p->(iB (decide (p.2.1<=x.2.1)) (Go.Proofs.Tryz.prog=Go.Proofs.Tryz.prog/\false=false/\((Zf x.2.2.1.1 fun(z:PY)=>x.2.2.1.2 z)/\g<=p.1/\p.1<=p.2.1/\p.2.1<=f/\List.length p.2.2.1<=100000)/\∀(r:Unit) (o:AC),let c:=(p.2.1,i64.wrap (p.2.1+20),o);True->tE.sl.wf o.1/\True->True->o.1.Perm p.2.2.1/\List.take b o.1=List.take b p.2.2.1/\List.drop p.2.1.toNat o.1=List.drop p.2.1.toNat p.2.2.1/\Xk (fun(z:PY)=>x.2.2.1.2 z) (List.take (Int.toNat p.2.1-Int.toNat p.1) (List.drop b o.1))->I c/\μ c<μ p) (Go.Proofs.Tryz.prog=Go.Proofs.Tryz.prog/\false=false/\((Zf x.2.2.1.1 fun(z:PY)=>x.2.2.1.2 z)/\g<=p.1/\p.1<=x.2.1/\x.2.1<=f/\List.length p.2.2.1<=100000)/\∀(r:Unit) (o:AC),True->tE.sl.wf o.1/\True->True->o.1.Perm p.2.2.1/\List.take b o.1=List.take b p.2.2.1/\List.drop x.2.1.toNat o.1=List.drop x.2.1.toNat p.2.2.1/\Xk (fun(z:PY)=>x.2.2.1.2 z) (List.take (Int.toNat x.2.1-Int.toNat p.1) (List.drop b o.1))->∃(I:XW->Prop),∃(μ: _->Nat),I ((20:Int),o)/\∀(p:XW),(Ty.int i64).wf p.1/\OW p.2.1/\True->I p->(iB (decide (p.1<x.2.1)) (∃(I_1:A4c->Prop),∃(u: _->Nat),I_1 (g,i64.wrap (2*p.1),p.2.1,())/\∀(h:A4c),let e:Prop:=(i64.wrap (h.1+p.1)<x.2.1);(Ty.int i64).wf h.1/\(Ty.int i64).wf h.2.1/\OW h.2.2.1/\True->I_1 h->(iB (decide (h.2.1<=x.2.1)) (Go.Proofs.Tryz.prog=Go.Proofs.Tryz.prog/\false=false/\False/\∀(r:Unit) (o:AC),let a:=(h.2.1,i64.wrap (h.2.1+i64.wrap (2*p.1)),o);True->tE.sl.wf o.1/\True->True->True->I_1 a/\u a<u h) (∃(J:AC->Prop),((iB (decide e) (Go.Proofs.Tryz.prog=Go.Proofs.Tryz.prog/\false=false/\False/\∀(r:Unit) (o:AC),True->tE.sl.wf o.1/\True->True->True->J o) (J (h.2.2.1,()))))/\eF fun i=>let d:=(i64.wrap (p.1*2),i);J i->I d/\μ d<μ p))) (True/\List.Perm p.2.1 x.1/\Xk x.2.2.1.2 p.2.1))))
def R0:A2 F1.args->Prop:=fun(x:List EE×Int×Int×((EE×EE×Unit->Prop)×(EE×EE×Unit->Int))×Unit)=>let h:=(0:Int);let f:=(1:Int);∃(I:XW->Prop),∃(μ: _->Nat),I (i64.wrap (x.2.1+f),x.1,())/\∀(p:XW),(Ty.int i64).wf p.1/\OW p.2.1/\True->I p->(iB (decide (p.1<x.2.2.1)) (∃(I_1:XW->Prop),∃(u: _->Nat),I_1 (p.1,p.2.1,())/\∀(m:XW),let k:=m.1.toNat;let i:=(i64.wrap (p.1+f),m.2.1,());let e:Prop:=(x.2.1<m.1);let d:=(i64.wrap (m.1-f));let g:=(List.set m.2.1 k (List.getD m.2.1 d.toNat E9));let c:=(m.2.1.length:Int);let l:Prop:=(h<=m.1/\m.1<c);let b:=(i64.wrap (m.1-f),g.set d.toNat (List.getD m.2.1 k E9),());let a:=(List.getD m.2.1 k E9,List.getD m.2.1 d.toNat E9,());let j:=(decide (x.2.2.2.1.2 a<h));(Ty.int i64).wf m.1/\OW m.2.1/\True->I_1 m->(decide e=true->h<=m.1/\m.1<c)/\(decide e=true->h<=i64.wrap (m.1-f)/\i64.wrap (m.1-f)<c)/\Go.Proofs.Tryz.prog=Go.Proofs.Tryz.prog/\(decide e=true->x.2.2.2.1.1 a)/\((decide e=true->(Ty.int i64).wf (x.2.2.2.1.2 a))->(iB (K8 (decide e) j false) ((h<=i64.wrap (m.1-f)/\i64.wrap (m.1-f)<c)/\l/\l/\(h<=i64.wrap (m.1-f)/\i64.wrap (m.1-f)<(↑g.length:Int))/\I_1 b/\u b<u m) (I i/\μ i<μ p)))) (True/\List.Perm p.2.1 x.1/\List.take x.2.1.toNat p.2.1=List.take x.2.1.toNat x.1/\List.drop x.2.2.1.toNat p.2.1=List.drop x.2.2.1.toNat x.1/\Xk x.2.2.2.1.2 (List.take (x.2.2.1.toNat-x.2.1.toNat) (List.drop x.2.1.toNat p.2.1))))
def Pq:A2 Ai.args->Prop:=fun(x:PY)=>True/\Cg fun r=>r.1=J8 x.1.1 x.2.1.1->r.1=J8 x.1.1 x.2.1.1
def Pp:A2 Ah.args->Prop:=fun(x:AC)=>let i:=(1:Int);let e:=(0:Int);let k:=e.toNat;let d:=(x.1.length:Int);True/\Vy fun r=>r.1=decide (Hf x.1)->(iB r.1 ((Hf x.1->x.1=x.1)/\(¬Hf x.1->Hf x.1/\(∀(j:Int),A4 x.1 j=A4 x.1 j)/\List.length x.1<=20/\QT (16777216:Nat) x.1)) ((e<=d/\d<=d/\(↑(64:Nat):Int)*d<=(281474976710656:Int)/\d<=(9223372036854775807:Int))/\∃(ok:PY->Prop),∃(φ:PY->Int),(∀(y:PY),tE.wf y.1/\tE.wf y.2.1/\True->ok y->True/\Cg fun z=>z.1=J8 y.1.1 y.2.1.1->false=false/\z.1=φ y)/\(Zf ok φ/\(Lt (List.replicate d.toNat E9) x.1).length<=(20:Nat))/\∀(s:Unit) (o:AC),True->tE.sl.wf o.1/\True->True->o.1.Perm (Lt (List.replicate d.toNat E9) x.1)/\Xk φ o.1->∃(I:A4c->Prop),∃(μ: _->Nat),I (e,e,o)/\∀(p:A4c),let m:Prop:=(p.2.1<(↑o.1.length:Int));let l:=(i64.wrap (p.1-i));let g:=p.1.toNat;let c:=(p.2.2.1.length:Int);let f:Prop:=(e<=i64.wrap (p.1-i)/\i64.wrap (p.1-i)<c);let b:=(List.getD p.2.2.1 p.2.1.toNat E9);let a:=(List.getD p.2.2.1 l.toNat E9);let n:=(decide (a.1=b.1));(Ty.int i64).wf p.1/\(Ty.int i64).wf p.2.1/\OW p.2.2.1/\True->I p->(iB (decide m) (∃(J:XW->Prop),((e<=p.2.1/\p.2.1<c)/\(decide (e<p.1)=true->e<=i64.wrap (p.1-i)/\i64.wrap (p.1-i)<c)/\(iB (K8 (decide (e<p.1)) n false) (f/\(E3 a.2/\E3 b.2)/\I6 fun r=>r.1=rc (rv a.2+rv b.2)->f/\J (p.1,List.set p.2.2.1 l.toNat (a.1,r.1),())) ((e<=p.1/\p.1<c)/\J (i64.wrap (p.1+i),List.set p.2.2.1 g b,()))))/\∀(q:XW),let h:=(q.1,i64.wrap (p.2.1+i),q.2.1,());(Ty.int i64).wf q.1/\OW q.2.1/\True->J q->I h/\μ h<μ p) ((e<=e/\e<=p.1/\p.1<=c)/\(Hf x.1->List.drop k (List.take g p.2.2.1)=x.1)/\(¬Hf x.1->Hf (List.drop k (List.take g p.2.2.1))/\(∀(j:Int),A4 (List.drop k (List.take g p.2.2.1)) j=A4 x.1 j)/\(List.drop k (List.take g p.2.2.1)).length<=(20:Nat)/\QT (16777216:Nat) (List.drop k (List.take g p.2.2.1)))))))
def SJ {a b:List D0} (h:a.Perm b) (j:Int):A4 a j=A4 b j:=by
 induction h with
 |nil=>rfl
 |cons e _ ih=>rw[A4,A4,ih]
 |swap e f l=>simp only[A4];rw[<-yF, <-yF,g4d (if f.1=j then rv f.2 else 0)]
 |trans _ _ h1 u=>rw[h1,u]
def SI (e:D0) (j:Int):A4 [e] j=if e.1=j then rv e.2 else 0:=by
 simp only[A4,rO]
structure KQ (o:List D0) (n i:Int) (c:List D0):Prop where
 n0:0<=n
 ni:n<=i
 il:i<=(o.length:Int)
 cl:c.length=o.length
 rest:∀j:Nat,i.toNat<=j->c.getD j E9=o.getD j E9
 ord:Hf (c.take n.toNat)
 cm:∀j,A4 (c.take n.toNat) j=A4 (o.take i.toNat) j
 le:∀e∈c.take n.toNat,∃y∈o.take i.toNat,y.1=e.1
 szs:∀e∈c.take n.toNat,sz (65537*i.toNat) e.2/\Jb e.2
def KQ.init (o:List D0):KQ o 0 0 o:=⟨qI _,qI _,qE _,rfl,fun _ _=>rfl,List.Pairwise.nil,fun _=>rfl,fun e u=>(by cases u),fun e u=>(by cases u)⟩
def EV {α:Type} {l:List α} {k:Nat} {x:α} (h:k<l.length):(l.set k x).take (k+1)=l.take k++ [x]:=by
 rw[rR,yV (rB k),tB h];rfl
def Vi {α:Type} {l:List α} {k:Nat} (d:α) (h:k<l.length):l.take (k+1)=l.take k++ [l.getD k d]:=by
 rw[rR,qS h,H2 _ _ h];rfl
variable {o c:List D0} {n i:Int}
def KQ.bound (h:KQ o n i c) (hs:o.Pairwise fun a b=>a.1<=b.1) (hi:i<(o.length:Int)):∀e∈c.take n.toNat,e.1<=(o.getD i.toNat E9).1:=fun e he=>by
 obtain⟨y,hy,u⟩:=h.le e he;obtain⟨k,hk,rfl⟩:=uT.1 hy;rw[qW]at hk;rw[g1h]at u;have hn:=h.n0;have a0:=h.ni;have:=uA.1 hs k i.toNat (by omega) (by omega) (by omega);rw[H2 _ _ (show i.toNat<o.length by omega), <-u];exact this
def KQ.push (h:KQ o n i c) (hs:o.Pairwise fun a b=>a.1<=b.1) (hz:QT 65536 o) (hl:DM o) (hi:i<(o.length:Int)) (a2:0<n->(c.getD (n-1).toNat E9).1≠(o.getD i.toNat E9).1):KQ o (n+1) (i+1) (c.set n.toNat (o.getD i.toNat E9)):=by
 have hn:=h.n0;have a8:=h.ni;have a3:=h.cl;have hb:=h.bound hs hi;have ht:(c.set n.toNat (o.getD i.toNat E9)).take (n+1).toNat=c.take n.toNat++ [o.getD i.toNat E9]:=by
  rw[show(n+1).toNat=n.toNat+1 from by omega];exact EV (by omega)
 have ho:o.take (i+1).toNat=o.take i.toNat++ [o.getD i.toNat E9]:=by
  rw[show(i+1).toNat=i.toNat+1 from by omega];exact Vi E9 (by omega)
 have a5:∀e∈c.take n.toNat,e.1<(o.getD i.toNat E9).1:=fun e u=>by
  have h1:=hb e u;have a6:0<n:=by
   rcases Int.lt_or_eq_of_le hn with h2|h2
   . exact h2
   . rw[<-h2]at u;cases u
  have hk:(n-1).toNat<c.length:=by omega
  have hsp:c.take n.toNat=c.take (n-1).toNat++ [c.getD (n-1).toNat E9]:=by
   rw[show n.toNat=(n-1).toNat+1 from by omega];exact Vi E9 hk
  have a4:=hb (c.getD (n-1).toNat E9) (by rw[hsp];simp);have a2:=a2 a6;have a0:=h.ord;rw[hsp]at u a0;rcases rA.1 u with u|u
  . have:=(tY.1 a0).2.2 e u _ (qR.2 rfl);omega
  . rw[qR]at u;subst u;omega
 have a1:o.getD i.toNat E9∈o:=C6 (by omega);refine⟨by omega,by omega,by omega,by rw[qN];exact a3,fun j hj=> ?_, ?_,fun j=> ?_,fun e u=> ?_,fun e u=> ?_⟩
 . rw[qF,tF (by omega), <-qF];exact h.rest j (by omega)
 . rw[ht];exact gC h.ord a5
 . rw[ht,ho,M7,M7,h.cm]
 . rw[ht]at u;rw[ho];rcases rA.1 u with u|u
   . obtain⟨y,hy,a7⟩:=h.le e u;exact⟨y,sM _ hy,a7⟩
   . rw[qR]at u;subst u;exact⟨_,tI _ (qR.2 rfl),rfl⟩
 . rw[ht]at u;rcases rA.1 u with u|u
   . exact⟨F9 (h.szs e u).1 (by omega),(h.szs e u).2⟩
   . rw[qR]at u;subst u;exact⟨F9 (hz _ a1) (by omega),hl _ a1⟩
def KQ.add (h:KQ o n i c) (hz:QT 65536 o) (hl:DM o) (hi:i<(o.length:Int)) (ab:0<n) (he:(c.getD (n-1).toNat E9).1=(o.getD i.toNat E9).1):sz (65537*i.toNat) (c.getD (n-1).toNat E9).2/\sz 65536 (o.getD i.toNat E9).2/\KQ o n (i+1) (c.set (n-1).toNat ((c.getD (n-1).toNat E9).1,rc (rv (c.getD (n-1).toNat E9).2+rv (o.getD i.toNat E9).2))):=by
 have ac:=h.ni;have a5:=h.cl;have hk:(n-1).toNat<c.length:=by omega
 have hsp:c.take n.toNat=c.take (n-1).toNat++ [c.getD (n-1).toNat E9]:=by
  rw[show n.toNat=(n-1).toNat+1 from by omega];exact Vi E9 hk
 have ho:o.take (i+1).toNat=o.take i.toNat++ [o.getD i.toNat E9]:=by
  rw[show(i+1).toNat=i.toNat+1 from by omega];exact Vi E9 (by omega)
 have a6:c.getD (n-1).toNat E9∈c.take n.toNat:=by rw[hsp];simp
 have a4:o.getD i.toNat E9∈o:=C6 (by omega);obtain⟨z1,z2⟩:=h.szs _ a6;have z3:=hz _ a4;have z4:=hl _ a4;refine⟨z1,z3, ?_⟩;have a1:=h.ord;have a2:=h.cm;have a3:=h.le;have a0:=h.szs;rw[hsp]at a1 a2 a3 a0;have a8:=h.rest;generalize aa:c.getD (n-1).toNat E9=la at*;generalize o.getD i.toNat E9=e0 at*;have ht:∀x:D0,(c.set (n-1).toNat x).take n.toNat=c.take (n-1).toNat++ [x]:=fun x=>by
  rw[show n.toNat=(n-1).toNat+1 from by omega];exact EV hk
 obtain⟨p1,p2,p3⟩:=tY.1 a1;have a7:qs (65537*(i+1).toNat) (rv la.2+rv e0.2):=by
  have h1:1<=i.toNat:=by omega
  exact N3 (UZ (Je z2 z1 (by omega)) (Je z4 z3 (by decide))) (by omega)
 refine⟨h.n0,by omega,by omega,by rw[qN];exact a5,fun j hj=> ?_, ?_,fun j=> ?_,fun e u=> ?_,fun e u=> ?_⟩
 . rw[qF,tF (by omega), <-qF];exact a8 j (by omega)
 . rw[ht];exact tY.2 ⟨p1,zI _ _,fun a ha b hb=>by rw[qR]at hb;subst hb;exact p3 a ha la (qR.2 rfl)⟩
 . rw[ht,ho,M7,M7, <-a2,M7,SI,SI,SI];simp only;rw[E5,he,yF];congr 1;split
   . rfl
   . rw[rO]
 . rw[ht]at u;rw[ho];rcases rA.1 u with h1|h1
   . obtain⟨y,hy,a9⟩:=a3 e (sM _ h1);exact⟨y,sM _ hy,a9⟩
   . rw[qR]at h1;subst h1;exact⟨e0,tI _ (qR.2 rfl),he.symm⟩
 . rw[ht]at u;rcases rA.1 u with h1|h1
   . exact⟨F9 (a0 e (sM _ h1)).1 (by omega),(a0 e (sM _ h1)).2⟩
   . rw[qR]at h1;subst h1;exact⟨JN a7,QI _⟩
def BJ (x:A2 Ai.args) (u:awf Ai.args x) (_:Ai.pre x):Pq x:=by
 simp only[Pq,Cg];exact⟨trivial,fun r _ h=>h⟩
def Cf (x:A2 F1.args) (hw:awf F1.args x) (hp:F1.pre x):R0 x:=by
 obtain⟨l,a,b,⟨ok,φ⟩,_⟩:=x;change List (Int×(Bool×List Int)×List Int)at l;change Int at a b;obtain⟨⟨a2,a3,a1⟩,a0,ab,bl,hl⟩:Zf ok φ/\0<=a/\a<=b/\b<=(l.length:Int)/\l.length<=100000:=hp;simp only[R0,iB];have hq:∀x y z:D0,¬φ (y,x,())<0->¬φ (z,y,())<0->¬φ (z,x,())<0:=fun x y z h1 h2=>a3 z y x h2 h1
 refine⟨fun p=>a+1<=p.1/\(p.1<=b\/p.1=a+1)/\p.2.1.Perm l/\p.2.1.take a.toNat=l.take a.toNat/\p.2.1.drop b.toNat=l.drop b.toNat/\(∀s t,a.toNat<=s->s<t->t<p.1.toNat->t<b.toNat->¬φ (p.2.1.getD t E9,p.2.1.getD s E9,())<0),fun p=>(b-p.1).toNat, ?_, ?_⟩
 . rw[wv (by omega)];refine⟨qI _, .inr rfl,wN _,rfl,rfl,fun s t h1 h2 h3 h4=> ?_⟩;change t<(a+1).toNat at h3;omega
 rintro⟨i,m,_⟩ _ ⟨h0,h1,h2,h3,h4,h5⟩;change Int at i;change List (Int×(Bool×List Int)×List Int)at m;simp only at h0 h1 h2 h3 h4 h5⊢;have a4:=h2.length_eq;refine⟨fun h=> ?_,fun h=> ?_⟩
 . have h:=qA h;refine⟨fun p=>a<=p.1/\p.1<=i/\p.2.1.Perm l/\p.2.1.take a.toNat=l.take a.toNat/\p.2.1.drop b.toNat=l.drop b.toNat/\A7o (fun x y=>¬φ (y,x,())<0) E9 p.2.1 a.toNat i.toNat p.1.toNat,fun p=>(p.1-a).toNat,⟨by show a<=i;omega,qI _,h2,h3,h4,mS fun s t q1 q2 q3=>h5 s t q1 q2 q3 (by omega)⟩, ?_⟩;rintro⟨j,y,_⟩ _ ⟨g0,g1,g2,g3,g4,g5⟩;change Int at j;change List (Int×(Bool×List Int)×List Int)at y;simp only at g0 g1 g2 g3 g4 g5⊢;have a5:=g2.length_eq;have ew:i64.wrap (j-1)=j-1:=wv (by omega);rw[ew];have et:(j-1).toNat=j.toNat-1:=by omega
   rw[et];refine⟨fun hj=>⟨by omega,by omega⟩,fun hj=> ?_,trivial,fun _=>a2 _ _,fun _=>⟨fun u=> ?_,fun u=> ?_⟩⟩
   . have hj:=qA hj;exact⟨by omega,by omega⟩
   . rw[J9]at u;simp only[qC,rY]at u;obtain⟨s1,s2⟩:=u;refine⟨⟨by omega,by omega⟩,⟨by omega,by omega⟩,⟨by omega,by omega⟩,⟨by omega,by rw[qN];omega⟩,⟨by omega,by omega, ?_, ?_, ?_, ?_⟩,by omega⟩
     . exact(oK (d:=E9) (l:=y) (j:=j.toNat) (by omega)).trans g2
     . exact(oL (d:=E9) (l:=y) (by omega)).trans g3
     . exact(oJ (d:=E9) (l:=y) (by omega)).trans g4
     . exact A2h g5 (by omega) (by omega) (by omega) (a1 _ _ s2)
   . rw[J9]at u;simp only[xD,rS]at u;rw[wv (by omega)];refine⟨⟨by omega, .inl (by omega),g2,g3,g4,fun s t q1 q2 q3 q4=> ?_⟩,by omega⟩;refine A7p g5 hq (by omega) (fun hh=> ?_) s t q1 q2 (by change t<(i+1).toNat at q3;omega);rcases u with u|u
     . omega
     . exact u
 . have h:=qB h;refine⟨trivial,h2,h3,h4, ?_⟩;unfold Xk;have:=UV (q:=fun x y=>¬φ (y,x,())<0) (d:=E9) (l:=m) (a:=a.toNat) (b:=b.toNat) (by omega) fun s t q1 q2 q3=>h5 s t q1 q2 (by omega) q3
   exact this
def Hc (x:A2 H0.args) (hw:awf H0.args x) (hp:H0.pre x):Aq x:=by
 obtain⟨l,n,⟨ok,φ⟩,_⟩:=x;change List (Int×(Bool×List Int)×List Int)at l;change Int at n;obtain⟨a0,hn,hl⟩:Zf ok φ/\n=(l.length:Int)/\l.length<=20:=hp;simp only[Aq,iB,eF];refine⟨fun p=>(p.1=0/\p.2.1=20/\p.2.2.1=l)\/(p.1=20/\p.2.1=40/\n=20/\p.2.2.1.Perm l/\Xk φ p.2.2.1),fun p=>(40-p.2.1).toNat, .inl ⟨rfl,rfl,rfl⟩, ?_⟩;rintro⟨a,b,m,_⟩ _ hI;change Int at a b;change List (Int×(Bool×List Int)×List Int)at m;simp only at hI⊢;refine⟨fun h=> ?_,fun h=> ?_⟩
 . have h:=qA h;obtain⟨rfl,rfl,rfl⟩:a=0/\b=20/\m=l:=by
    rcases hI with h1| ⟨_,h1,_⟩
    . exact h1
    . omega
   refine⟨trivial,trivial,⟨a0,qI _,by omega,by omega,by omega⟩, ?_⟩;rintro r ⟨o,_⟩ _ _ _ ⟨o1,o2,o3,u⟩;simp only at o1 o2 o3 u⊢;rw[wv (by omega)];refine⟨.inr ⟨by trivial,by trivial,by omega,o1, ?_⟩,by simp⟩;have a1:=o1.length_eq;change Xk φ ((o.drop 0).take (20-0))at u;rw[tX,qV (by omega)]at u;exact u
 . have h:=qB h;have hm:0<=a/\a<=n/\m.Perm l/\(a=0\/a=n/\Xk φ m):=by
    rcases hI with⟨rfl,rfl,rfl⟩ | ⟨rfl,rfl,a3,hp,hs⟩
    . exact⟨qI _,by omega,wN _, .inl rfl⟩
    . exact⟨by decide,by omega,hp, .inr ⟨by omega,hs⟩⟩
   obtain⟨m1,m2,m3,m4⟩:=hm;have a4:=m3.length_eq;refine⟨trivial,trivial,⟨a0,m1,m2,by omega,by omega⟩, ?_⟩;rintro r ⟨o,_⟩ _ _ _ ⟨o1,o2,o3,u⟩;simp only at o1 o2 o3 u⊢;have a1:=o1.length_eq;have a2:Xk φ o:=by
    rcases m4 with m4| ⟨m4,m5⟩
    . change Xk φ ((o.drop a.toNat).take (n.toNat-a.toNat))at u;rw[m4]at u;change Xk φ ((o.drop 0).take (n.toNat-0))at u;rw[tX,qV (by omega)]at u;exact u
    . rw[qV (by omega),qV (by omega)]at o2;rw[o2];exact m5
   refine⟨fun p=>p.1=20/\p.2.1.Perm l/\Xk φ p.2.1,fun _=>0,⟨rfl,o1.trans m3,a2⟩, ?_⟩;rintro⟨k,z,_⟩ _ ⟨k1,k2,k3⟩;simp only at k1 k2 k3⊢;subst k1;refine⟨fun hk=> ?_,fun _=>⟨trivial,k2,k3⟩⟩;have hk:=qA hk;omega
def Bw (x:A2 E6.args) (hw:awf E6.args x) (hp:E6.pre x):P9 x:=by
 obtain⟨l,⟨ok,φ⟩,_⟩:=x;obtain⟨u,hl⟩:Zf ok φ/\l.length<=20:=hp;simp only[P9];refine⟨trivial,trivial,⟨u,trivial,hl⟩, ?_⟩;rintro r ⟨o,_⟩ _ _ _ h;exact⟨trivial,h⟩
def jK:Zf (fun _=>True) (fun z=>J8 z.1.1 z.2.1.1):=by
 refine⟨fun _ _=>trivial,fun a b c=> ?_,fun a b=> ?_⟩
 . simp only[J8];split<;>split<;>split<;>(try split)<;>(try split)<;>(try split)<;>omega
 . simp only[J8];split<;>split<;>(try split)<;>(try split)<;>omega
def A5x {a b:Int} :¬J8 a b<0↔b<=a:=by
 unfold J8;split
 . omega
 . split<;>omega
def BH (x:A2 Ah.args) (hw:awf Ah.args x) (hp:Ah.pre x):Pp x:=by
 obtain⟨l,_⟩:=x;have a8:DM l:=IQ hw.1.2;change List D0 at l;have hp:YQ l:=hp;simp only[Pp,iB,Cg,I6,Vy];refine⟨trivial, ?_⟩;rintro⟨r,_⟩ _ hr;simp only at hr⊢;subst hr;refine⟨fun h=>⟨fun _=>by trivial,fun h2=>absurd (qA h) h2⟩,fun h=> ?_⟩;have a1:=qB h;obtain⟨hl,hz⟩:=hp.resolve_left a1;refine⟨⟨by omega,by omega,by omega,by omega⟩,fun _=>True,fun z=>J8 z.1.1 z.2.1.1, ?_,⟨jK, ?_⟩, ?_⟩
 . rintro⟨a,b,_⟩ _ _;refine⟨trivial, ?_⟩;rintro⟨z,_⟩ _ hz;exact⟨(by trivial),hz⟩
 . rw[LG];exact hl
 rintro r ⟨o,_⟩ _ _ _ ⟨o1,o2⟩;change List D0 at o;simp only[LG]at o1 o2⊢;have ad:=o1.length_eq;have ab:o.Pairwise fun a b=>a.1<=b.1:=o2.imp fun {a b} hh=>A5x.1 hh
 have a3:QT 65536 o:=fun e he=>hz e (o1.mem_iff.1 he)
 have a0:DM o:=fun e he=>a8 e (o1.mem_iff.1 he)
 refine⟨fun p=>KQ o p.1 p.2.1 p.2.2.1,fun p=>((o.length:Int)-p.2.1).toNat,KQ.init o, ?_⟩;rintro⟨n,i,c,_⟩ _ hI;change Int at n i;change List D0 at c;simp only at hI⊢;have h0:=hI.n0;have h1:=hI.ni;have h2:=hI.il;have a6:=hI.cl;have u:(c.length:Int)=(o.length:Int):=by rw[a6]
 refine⟨fun hi=> ?_,fun hi=> ?_⟩
 . have hi:=qA hi;have a5:c.getD i.toNat E9=o.getD i.toNat E9:=hI.rest _ (rB _);have a7:0<=i/\i<(c.length:Int):=⟨by omega,by rw[u];exact hi⟩;have a9:i64.wrap (n-1)=n-1:=wv (by omega);rw[a9,a5];refine⟨fun p=>KQ o p.1 (i+1) p.2.1,⟨a7,fun hh=> ?_,fun hh=> ?_,fun hh=> ?_⟩, ?_⟩
   . have hh:=qA hh;exact⟨by omega,by rw[u];omega⟩
   . rw[J9]at hh;simp only[qC,rY]at hh;obtain⟨g1,g2⟩:=hh;have a2:0<=n-1/\n-1<(c.length:Int):=⟨by omega,by rw[u];omega⟩;obtain⟨z1,z2,z3⟩:=hI.add a3 a0 hi g1 g2;refine⟨a2,⟨U7 (F9 z1 (show 65537*i.toNat<=2199023255552 by omega)) (rB _),U7 z2 (by decide)⟩, ?_⟩;rintro⟨q,_⟩ _ hq;change D3 at q;simp only at hq⊢;rw[hq];exact⟨a2,z3⟩
   . have aa:0<n->(c.getD (n-1).toNat E9).1≠(o.getD i.toNat E9).1:=fun hn he=>by
      rw[J9,rK hn,rK he]at hh;cases hh
     rw[wv (by omega)];exact⟨⟨by omega,by rw[u];omega⟩,hI.push ab a3 a0 hi aa⟩
   . rintro⟨n',c',_⟩ _ a4;simp only;rw[wv (by omega)];exact⟨a4,by omega⟩
 . have hi:=qB hi;have ac:i=(o.length:Int):=by omega
   refine⟨⟨qI _,h0,by rw[u];omega⟩,fun h=>absurd h a1,fun _=> ?_⟩;have e1:List.drop (Int.toNat 0) (List.take n.toNat c)=c.take n.toNat:=rfl;rw[e1];refine⟨hI.ord,fun j=> ?_, ?_,fun e he=>F9 (hI.szs e he).1 (by omega)⟩
   . rw[hI.cm,E1 (by omega)];exact SJ o1 j
   . rw[qW];omega
def IC:An:= {loop:= [(5,⟨[1,6,14,15],[],[(16,false,vI)],[],[(0, .row tE 106)]⟩)]}
def Po:A2 S7.args->Prop:=fun(x:List EE×List Int×Unit)=>let h:=(0:Int);let g:=(x.2.1.length:Int);let d:=(↑x.2.1.length:Int);let e:Prop:=(∀(j:Int),A4 x.1 j≠(0:Rat)->h<=j/\j<d);List.length x.2.1<=100000/\Vy fun r=>r.1=decide (L5 x.2.1 g)->(iB ((!r.1)) (L5 x.2.1 d->e->PP (fun(i:Int)=>if h<=i/\i<d then A4 x.1 (↑(List.idxOf i x.2.1):Int)else(0:Rat)) []/\false=true) (Oj x.1/\eF fun n=>PP (A4 x.1) n.1->∃(I:XW->Prop),∃(μ: _->Nat),I (h,n)/\∀(p:XW),let l:Prop:=(p.1<(n.1.length:Int));let k:Prop:=(h<=p.1/\p.1<(p.2.1.length:Int));let c:=(List.getD p.2.1 p.1.toNat E9);let m:=(decide (g<=c.1));let f:=(i64.wrap (p.1+1),List.set p.2.1 p.1.toNat (gx h x.2.1 c.1,c.2),());(Ty.int i64).wf p.1/\OW p.2.1/\True->I p->(iB (decide l) (k/\(iB (K8 (decide (c.1<h)) true m) (L5 x.2.1 d->e->PP (fun(i:Int)=>if h<=i/\i<d then A4 x.1 (↑(List.idxOf i x.2.1):Int)else(0:Rat)) []/\false=true) ((h<=c.1/\c.1<g)/\k/\I f/\μ f<μ p))) (List.length p.2.1<=100000/\∀(l':List EE),tE.sl.wf l'->l'.Perm p.2.1->List.Pairwise (fun(a b:Int×(Bool×List Int)×List Int)=>¬J8 b.1 a.1<h) l'->L5 x.2.1 d->e->PP (fun(i:Int)=>if h<=i/\i<d then A4 x.1 (↑(List.idxOf i x.2.1):Int)else(0:Rat)) l'/\true=true))))
abbrev R1:=List (Int×Bool)
def Q3 (es:R1):List Int:=es.map fun e=>e.1
def ZV (k:Int) (v:Bool) (es:R1):(Q3 es).Nodup->(Q3 (Fc (.int .i64) k v es)).Nodup/\∀i,i∈Q3 (Fc (.int .i64) k v es)↔i=k\/i∈Q3 es:=by
 intro h;unfold Q3 at*;rw[LX];by_cases u:k∈es.map fun e=>e.1
 . rw[qT u];exact⟨h,fun i=>⟨.inr,fun hh=>hh.elim (fun e=>e▸u) id⟩⟩
 . rw[qL u];refine⟨sX.2 ⟨h,by simp,fun a ha b hb a0=> ?_⟩,fun i=> ?_⟩
   . rw[qR]at hb;exact u (hb▸a0▸ha)
   . rw[rA,qR];exact Or.comm
def ZU (k:Int):∀(es:R1),(Q3 es).Nodup->(Q3 (Px (.int .i64) k es)).Nodup/\∀i,i∈Q3 (Px (.int .i64) k es)↔i≠k/\i∈Q3 es
 | [],h=>⟨h,fun i=>⟨fun hh=>(by cases hh),fun hh=>(by cases hh.2)⟩⟩
 |x::r,h=>by
  have hn:=sH.1 (show(x.1::Q3 r).Nodup from h);have e:Px (.int .i64) k (x::r)=if k=x.1 then r else x::Px (.int .i64) k r:=by
   rw[Px,Kv];by_cases u:k=x.1
   . rw[qT u,rK u];rfl
   . rw[qL u,rJ u];rfl
  rw[e];by_cases u:k=x.1
  . rw[qT u];refine⟨hn.2,fun i=>⟨fun hi=>⟨fun e=>hn.1 (by rw[<-u, <-e];exact hi),qJ _ hi⟩,fun hi=> ?_⟩⟩;exact(qG.1 (show i∈x.1::Q3 r from hi.2)).resolve_left fun e=>hi.1 (by rw[e,u])
  . rw[qL u];obtain⟨g1,g2⟩:=ZU k r hn.2;refine⟨sH.2 ⟨fun hm=>hn.1 ((g2 _).1 hm).2,g1⟩,fun i=> ?_⟩;constructor
    . intro hi;rcases qG.1 (show i∈x.1::Q3 (Px (.int .i64) k r)from hi)with rfl|hi
      . exact⟨fun e=>u e.symm,rC⟩
      . exact⟨((g2 i).1 hi).1,qJ _ ((g2 i).1 hi).2⟩
    . rintro⟨h1,h2⟩;rcases qG.1 (show i∈x.1::Q3 r from h2)with rfl|h2
      . exact rC
      . exact qJ _ ((g2 i).2 ⟨h1,h2⟩)
def X8 (rows:List (List D0)) (i j:Nat):Rat:=A4 (rows.getD i []) (j:Int)
def B4x (n k:Nat) (p:Nat->Nat) (R:Nat->Nat->Rat) (j:Nat) (es:R1):Prop:=(Q3 es).Nodup/\∀i:Int,i∈Q3 es↔0<=i/\i<(n:Int)/\(∀a,a<k->i.toNat≠p a)/\R i.toNat j≠0
structure EI (n k:Nat) (S:Nat->Nat) (A:Nat->Nat->Rat) (rest P Q place:List Int) (rows lower:List (List D0)) (cols:List R1):Prop where
 elim:HN n k A (ix P) (ix Q) (X8 rows) (X8 lower)
 lP:P.length=n
 lQ:Q.length=n
 lpl:place.length=n
 lrows:rows.length=n
 llow:lower.length=n
 lcols:cols.length=n
 P0:∀a,a<k->P.getD a 0=(ix P a:Int)
 Q0:∀a,a<k->Q.getD a 0=(ix Q a:Int)
 pl:∀a,a<k->place.getD (ix Q a) 0=(a:Int)
 rnd:rest.Nodup
 rmem:∀c:Int,c∈rest↔0<=c/\c<(n:Int)/\∀a,a<k->c.toNat≠ix Q a
 can:∀i,i<n->Y5 (rows.getD i [])/\(∀e∈rows.getD i [],0<=e.1/\e.1<(n:Int))/\∀j,qs (S k) (A4 (rows.getD i []) j)
 lcan:∀i,i<n->Y5 (lower.getD i [])/\(∀e∈lower.getD i [],0<=e.1/\e.1<(k:Int))
 lq:∀i,i<n->∀j,qs (S k) (A4 (lower.getD i []) j)
 fin:∀a,a<k->∀j,qs (S a) (A4 (rows.getD (ix P a) []) j)
 col:∀j:Int,j∈rest->B4x n k (ix P) (X8 rows) j.toNat (cols.getD j.toNat [])
def Bp {P:List Int} {k m:Nat} {v:Int} (h:m≠k):ix (P.set k v) m=ix P m:=by
 unfold ix;rw[qF,tF (Ne.symm h), <-qF]
def D5 {α:Type} {l:List α} {d v:α} {k m:Nat} (h:m≠k):(l.set k v).getD m d=l.getD m d:=by
 rw[qF,tF (Ne.symm h), <-qF]
def B6 {α:Type} {l:List α} {d v:α} {k:Nat} (h:k<l.length):(l.set k v).getD k d=v:=by
 rw[qF,tB h];rfl
def Pw {P:List Int} {k:Nat} {v:Int} (h:k<P.length):ix (P.set k v) k=v.toNat:=by
 unfold ix;rw[B6 h]
variable {n k:Nat} {S:Nat->Nat} {A:Nat->Nat->Rat} {rest P Q place:List Int} {rows lower:List (List D0)} {cols:List R1}
def Xa (k:Nat) (p:Nat->Nat) (R:Nat->Nat->Rat) (r c i:Nat):Rat:=if i=r\/∃a,a<k/\i=p a then 0 else R i c/R r c
def A6q {p:Nat->Nat} {R:Nat->Nat->Rat} {r c:Nat} :Xa k p R r c r=0:=qT (.inl rfl)
def A6p {p:Nat->Nat} {R:Nat->Nat->Rat} {r c a:Nat} (h:a<k):Xa k p R r c (p a)=0:=qT (.inr ⟨a,h,rfl⟩)
def SW {p:Nat->Nat} {R:Nat->Nat->Rat} {r c i:Nat} (h1:i≠r) (u:∀a,a<k->i≠p a):Xa k p R r c i=R i c/R r c:=qL fun hh=>hh.elim h1 fun⟨a,ha,e⟩=>u a ha e
def EI.step (h:EI n k S A rest P Q place rows lower cols) {r c:Int} (hc:c∈rest) (hr:r∈Q3 (cols.getD c.toNat [])) {a3:List Int} {u a1:List (List D0)} {a4:List R1}
 (r1:a3.Nodup) (r2:∀x,x∈a3↔x∈rest/\x≠c) (l1:u.length=n) (l2:a1.length=n) (l3:a4.length=n)
 (w1:∀i,i<n->Y5 (u.getD i [])/\(∀e∈u.getD i [],0<=e.1/\e.1<(n:Int))/\(∀j,qs (S (k+1)) (A4 (u.getD i []) j))/\∀j,A4 (u.getD i []) j=A4 (rows.getD i []) j-Xa k (ix P) (X8 rows) r.toNat c.toNat i*A4 (rows.getD r.toNat []) j)
 (w2:∀i,i<n->a1.getD i []=if Xa k (ix P) (X8 rows) r.toNat c.toNat i=0 then lower.getD i []else lower.getD i []++ [((k:Int),rc (Xa k (ix P) (X8 rows) r.toNat c.toNat i))])
 (a8:S k<=S (k+1)) (w4:∀i,i<n->qs (S (k+1)) (Xa k (ix P) (X8 rows) r.toNat c.toNat i))
 (w3:∀j:Int,j∈a3->B4x n (k+1) (ix (P.set k r)) (X8 u) j.toNat (a4.getD j.toNat [])):
 EI n (k+1) S A a3 (P.set k r) (Q.set k c) (place.set c.toNat k) u a1 a4:=by
 obtain⟨c0,c1,c2⟩:=(h.rmem c).1 hc;obtain⟨a9,hk⟩:=h.col c hc;obtain⟨r0,r3,r4,r5⟩:=(hk r).1 hr;have a2:k<n:=by
  rcases sF k n with hh|hh
  . exact hh
  . obtain⟨a,ha,e⟩:=Ga (n:=n) (q:=ix Q) (fun a ha=>h.elim.qlt a (by omega)) (fun a b ha hb=>h.elim.qinj a b (by omega) (by omega)) (show c.toNat<n by omega);exact absurd e.symm (c2 a (by omega))
 have nk:∀m,m<k->m≠k:=fun m hm=>tU hm
 have a5:∀i,i<n->∀m:Nat,X8 a1 i m=X8 lower i m+if m=k then Xa k (ix P) (X8 rows) r.toNat c.toNat i else 0:=fun i hi m=>by
  show A4 (a1.getD i []) (m:Int)=A4 (lower.getD i []) (m:Int)+ _;rw[w2 i hi];by_cases hf:Xa k (ix P) (X8 rows) r.toNat c.toNat i=0
  . rw[qT hf,hf];split<;>rw[rO]
  . rw[qL hf,Fg];congr 1;by_cases hm:m=k
    . subst hm;rw[qT rfl,qT rfl]
    . rw[qL hm,qL (by omega)]
 have a6:∀i,i<n->X8 lower i k=0:=fun i hi=>D2 fun e he a7=>by
  have:=(h.lcan i hi).2 e he;omega
 refine⟨h.elim.step (r:=r.toNat) (c:=c.toNat) (fac:=Xa k (ix P) (X8 rows) r.toNat c.toNat) a2 (by omega) (by omega) r4 c2 r5 (fun m hm=>Bp (nk m hm)) (Pw (by rw[h.lP];exact a2)) (fun m hm=>Bp (nk m hm)) (Pw (by rw[h.lQ];exact a2)) (fun i _ h1 h2=>SW h1 h2) A6q (fun a ha=>A6p ha) (fun i j hi _=>(w1 i hi).2.2.2 j) (fun i m hi hm=> ?_) (fun i hi=> ?_), ?_, ?_, ?_,l1,l2,l3,fun a ha=> ?_,fun a ha=> ?_,fun a ha=> ?_,r1,fun x=> ?_,fun i hi=>⟨(w1 i hi).1,(w1 i hi).2.1,(w1 i hi).2.2.1⟩,fun i hi=> ?_,fun i hi j=> ?_,fun a ha j=> ?_,w3⟩
 . rw[a5 i hi,qL (nk m hm),rO]
 . rw[a5 i hi,qT rfl,a6 i hi,tH]
 . rw[qN];exact h.lP
 . rw[qN];exact h.lQ
 . rw[qN];exact h.lpl
 . by_cases a0:a=k
   . subst a0;rw[B6 (by rw[h.lP];exact a2),Pw (by rw[h.lP];exact a2)];omega
   . rw[D5 a0,Bp a0];exact h.P0 a (by omega)
 . by_cases a0:a=k
   . subst a0;rw[B6 (by rw[h.lQ];exact a2),Pw (by rw[h.lQ];exact a2)];omega
   . rw[D5 a0,Bp a0];exact h.Q0 a (by omega)
 . by_cases a0:a=k
   . subst a0;rw[Pw (by rw[h.lQ];exact a2),B6 (by rw[h.lpl];omega)]
   . rw[Bp a0,D5 (fun e=>c2 a (by omega) e.symm)];exact h.pl a (by omega)
 . rw[r2,h.rmem];constructor
   . rintro⟨⟨x0,x1,x2⟩,x3⟩;refine⟨x0,x1,fun a ha=> ?_⟩;by_cases a0:a=k
     . subst a0;rw[Pw (by rw[h.lQ];exact a2)];omega
     . rw[Bp a0];exact x2 a (by omega)
   . rintro⟨x0,x1,x2⟩;refine⟨⟨x0,x1,fun a ha=>by have:=x2 a (by omega);rwa[Bp (nk a ha)]at this⟩,fun e=> ?_⟩;have:=x2 k (rV _);rw[Pw (by rw[h.lQ];exact a2),e]at this;exact this rfl
 . rw[w2 i hi];obtain⟨g1,g2⟩:=h.lcan i hi;split
   . exact⟨g1,fun e he=>by have:=g2 e he;omega⟩
   . rename_i hf;refine⟨Lh g1 hf fun e he=>(g2 e he).2,fun e he=> ?_⟩;rcases rA.1 he with he|he
     . have:=g2 e he;omega
     . rw[qR]at he;subst he;simp only;omega
 . rw[w2 i hi];have hq:=N3 (h.lq i hi j) a8;split
   . exact hq
   . rw[Fg];by_cases hj:(k:Int)=j
     . rw[qT hj,D2 fun e he a7=>by have:=(h.lcan i hi).2 e he;omega,tH];exact w4 i hi
     . rw[qL hj,rO];exact hq
 . have he:∀i,i<n->Xa k (ix P) (X8 rows) r.toNat c.toNat i=0->A4 (u.getD i []) j=A4 (rows.getD i []) j:=fun i hi h0=>by
    rw[(w1 i hi).2.2.2 j,h0,tL,tK,wM,rO]
   by_cases a0:a=k
   . subst a0;rw[Pw (by rw[h.lP];exact a2),he _ (by omega) A6q];exact(h.can r.toNat (by omega)).2.2 j
   . rw[Bp a0,he _ (h.elim.plt a (by omega)) (A6p (by omega))];exact h.fin a (by omega) j
def EI.stuck (h:EI n k S A rest P Q place rows lower cols) {c:Int} (u:c∈rest) (he:cols.getD c.toNat []= []):¬nonsing n A:=by
 obtain⟨c0,c1,c2⟩:=(h.rmem c).1 u;obtain⟨_,hk⟩:=h.col c u;refine h.elim.stuck (c:=c.toNat) (by omega) c2 fun i hi ha=>qU fun hz=> ?_
 have:=(hk (i:Int)).2 ⟨qE _,by omega,ha,hz⟩;rw[he]at this;cases this
variable {n:Nat} {S:Nat->Nat} {A:Nat->Nat->Rat} {rest P Q place:List Int} {rows lower:List (List D0)} {cols:List R1}
def nW {P:List Int} (hl:P.length=n) (h0:∀a,a<n->P.getD a 0=(ix P a:Int)) (a1:∀a,a<n->ix P a<n) (hi:∀a b,a<n->b<n->ix P a=ix P b->a=b):L5 P (n:Int):=by
 have hg:∀a (u:a<P.length),P[a]=(ix P a:Int):=fun a u=>by
  rw[<-h0 a (by omega),qF,qS u];rfl
 refine⟨by rw[hl],fun i hm=> ?_,uA.2 fun i j a0 hj a2 e=> ?_⟩
 . obtain⟨a,u,rfl⟩:=uT.1 hm;have:=a1 a (by omega);rw[hg a u];omega
 . rw[hg i a0,hg j hj]at e;have:=hi i j (by omega) (by omega) (by omega);omega
def EI.places (h:EI n n S A rest P Q place rows lower cols):L5 place (n:Int)/\∀b,b<n->List.idxOf (b:Int) place=ix Q b:=by
 have u:∀j,j<n->∃b,b<n/\ix Q b=j/\place.getD j 0=(b:Int):=fun j hj=>by
  obtain⟨b,hb,e⟩:=Ga h.elim.qlt h.elim.qinj hj;exact⟨b,hb,e,by rw[<-e];exact h.pl b hb⟩
 have hg:∀j (hj:j<place.length),place[j]=place.getD j 0:=fun j hj=>by
  rw[qF,qS hj];rfl
 refine⟨nW h.lpl (fun j hj=> ?_) (fun j hj=> ?_) (fun i j hi hj e=> ?_),fun b hb=> ?_⟩
 . obtain⟨b,hb,_,e⟩:=u j hj;unfold ix;rw[e];omega
 . obtain⟨b,hb,_,e⟩:=u j hj;unfold ix;rw[e];omega
 . obtain⟨b,hb,e1,e2⟩:=u i hi;obtain⟨b',a1,e3,e4⟩:=u j hj;unfold ix at e;rw[e2,e4]at e;have:b=b':=by omega
   rw[<-e1, <-e3,this]
 . have hm:(b:Int)∈place:=by
    have h1:=h.pl b hb;have a0:ix Q b<place.length:=by rw[h.lpl];exact h.elim.qlt b hb
    rw[<-h1, <-hg _ a0];exact wY a0
   have h1:=yK hm;have h2:place[List.idxOf (b:Int) place]=(b:Int):=g0v h1;obtain⟨b',a1,e1,e2⟩:=u (List.idxOf (b:Int) place) (by rw[<-h.lpl];exact h1);rw[hg _ h1,e2]at h2;have:b'=b:=by omega
   rw[<-e1,this]
def EI.done (h:EI n n S A rest P Q place rows lower cols) (hn:n<=16384) {L U:List (List D0)} (lL:L.length=n) (lU:U.length=n)
 (hL:∀a,a<n->L.getD a []=lower.getD (ix P a) []++ [((a:Int),rc 1)])
 (hU:∀a,a<n->PP (fun i=>if 0<=i/\i<(n:Int)then A4 (rows.getD (ix P a) []) ((List.idxOf i place:Nat):Int)else 0) (U.getD a [])):
 Cl (P,Q,((n:Int),(n:Int),L),((n:Int),(n:Int),U)) (n:Int)/\∀i j,i<n->j<n->luM (P,Q,((n:Int),(n:Int),L),((n:Int),(n:Int),U)) n i j=A (ix P i) (ix Q j):=by
 obtain⟨_,a2⟩:=h.places;have a0:∀a m,a<n->el ((n:Int),(n:Int),L) a m=X8 lower (ix P a) m+if m=a then 1 else 0:=fun a m ha=>by
  show A4 (L.getD a []) (m:Int)=A4 (lower.getD (ix P a) []) (m:Int)+ _;rw[hL a ha,Fg];congr 1;by_cases hm:m=a
  . rw[qT hm,qT (by omega)]
  . rw[qL hm,qL (by omega)]
 have a1:∀a b,a<n->b<n->el ((n:Int),(n:Int),U) a b=X8 rows (ix P a) (ix Q b):=fun a b ha hb=>by
  show A4 (U.getD a []) (b:Int)=A4 (rows.getD (ix P a) []) _;rw[(hU a ha).2, <-a2 b hb];exact qT ⟨qE _,by omega⟩
 have pl:=h.elim.plt;have vL:∀a,a<n->L6 (L.getD a []) (n:Int):=fun a ha=>by
  rw[hL a ha];obtain⟨g1,g2⟩:=h.lcan _ (pl a ha);have a3:∀e∈lower.getD (ix P a) [],e.1<(a:Int):=fun e u=>by
   refine qU fun a4=>(g1.2 e u).1 ?_
   have h0:=g2 e u;have:=h.elim.low a e.1.toNat ha (by omega) (by omega);unfold X8 at this;rw[show((e.1.toNat:Nat):Int)=e.1 from by omega,Q4 g1.1 u]at this;exact this
  have hc:=Lh (q:=1) g1 (by decide) a3;refine⟨hc.1,fun e u=>⟨?_, ?_,(hc.2 e u).1⟩⟩
  . rcases rA.1 u with u|u
    . exact(g2 e u).1
    . rw[qR]at u;subst u;exact qE _
  . rcases rA.1 u with u|u
    . exact(g2 e u).2
    . rw[qR]at u;subst u;simp only;omega
 have vU:∀a,a<n->L6 (U.getD a []) (n:Int):=fun a ha=>by
  obtain⟨g1,g2⟩:=hU a ha;have hr:∀e∈U.getD a [],0<=e.1/\e.1<(n:Int):=fun e u=>qU fun hh=>(g1.2 e u).1 (by rw[<-Q4 g1.1 u,g2];exact qL hh)
  exact⟨g1.1,fun e u=>⟨(hr e u).1,(hr e u).2,(g1.2 e u).1⟩⟩
 refine⟨⟨nW h.lP h.P0 h.elim.plt h.elim.pinj,nW h.lQ h.Q0 h.elim.qlt h.elim.qinj,⟨rfl,rfl,qE _,by show(n:Int)<=16384;omega,qE _,by show(n:Int)<=16384;omega,by show(L.length:Int)=(n:Int);omega,fun v hv=> ?_⟩,⟨rfl,rfl,qE _,by show(n:Int)<=16384;omega,qE _,by show(n:Int)<=16384;omega,by show(U.length:Int)=(n:Int);omega,fun v hv=> ?_⟩,fun i j hi hj=> ?_⟩,fun i j hi hj=> ?_⟩
 . obtain⟨a,ha,rfl⟩:=Bc [] hv;exact vL a (by rw[<-lL];exact ha)
 . obtain⟨a,ha,rfl⟩:=Bc [] hv;exact vU a (by rw[<-lU];exact ha)
 . have hi:i<n:=by omega
   have hj:j<n:=by omega
   refine⟨fun a5=> ?_, ?_,fun a6=> ?_, ?_⟩
   . show el ((n:Int),(n:Int),L) i j=0;rw[a0 i j hi,h.elim.low i j hi hj (by omega),qL (by omega),rO]
   . show el ((n:Int),(n:Int),L) i i=1;rw[a0 i i hi,h.elim.low i i hi hi (rB _),qT rfl,tH]
   . show el ((n:Int),(n:Int),U) i j=0;rw[a1 i j hi hj];exact h.elim.zero j (ix P i) hj (pl i hi) fun a ha e=>by have:=h.elim.pinj i a hi (by omega) e;omega
   . show el ((n:Int),(n:Int),U) i i≠0;rw[a1 i i hi hi];exact h.elim.piv i hi
 . rw[h.elim.prod hi hj];unfold luM;refine B9 fun m hm=> ?_
   show el ((n:Int),(n:Int),L) i m*el ((n:Int),(n:Int),U) m j= _;rw[a0 i m hi,a1 m j hm hj]
def EI.sizes (h:EI n n S A rest P Q place rows lower cols) (h1:∀a,1<=S a) {L U:List (List D0)}
 (hL:∀a,a<n->L.getD a []=lower.getD (ix P a) []++ [((a:Int),rc 1)])
 (hU:∀a,a<n->PP (fun i=>if 0<=i/\i<(n:Int)then A4 (rows.getD (ix P a) []) ((List.idxOf i place:Nat):Int)else 0) (U.getD a [])) {R C:Int} {i:Nat} (hi:i<n) (j:Nat):qs (S n) (el (R,C,L) i j)/\qs (S i) (el (R,C,U) i j):=by
 constructor
 . show qs (S n) (A4 (L.getD i []) (j:Int));rw[hL i hi,Fg];by_cases hj:i=j
   . subst hj;have u:A4 (lower.getD (ix P i) []) (i:Int)=0:=h.elim.low i i hi hi (rB _);rw[qT rfl,u,tH];exact eE (h1 n)
   . rw[qL (by omega),rO];exact h.lq _ (h.elim.plt i hi) _
 . show qs (S i) (A4 (U.getD i []) (j:Int));rw[(hU i hi).2];dsimp only;split
   . exact h.fin i hi _
   . exact R2 (h1 i)
def EI.cans (h:EI n n S A rest P Q place rows lower cols) {L U:List (List D0)} (lL:L.length=n) (lU:U.length=n)
 (hL:∀a,a<n->L.getD a []=lower.getD (ix P a) []++ [((a:Int),rc 1)])
 (hU:∀a,a<n->PP (fun i=>if 0<=i/\i<(n:Int)then A4 (rows.getD (ix P a) []) ((List.idxOf i place:Nat):Int)else 0) (U.getD a [])):(∀v∈L,Y5 v)/\∀v∈U,Y5 v:=by
 constructor
 . intro v hv;obtain⟨a,u,rfl⟩:=Bc [] hv;have u:a<n:=by rw[<-lL];exact u
   rw[hL a u];obtain⟨g1,g2⟩:=h.lcan _ (h.elim.plt a u);refine Lh g1 (by decide) fun e he=>qU fun a0=>(g1.2 e he).1 ?_
   have h0:=g2 e he;have:=h.elim.low a e.1.toNat u (by omega) (by omega);unfold X8 at this;rw[show((e.1.toNat:Nat):Int)=e.1 from by omega,Q4 g1.1 he]at this;exact this
 . intro v hv;obtain⟨a,u,rfl⟩:=Bc [] hv;exact(hU a (by rw[<-lU];exact u)).1
variable {n:Nat} {S:Nat->Nat} {rest P Q place:List Int} {rows lower:List (List D0)} {cols:List R1}
def cH (t:Int) (F:Nat->Int->Rat) (v:List D0) (j:Int) (es:R1):Prop:=(Q3 es).Nodup/\∀i:Int,i∈Q3 es↔(0<=i/\i<t/\F i.toNat j≠0)\/(i=t/\∃e∈v,e.1=j)
def A6d {t j:Int} {F:Nat->Int->Rat} {v:List D0} {es:R1} {b:Bool} {e:D0} (h:cH t F v j es) (he:e.1=j):cH t F (v++ [e]) j (Fc (.int .i64) t b es):=by
 obtain⟨g1,g2⟩:=ZV t b es h.1;refine⟨g1,fun i=> ?_⟩;rw[g2,h.2];constructor
 . rintro(hh|hh| ⟨hh,x,hx,u⟩)
   . exact .inr ⟨hh,e,by simp,he⟩
   . exact .inl hh
   . exact .inr ⟨hh,x,sM _ hx,u⟩
 . rintro(hh| ⟨hh,x,hx,u⟩)
   . exact .inr (.inl hh)
   . exact .inl hh
def A1w {t j:Int} {F:Nat->Int->Rat} {v:List D0} {es:R1} {e:D0} (h:cH t F v j es) (u:e.1≠j):cH t F (v++ [e]) j es:=by
 refine⟨h.1,fun i=> ?_⟩;rw[h.2];refine g3g yI (g4t yI ⟨fun⟨x,hx,hxj⟩=>⟨x,sM _ hx,hxj⟩,fun⟨x,hx,hxj⟩=> ?_⟩);rcases rA.1 hx with hx|hx
 . exact⟨x,hx,hxj⟩
 . rw[qR]at hx;subst hx;exact absurd hxj u
def A1v {t j:Int} {F:Nat->Int->Rat} {v:List D0} {es:R1} {m:Int} (h:cH t F v j es) (ht:0<=t) (hv:L6 v m) (hF:F t.toNat=A4 v):cH (t+1) F [] j es:=by
 refine⟨h.1,fun i=> ?_⟩;rw[h.2];constructor
 . rintro(⟨h0,h1,u⟩ | ⟨rfl,e,he,rfl⟩)
   . exact .inl ⟨h0,by omega,u⟩
   . refine .inl ⟨ht,by omega, ?_⟩;rw[hF,Q4 hv.1 he];exact(hv.2 e he).2.2
 . rintro(⟨h0,h1,u⟩ | ⟨_,e,he,_⟩)
   . by_cases hi:i=t
     . subst hi;rw[hF]at u;exact .inr ⟨rfl,BT u⟩
     . exact .inl ⟨h0,by omega,u⟩
   . cases he
def EI.start {F:Nat->Int->Rat} {A:Nat->Nat->Rat} (hA:∀i j,i<n->j<n->A i j=F i (j:Int)) (lr:rest.length=n) (hr:∀i,i<n->rest.getD i 0=(i:Int))
 (lP:P.length=n) (lQ:Q.length=n) (lpl:place.length=n) (l1:rows.length=n) (l2:lower.length=n) (l3:cols.length=n)
 (w1:∀i,i<n->PP (F i) (rows.getD i [])) (w0:∀i (j:Int),i<n->F i j≠0->0<=j/\j<(n:Int)) (ws:∀i j,i<n->qs (S 0) (F i j)) (w2:∀i,i<n->lower.getD i []= [])
 (w3:∀j:Int,0<=j->j<(n:Int)->cH (n:Int) F [] j (cols.getD j.toNat [])):EI n 0 S A rest P Q place rows lower cols:=by
 have u:∀a,¬a<0:=fun a=>uZ a
 have hg:∀i (hi:i<rest.length),rest[i]=(i:Int):=fun i hi=>by
  rw[<-hr i (by omega),qF,qS hi];rfl
 refine⟨⟨rN _,fun a h=>absurd h (u a),fun a h=>absurd h (u a),fun a _ h=>absurd h (u a),fun a _ h=>absurd h (u a),fun i j hi hj=> ?_,fun a _ h=>absurd h (u a),fun a h=>absurd h (u a),fun a _ h=>absurd h (u a)⟩,lP,lQ,lpl,l1,l2,l3,fun a h=>absurd h (u a),fun a h=>absurd h (u a),fun a h=>absurd h (u a),uA.2 fun i j hi hj a2 e=> ?_,fun c=>⟨fun hc=> ?_,fun hc=> ?_⟩,fun i hi=> ?_,fun i hi=> ?_,fun i hi j=> ?_,fun a ha=>absurd ha (u a),fun j hj=> ?_⟩
 . rw[C9,tH,hA i j hi hj];exact((w1 i hi).2 _).symm
 . rw[hg i hi,hg j hj]at e;omega
 . obtain⟨i,hi,rfl⟩:=uT.1 hc;rw[hg i hi];exact⟨qE _,by omega,fun a ha=>absurd ha (u a)⟩
 . obtain⟨h0,h1,_⟩:=hc;have a1:c.toNat<rest.length:=by omega
   have:=hg _ a1;rw[show((c.toNat:Nat):Int)=c from by omega]at this;rw[<-this];exact wY a1
 . obtain⟨g1,g2⟩:=w1 i hi;exact⟨g1,fun e he=>w0 i e.1 hi (by rw[<-g2,Q4 g1.1 he];exact(g1.2 e he).1),fun j=>by rw[g2];exact ws i j hi⟩
 . rw[w2 i hi];exact⟨Yk,fun e he=>by cases he⟩
 . rw[w2 i hi,Rj];exact R2 (nZ (ws i j hi))
 . have a0:0<=j/\j<(n:Int):=by
    obtain⟨i,hi,rfl⟩:=uT.1 hj;rw[hg i hi];omega
   obtain⟨g1,g2⟩:=w3 j a0.1 a0.2;refine⟨g1,fun i=> ?_⟩;rw[g2];have hR:∀i:Int,0<=i->i<(n:Int)->X8 rows i.toNat j.toNat=F i.toNat j:=fun i h0 h1=>by
    show A4 (rows.getD i.toNat []) ((j.toNat:Nat):Int)= _;rw[(w1 i.toNat (by omega)).2,show((j.toNat:Nat):Int)=j from by omega]
   constructor
   . rintro(⟨h0,h1,h2⟩ | ⟨_,e,he,_⟩)
     . exact⟨h0,h1,fun a ha=>absurd ha (u a),by rw[hR i h0 h1];exact h2⟩
     . cases he
   . rintro⟨h0,h1,_,h2⟩;exact .inl ⟨h0,h1,by rw[hR i h0 h1]at h2;exact h2⟩
def gM (Bs:Int->Int->Prop) (i:Int) (vs:List D0) (j:Int) (es:R1):Prop:=(Q3 es).Nodup/\∀x:Int,x∈Q3 es↔Bs j x/\¬(x=i/\∃e∈vs,e.1=j)
def gL (Bs:Int->Int->Prop) (i:Int) (vs:List D0) (j:Int) (es:R1):Prop:=(Q3 es).Nodup/\∀x:Int,x∈Q3 es↔Bs j x\/(x=i/\∃e∈vs,e.1=j)
variable {Bs:Int->Int->Prop} {i j:Int} {vs:List D0} {es:R1} {e:D0}
def gN (h:(Q3 es).Nodup/\∀x,x∈Q3 es↔Bs j x):gM Bs i [] j es:=⟨h.1,fun x=>by rw[h.2];exact⟨fun hh=>⟨hh,fun⟨_,e,he,_⟩=>by cases he⟩,fun hh=>hh.1⟩⟩
def A6a (h:(Q3 es).Nodup/\∀x,x∈Q3 es↔Bs j x):gL Bs i [] j es:=⟨h.1,fun x=>by rw[h.2];exact⟨.inl,fun hh=>hh.elim id fun⟨_,e,he,_⟩=>by cases he⟩⟩
def Uc (u:e.1=j):∃y∈vs++ [e],y.1=j:=⟨e,by simp,u⟩
def SU (he:e.1≠j):(∃y∈vs++ [e],y.1=j)↔∃y∈vs,y.1=j:=
 ⟨fun⟨y,u,hyj⟩=>by
  rcases rA.1 u with u|u
  . exact⟨y,u,hyj⟩
  . rw[qR]at u;subst u;exact absurd hyj he,fun⟨y,u,hyj⟩=>⟨y,sM _ u,hyj⟩⟩
def A6c (h:gM Bs i vs j es) (he:e.1=j):gM Bs i (vs++ [e]) j (Px (.int .i64) i es):=by
 obtain⟨g1,g2⟩:=ZU i es h.1;refine⟨g1,fun x=> ?_⟩;rw[g2,h.2];exact⟨fun hh=>⟨hh.2.1,fun u=>hh.1 u.1⟩,fun hh=>⟨fun hx=>hh.2 ⟨hx,Uc he⟩,hh.1,fun u=>hh.2 ⟨u.1,Uc he⟩⟩⟩
def A1u (h:gM Bs i vs j es) (u:e.1≠j):gM Bs i (vs++ [e]) j es:=⟨h.1,fun x=>by rw[h.2,SU u]⟩
def A6b {b:Bool} (h:gL Bs i vs j es) (he:e.1=j):gL Bs i (vs++ [e]) j (Fc (.int .i64) i b es):=by
 obtain⟨g1,g2⟩:=ZV i b es h.1;refine⟨g1,fun x=> ?_⟩;rw[g2,h.2];exact⟨fun hh=>hh.elim (fun hx=> .inr ⟨hx,Uc he⟩) fun hh=>hh.elim .inl fun u=> .inr ⟨u.1,Uc he⟩,fun hh=>hh.elim (fun hh=> .inr (.inl hh)) fun u=> .inl u.1⟩
def A1t (h:gL Bs i vs j es) (u:e.1≠j):gL Bs i (vs++ [e]) j es:=⟨h.1,fun x=>by rw[h.2,SU u]⟩
def A6e {O N:Int->Prop} {pv nw:List D0} {a0:R1} (hA:gL (fun _ x=>Bs j x/\¬(x=i/\∃e∈pv,e.1=j)) i nw j a0)
 (hO:Bs j i↔O j) (a1:(∃e∈pv,e.1=j)\/(O j↔N j)) (hN:(∃e∈nw,e.1=j)↔N j):(Q3 a0).Nodup/\∀x,x∈Q3 a0↔(x≠i/\Bs j x)\/(x=i/\N j):=by
 refine⟨hA.1,fun x=> ?_⟩;rw[hA.2,hN];by_cases hx:x=i
 . subst hx;rcases a1 with hp|hp
   . exact⟨fun hh=>hh.elim (fun u=>absurd ⟨rfl,hp⟩ u.2) .inr,fun hh=>hh.elim (fun u=>absurd rfl u.1) .inr⟩
   . exact⟨fun hh=>hh.elim (fun u=> .inr ⟨rfl,hp.1 (hO.1 u.1)⟩) .inr,fun hh=>hh.elim (fun u=>absurd rfl u.1) .inr⟩
 . exact⟨fun hh=>hh.elim (fun u=> .inl ⟨hx,u.1⟩) fun u=>absurd u.1 hx,fun hh=>hh.elim (fun u=> .inl ⟨u.2,fun h3=>hx h3.1⟩) fun u=>absurd u.1 hx⟩
def CP {s:Nat} :∀ {a b:Nat},a<=b->sK s a<=sK s b
 |a,0,h=>by have:a=0:=by omega
            subst this;exact rB _
 |a,b+1,h=>by
  by_cases u:a=b+1
  . subst u;exact rB _
  . have:=CP (s:=s) (a:=a) (b:=b) (by omega);simp only[sK];omega
def C3c {s:Nat} (k:Nat):s<=sK s k:=CP (rN k)
def B3d {s:Nat} {x f r c:Rat} (hx:qs s x) (hf:qs s f) (hr:qs s r) (u:qs s c):qs (4*s+1) (x-f/r*c):=by
 have h1:=MP hx (MO (eD hf hr) u);rwa[show s+(s+s+s)+1=4*s+1 from by omega]at h1
def inC (cols:List R1) (j x:Int):Prop:=x∈Q3 (cols.getD j.toNat [])
structure CI (n k s:Nat) (rest P:List Int) (rows0 lower0:List (List D0)) (r c:Int) (D:List Int) (rows lower:List (List D0)) (cols:List R1):Prop where
 lrows:rows.length=n
 llow:lower.length=n
 lcols:cols.length=n
 rd:∀i:Nat,i<n->(i:Int)∈D->Y5 (rows.getD i [])/\(∀e∈rows.getD i [],0<=e.1/\e.1<(n:Int))/\(∀j,qs (4*s+1) (A4 (rows.getD i []) j))/\∀j,A4 (rows.getD i []) j=A4 (rows0.getD i []) j-Xa k (ix P) (X8 rows0) r.toNat c.toNat i*A4 (rows0.getD r.toNat []) j
 ru:∀i:Nat,i<n->(i:Int)∉D->rows.getD i []=rows0.getD i []
 lo:∀i:Nat,i<n->lower.getD i []=if(i:Int)∈D then lower0.getD i []++ [((k:Int),rc (Xa k (ix P) (X8 rows0) r.toNat c.toNat i))]else lower0.getD i []
 col:∀j:Int,j∈rest->(Q3 (cols.getD j.toNat [])).Nodup/\∀x:Int,x∈Q3 (cols.getD j.toNat [])↔x≠r/\0<=x/\x<(n:Int)/\(∀a,a<k->x.toNat≠ix P a)/\X8 rows x.toNat j.toNat≠0
variable {n k s:Nat} {S:Nat->Nat} {A:Nat->Nat->Rat} {rest P Q place:List Int} {rows lower rows1 lower1:List (List D0)} {cols cols1 cols2:List R1} {r c:Int}
def pL {v:List D0} (h:Y5 v) (j:Int):(∃e∈v,e.1=j)↔A4 v j≠0:=
 ⟨fun⟨e,he,hj⟩=>by rw[<-hj,Q4 h.1 he];exact(h.2 e he).1,BT⟩
def EI.row (h:EI n k S A rest P Q place rows lower cols) (u:c∈rest) (hr:r∈Q3 (cols.getD c.toNat [])):0<=r/\r<(n:Int)/\(∀a,a<k->r.toNat≠ix P a)/\X8 rows r.toNat c.toNat≠0:=((h.col c u).2 r).1 hr
def EI.crange (h:EI n k S A rest P Q place rows lower cols) (u:c∈rest):0<=c/\c<(n:Int):=⟨((h.rmem c).1 u).1,((h.rmem c).1 u).2.1⟩
def CI.init (h:EI n k S A rest P Q place rows lower cols) (hc:c∈rest) (hr:r∈Q3 (cols.getD c.toNat [])) (l1:cols1.length=n)
 (u:∀j:Int,j∈rest->gM (inC cols) r (rows.getD r.toNat []) j (cols1.getD j.toNat [])):CI n k s rest P rows lower r c [] rows lower cols1:=by
 obtain⟨r0,r1,r2,_⟩:=h.row hc hr;refine⟨h.lrows,h.llow,l1,fun i _ hh=>(by cases hh),fun i _ _=>rfl,fun i _=>(qL (by simp)).symm,fun j hj=> ?_⟩;obtain⟨j0,j1⟩:=h.crange hj;obtain⟨g1,g2⟩:=u j hj;refine⟨g1,fun x=> ?_⟩;rw[g2];have hb:=(h.col j hj).2 x;unfold inC;rw[hb,pL (h.can r.toNat (by omega)).1];constructor
 . rintro⟨⟨x0,x1,x2,x3⟩,h2⟩;refine⟨fun e=>h2 ⟨e, ?_⟩,x0,x1,x2,x3⟩;subst e;unfold X8 at x3;rwa[show((j.toNat:Nat):Int)=j from by omega]at x3
 . rintro⟨hx,x0,x1,x2,x3⟩;exact⟨⟨x0,x1,x2,x3⟩,fun h2=>hx h2.1⟩
def CI.next (h:EI n k S A rest P Q place rows lower cols) (hc:c∈rest) (hr:r∈Q3 (cols.getD c.toNat [])) {D:List Int} (g:CI n k (S k) rest P rows lower r c D rows1 lower1 cols1) {i:Int}
 (i0:0<=i) (i1:i<(n:Int)) (aa:i≠r) (a6:∀a,a<k->i.toNat≠ix P a) (hD:i∉D) {nw:List D0} {q:Rat}
 (hq:q=X8 rows i.toNat c.toNat/X8 rows r.toNat c.toNat)
 (a3:PP (fun j=>A4 (rows.getD i.toNat []) j-q*A4 (rows.getD r.toNat []) j) nw) (l2:cols2.length=n)
 (a8:∀j:Int,j∈rest->gL (fun j x=>inC cols1 j x/\¬(x=i/\∃e∈rows.getD r.toNat [],e.1=j)) i nw j (cols2.getD j.toNat [])):
 CI n k (S k) rest P rows lower r c (D++ [i]) (rows1.set i.toNat nw) (lower1.set i.toNat (lower1.getD i.toNat []++ [((k:Int),rc q)])) cols2:=by
 obtain⟨r0,r1,r2,r3⟩:=h.row hc hr;obtain⟨c0,c1⟩:=h.crange hc;have a2:i.toNat<n:=by omega
 have a9:((i.toNat:Nat):Int)=i:=by omega
 have a5:Xa k (ix P) (X8 rows) r.toNat c.toNat i.toNat=q:=by rw[SW (by omega) a6,hq]
 have u:∀x:Nat,(x:Int)∈D++ [i]↔(x:Int)∈D\/x=i.toNat:=fun x=>by
  rw[rA,qR];exact g3g yI (by omega)
 have a4:∀j,A4 nw j=A4 (rows.getD i.toNat []) j-q*A4 (rows.getD r.toNat []) j:=a3.2;have ad:∀e∈nw,0<=e.1/\e.1<(n:Int):=fun e he=>qU fun hh=>by
  refine(a3.1.2 e he).1 ?_;rw[<-Q4 a3.1.1 he,a4,D2 (v:=rows.getD i.toNat []) fun y hy a7=>hh (by rw[<-a7];exact(h.can _ a2).2.1 y hy),D2 (v:=rows.getD r.toNat []) fun y hy a7=>hh (by rw[<-a7];exact(h.can r.toNat (by omega)).2.1 y hy),uX,tK,wM,rO]
 refine⟨by rw[qN];exact g.lrows,by rw[qN];exact g.llow,l2,fun x hx a0=> ?_,fun x hx a0=> ?_,fun x hx=> ?_,fun j hj=> ?_⟩
 . by_cases a1:x=i.toNat
   . subst a1;rw[B6 (by rw[g.lrows];exact a2),a5];refine⟨a3.1,ad,fun j=> ?_,a4⟩;rw[a4,hq];have:=B3d ((h.can _ a2).2.2 j) ((h.can _ a2).2.2 (c.toNat:Int)) ((h.can r.toNat (by omega)).2.2 (c.toNat:Int)) ((h.can r.toNat (by omega)).2.2 j);exact this
   . rw[D5 a1];exact g.rd x hx (((u x).1 a0).resolve_right a1)
 . have a1:x≠i.toNat:=fun e=>a0 ((u x).2 (.inr e))
   rw[D5 a1];exact g.ru x hx fun hh=>a0 ((u x).2 (.inl hh))
 . by_cases a1:x=i.toNat
   . subst a1;rw[B6 (by rw[g.llow];exact a2),qT ((u _).2 (.inr rfl)),g.lo _ a2,qL (by rw[a9];exact hD),a5]
   . rw[D5 a1,g.lo x hx];by_cases a0:(x:Int)∈D
     . rw[qT a0,qT ((u x).2 (.inl a0))]
     . rw[qL a0,qL fun hh=>a0 (((u x).1 hh).resolve_right a1)]
 . obtain⟨j0,j1⟩:=h.crange hj;obtain⟨gn,gk⟩:=g.col j hj;have ab:((j.toNat:Nat):Int)=j:=by omega
   have hO:inC cols1 j i↔A4 (rows.getD i.toNat []) j≠0:=by
    unfold inC;rw[gk];have e1:X8 rows1 i.toNat j.toNat=A4 (rows.getD i.toNat []) j:=by
     unfold X8;rw[g.ru _ a2 (by rw[a9];exact hD),ab]
    rw[e1];exact⟨fun hh=>hh.2.2.2.2,fun hh=>⟨aa,i0,i1,a6,hh⟩⟩
   have ac:=A6e (Bs:=inC cols1) (O:=fun j=>A4 (rows.getD i.toNat []) j≠0) (N:=fun j=>A4 nw j≠0) (pv:=rows.getD r.toNat []) (nw:=nw) (a8 j hj) hO ?_ (pL a3.1 j)
   . refine⟨ac.1,fun x=> ?_⟩;rw[ac.2];unfold inC;rw[gk];by_cases hx:x=i
     . subst hx;have:X8 (rows1.set x.toNat nw) x.toNat j.toNat=A4 nw j:=by
        unfold X8;rw[B6 (by rw[g.lrows];exact a2),ab]
       rw[this];exact⟨fun hh=>hh.elim (fun h2=>absurd rfl h2.1) fun h2=>⟨aa,i0,i1,a6,h2.2⟩,fun hh=> .inr ⟨rfl,hh.2.2.2.2⟩⟩
     . constructor
       . rintro(⟨_,h1,x0,x1,x2,x3⟩ | ⟨h1,_⟩)
         . refine⟨h1,x0,x1,x2, ?_⟩;unfold X8 at x3⊢;rwa[D5 (by omega)]
         . exact absurd h1 hx
       . rintro⟨h1,x0,x1,x2,x3⟩;refine .inl ⟨hx,h1,x0,x1,x2, ?_⟩;unfold X8 at x3⊢;rwa[D5 (by omega)]at x3
   . by_cases hp:∃e∈rows.getD r.toNat [],e.1=j
     . exact .inl hp
     . refine .inr ?_;have h0:A4 (rows.getD r.toNat []) j=0:=qU fun hh=>hp (BT hh)
       show A4 _ j≠0↔A4 nw j≠0;rw[a4,h0,uX,tK,wM,rO]
def CI.done (h:EI n k S A rest P Q place rows lower cols) (hc:c∈rest) (hr:r∈Q3 (cols.getD c.toNat [])) {D:List Int} (g:CI n k (S k) rest P rows lower r c D rows1 lower1 cols1)
 (hS:S (k+1)=4*S k+1) (hD:∀x:Int,x∈D↔x≠r/\0<=x/\x<(n:Int)/\(∀a,a<k->x.toNat≠ix P a)/\X8 rows x.toNat c.toNat≠0) {a0:List Int} (r1:a0.Nodup) (r2:∀x,x∈a0↔x∈rest/\x≠c):
 EI n (k+1) S A a0 (P.set k r) (Q.set k c) (place.set c.toNat k) rows1 lower1 cols1:=by
 obtain⟨p0,p1,p2,p3⟩:=h.row hc hr;have a2:k<P.length:=by
  rw[h.lP];refine Nat.lt_of_le_of_ne h.elim.kn fun a2=> ?_
  obtain⟨c0,c1,c2⟩:=(h.rmem c).1 hc;obtain⟨a,ha,e⟩:=Ga (n:=n) (q:=ix Q) (fun a ha=>h.elim.qlt a (by omega)) (fun a b ha hb=>h.elim.qinj a b (by omega) (by omega)) (show c.toNat<n by omega);exact absurd e.symm (c2 a (by omega))
 have a1:∀i:Nat,i<n->((i:Int)∈D↔Xa k (ix P) (X8 rows) r.toNat c.toNat i≠0):=fun i hi=>by
  rw[hD,qM];constructor
  . rintro⟨x1,_,_,x2,x3⟩;rw[SW (by omega) x2,wX];exact fun hz=>(g0g.1 hz).elim x3 fun hz=>by
     have:=g1b _ p3;rw[hz,uX]at this;exact absurd this (by decide)
  . intro hf;have a3:¬(i=r.toNat\/∃a,a<k/\i=ix P a):=fun hh=>hf (qT hh)
    refine⟨fun e=>a3 (.inl (by omega)),by omega,by omega,fun a ha e=>a3 (.inr ⟨a,ha,e⟩),fun hz=>hf ?_⟩;unfold Xa;rw[qL a3,hz,wX,tL]
 refine h.step hc hr r1 r2 g.lrows g.llow g.lcols (fun i hi=> ?_) (fun i hi=> ?_) (by omega) (fun i hi=> ?_) fun j hj=> ?_
 . rw[hS];by_cases u:(i:Int)∈D
   . exact g.rd i hi u
   . have hz:Xa k (ix P) (X8 rows) r.toNat c.toNat i=0:=qU fun hh=>u ((a1 i hi).2 hh)
     rw[g.ru i hi u,hz];obtain⟨g1,g2,g3⟩:=h.can i hi;exact⟨g1,g2,fun j=>N3 (g3 j) (by omega),fun j=>by rw[tL,tK,wM,rO]⟩
 . rw[g.lo i hi];by_cases u:(i:Int)∈D
   . rw[qT u,qL ((a1 i hi).1 u)]
   . rw[qL u,qT (qU fun hh=>u ((a1 i hi).2 hh))]
 . have hq:=(h.can i hi).2.2 (c.toNat:Int);rw[hS];unfold Xa;split
   . exact R2 (by have:=nZ hq;omega)
   . exact N3 (eD hq ((h.can r.toNat (by omega)).2.2 (c.toNat:Int))) (by omega)
 . obtain⟨g1,g2⟩:=g.col j ((r2 j).1 hj).1;refine⟨g1,fun x=> ?_⟩;rw[g2];constructor
   . rintro⟨x1,x2,x3,x4,x5⟩;refine⟨x2,x3,fun a ha=> ?_,x5⟩;by_cases a4:a=k
     . subst a4;rw[Pw a2];omega
     . rw[Bp a4];exact x4 a (by omega)
   . rintro⟨x2,x3,x4,x5⟩;refine⟨fun e=> ?_,x2,x3,fun a ha=> ?_,x5⟩
     . have:=x4 k (rV _);rw[Pw a2,e]at this;exact this rfl
     . have:=x4 a (by omega);rwa[Bp (tU ha)]at this
def EI.two (h:EI n k S A rest P Q place rows lower cols) {i j:Nat} (hi:i<n) (hj:j<n) (a1:i≠j) (ha:∀a,a<k->i≠ix P a) (hb:∀a,a<k->j≠ix P a):k+2<=n:=by
 refine qU fun hn=> ?_
 have a2:=h.elim.kn;obtain⟨a,b,h1,h2,h3⟩:=UW n (fun a=>if a<k then ix P a else if a=k then i else j) fun a _=>by
  split
  . rename_i h1;exact h.elim.plt a h1
  . split<;>assumption
 by_cases u:a<k
 . rw[qT u]at h3;by_cases a0:b<k
   . rw[qT a0]at h3;have:=h.elim.pinj a b u a0 h3;omega
   . rw[qL a0]at h3;split at h3
     . exact ha a u h3.symm
     . exact hb a u h3.symm
 . have a0:¬b<k:=by omega
   rw[qL u,qL a0]at h3;have:a=k:=by omega
   rw[qT this,qL (by omega)]at h3;exact a1 h3
def JJ {α:Type} (l:List α) (i:Nat) (d:α):l.set i (l.getD i d)=l:=by
 refine g1n (by rw[qN]) fun j a0 u=> ?_
 rw[g4h];split
 . rename_i e;subst e;rw[H2 _ _ u]
 . rfl
def Ip {α:Type} {d:α} {l:List α} {t:Int} (u:0<=t) (t1:t<(l.length:Int)):l.take (t+1).toNat=l.take t.toNat++ [gx d l t]:=by
 rw[show(t+1).toNat=t.toNat+1 from by omega,rR,G8 (d:=d) u t1];rfl
def CL {l:List Int} {n:Nat} (h:l.Nodup) (hl:∀x∈l,0<=x/\x<(n:Int)):l.length<=n:=by
 refine qU fun hn=> ?_
 have u:∀a,a<n+1->a<l.length:=fun a ha=>by omega
 obtain⟨a,b,h1,h2,h3⟩:=UW n (fun a=>(l.getD a 0).toNat) fun a ha=>by
  have:=hl _ (C6 (d:=0) (u a ha));omega
 have ga:=hl _ (C6 (d:=0) (u a (by omega)));have gb:=hl _ (C6 (d:=0) (u b h2));have he:l.getD a 0=l.getD b 0:=by omega
 rw[H2 _ _ (u a (by omega)),H2 _ _ (u b h2)]at he;have:=(wI h).1 he;omega
def A7x (es:R1):(Q3 es).length=es.length:=tN ..
def iY {es:R1} {y:Int×Bool} (h:y∈es):y.1∈Q3 es:=vC (f:=fun e:Int×Bool=>e.1) h
def fE (n:Nat) (dd:List Nat):Prop:=∀i,i<n->i∉dd
abbrev NB:=List R1×List Nat
abbrev NR:=List (List D0)×List Nat
variable {n k:Nat} {S:Nat->Nat} {A:Nat->Nat->Rat} {rest P Q place:List Int} {rows lower:List (List D0)} {cols:List R1}
def oT {v:List D0} {m j:Int} (h:L6 v m) (u:A4 v j≠0):0<=j/\j<m:=qU fun hh=>u (A4g h hh)
def EI.more (h:EI n k S A rest P Q place rows lower cols) (hk:k<n):0<rest.length:=by
 refine qU fun hn=> ?_
 have a0:rest= []:=qO (by omega);have u:∀c,c<n->∃a,a<k/\c=ix Q a:=fun c hc=>qU fun hh=>by
  have:=(h.rmem (c:Int)).2 ⟨by omega,by omega,fun a ha e=>hh ⟨a,ha,by omega⟩⟩;rw[a0]at this;cases this
 obtain⟨f,hf⟩:∃f:Nat->Nat,∀c,c<n->f c<k/\c=ix Q (f c):=by
  refine⟨fun c=>if hc:c<n then(u c hc).choose else 0,fun c hc=> ?_⟩;simp only[dif_pos hc];exact(u c hc).choose_spec
 obtain⟨a,b,h1,h2,h3⟩:=UW k f fun a ha=>(hf a (by omega)).1
 have e1:=(hf a (by omega)).2;have e2:=(hf b (by omega)).2;rw[h3]at e1;omega
def EI.okRow (h:EI n k S A rest P Q place rows lower cols) (hS:S k<=K1) (hn:n<=16384) {i:Nat} (hi:i<n):CM K1 (rows.getD i []):=by
 obtain⟨u,g2,g3⟩:=h.can i hi;have:=Fw (n:=(n:Int)) (v:=rows.getD i []) ⟨u.1,fun e he=>⟨(g2 e he).1,(g2 e he).2,(u.2 e he).1⟩⟩;exact⟨u.1,IH u fun j=>N3 (g3 j) hS,by omega⟩
def EI.lowLen (h:EI n k S A rest P Q place rows lower cols) {i:Nat} (hi:i<n):(lower.getD i []).length<=k:=by
 obtain⟨u,g2⟩:=h.lcan i hi;have:=Fw (n:=(k:Int)) (v:=lower.getD i []) ⟨u.1,fun e he=>⟨(g2 e he).1,(g2 e he).2,(u.2 e he).1⟩⟩;omega
def EI.colLen (h:EI n k S A rest P Q place rows lower cols) {c:Int} (hc:c∈rest):(cols.getD c.toNat []).length<=n:=by
 obtain⟨g1,u⟩:=h.col c hc;rw[<-A7x];exact CL g1 fun x hx=>⟨((u x).1 hx).1,((u x).1 hx).2.1⟩
def EI.pick (h:EI n k S A rest P Q place rows lower cols) {b:Nat} (hb:b<rest.length):(rest.take b++rest.drop (b+1)).Nodup/\∀x,x∈rest.take b++rest.drop (b+1)↔x∈rest/\x≠rest.getD b 0:=by
 have he:rest=rest.take b++rest.getD b 0::rest.drop (b+1):=by
  rw[H2 _ _ hb, <-xG hb,uE]
 have hn:=h.rnd;generalize rest.getD b 0=c at*;generalize rest.take b=l1 at*;generalize rest.drop (b+1)=l2 at*;subst he;rw[sX]at hn;obtain⟨n1,n2,n3⟩:=hn;obtain⟨m1,m2⟩:=sH.1 n2;refine⟨sX.2 ⟨n1,m2,fun a ha b hb=>n3 a ha b (qJ _ hb)⟩,fun x=> ?_⟩;rw[rA,rA,qG];constructor
 . rintro(hx|hx)
   . exact⟨.inl hx,fun e=>n3 x hx c rC e⟩
   . exact⟨.inr (.inr hx),fun e=>m1 (e▸hx)⟩
 . rintro⟨hx|hx|hx,u⟩
   . exact .inl hx
   . exact absurd hx u
   . exact .inr hx
def GC (n:Nat) (rest:List Int) (Bs:Int->Int->Prop) (i:Int) (v:List D0) (p:Int×NB×Unit):Prop:=0<=p.1/\p.1<=(v.length:Int)/\p.2.1.1.length=n/\fE n p.2.1.2/\∀j:Int,j∈rest->(0<=j/\j<(n:Int))/\gM Bs i (v.take p.1.toNat) j (p.2.1.1.getD j.toNat [])
def ZS (n:Nat) (rest:List Int) (Bs:Int->Int->Prop) (i:Int) (v:List D0) (p:Int×NB×Unit):Prop:=0<=p.1/\p.1<=(v.length:Int)/\p.2.1.1.length=n/\fE n p.2.1.2/\∀j:Int,j∈rest->(0<=j/\j<(n:Int))/\gL Bs i (v.take p.1.toNat) j (p.2.1.1.getD j.toNat [])
def NP (n:Nat) (F:Nat->Int->Rat) (i:Int) (v:List D0) (p:Int×NB×Unit):Prop:=0<=p.1/\p.1<=(v.length:Int)/\p.2.1.1.length=n/\fE n p.2.1.2/\∀j:Int,0<=j->j<(n:Int)->cH i F (v.take p.1.toNat) j (p.2.1.1.getD j.toNat [])
variable {Bs:Int->Int->Prop} {i t:Int} {v:List D0} {dd:List Nat} {F:Nat->Int->Rat}
def GC.rng (h:GC n rest Bs i v (t,(cols,dd),())) (hv:∀e∈v,0<=e.1/\e.1<(n:Int)) (ht:t<(v.length:Int)):(0<=t/\t<(v.length:Int))/\(0<=(gx E9 v t).1/\(gx E9 v t).1<((cols.length:Nat):Int))/\(gx E9 v t).1.toNat∉dd:=by
 have u:=hv (gx E9 v t) (I3 (d:=E9) (i:=t) h.1 ht);have hl:cols.length=n:=h.2.2.1;exact⟨⟨h.1,ht⟩,⟨u.1,by rw[hl];exact u.2⟩,h.2.2.2.1 _ (by omega)⟩
def GC.next (h:GC n rest Bs i v (t,(cols,dd),())) (hv:∀e∈v,0<=e.1/\e.1<(n:Int)) (ht:t<(v.length:Int)):GC n rest Bs i v (t+1,(cols.set (gx E9 v t).1.toNat (Px (.int .i64) i (cols.getD (gx E9 v t).1.toNat [])),dd),()):=by
 obtain⟨h0,_,h2,h3,h4⟩:=h;simp only at h0 h2 h3 h4;refine⟨by simp only;omega,by simp only;omega,by simp only;rw[qN];exact h2,h3,fun j u=> ?_⟩;obtain⟨⟨j0,j1⟩,h5⟩:=h4 j u;refine⟨⟨j0,j1⟩, ?_⟩;have he:=hv _ (I3 (d:=E9) h0 ht);simp only;rw[Ip (d:=E9) h0 ht];generalize gx E9 v t=e at*;by_cases u:e.1=j
 . subst u;rw[B6 (by omega)];exact A6c h5 rfl
 . rw[D5 (by omega)];exact A1u h5 u
def ZS.rng (h:ZS n rest Bs i v (t,(cols,dd),())) (hv:∀e∈v,0<=e.1/\e.1<(n:Int)) (ht:t<(v.length:Int)):(0<=t/\t<(v.length:Int))/\(0<=(gx E9 v t).1/\(gx E9 v t).1<((cols.length:Nat):Int))/\(gx E9 v t).1.toNat∉dd:=by
 have u:=hv (gx E9 v t) (I3 (d:=E9) (i:=t) h.1 ht);have hl:cols.length=n:=h.2.2.1;exact⟨⟨h.1,ht⟩,⟨u.1,by rw[hl];exact u.2⟩,h.2.2.2.1 _ (by omega)⟩
def ZS.next {b:Bool} (h:ZS n rest Bs i v (t,(cols,dd),())) (hv:∀e∈v,0<=e.1/\e.1<(n:Int)) (ht:t<(v.length:Int)):ZS n rest Bs i v (t+1,(cols.set (gx E9 v t).1.toNat (Fc (.int .i64) i b (cols.getD (gx E9 v t).1.toNat [])),dd),()):=by
 obtain⟨h0,_,h2,h3,h4⟩:=h;simp only at h0 h2 h3 h4;refine⟨by simp only;omega,by simp only;omega,by simp only;rw[qN];exact h2,h3,fun j u=> ?_⟩;obtain⟨⟨j0,j1⟩,h5⟩:=h4 j u;refine⟨⟨j0,j1⟩, ?_⟩;have he:=hv _ (I3 (d:=E9) h0 ht);simp only;rw[Ip (d:=E9) h0 ht];generalize gx E9 v t=e at*;by_cases u:e.1=j
 . subst u;rw[B6 (by omega)];exact A6b h5 rfl
 . rw[D5 (by omega)];exact A1t h5 u
def NP.rng (h:NP n F i v (t,(cols,dd),())) (hv:∀e∈v,0<=e.1/\e.1<(n:Int)) (ht:t<(v.length:Int)):(0<=t/\t<(v.length:Int))/\(0<=(gx E9 v t).1/\(gx E9 v t).1<((cols.length:Nat):Int))/\(gx E9 v t).1.toNat∉dd:=by
 have u:=hv (gx E9 v t) (I3 (d:=E9) (i:=t) h.1 ht);have hl:cols.length=n:=h.2.2.1;exact⟨⟨h.1,ht⟩,⟨u.1,by rw[hl];exact u.2⟩,h.2.2.2.1 _ (by omega)⟩
def NP.next {b:Bool} (h:NP n F i v (t,(cols,dd),())) (hv:∀e∈v,0<=e.1/\e.1<(n:Int)) (ht:t<(v.length:Int)):NP n F i v (t+1,(cols.set (gx E9 v t).1.toNat (Fc (.int .i64) i b (cols.getD (gx E9 v t).1.toNat [])),dd),()):=by
 obtain⟨u,_,h2,h3,h4⟩:=h;simp only at u h2 h3 h4;refine⟨by simp only;omega,by simp only;omega,by simp only;rw[qN];exact h2,h3,fun j j0 j1=> ?_⟩;have he:=hv _ (I3 (d:=E9) u ht);simp only;rw[Ip (d:=E9) u ht];have h5:=h4 j j0 j1;generalize gx E9 v t=e at*;by_cases hj:e.1=j
 . subst hj;rw[B6 (by omega)];exact A6d h5 rfl
 . rw[D5 (by omega)];exact A1w h5 hj
def IS (n:Nat) (p:Int×NB×List Int×Unit):Prop:=0<=p.1/\p.1<=(n:Int)/\p.2.1.1.length=n/\(∀j,p.2.1.1.getD j []= [])/\(∀i∈p.2.1.2,p.1<=(i:Int))/\p.2.2.1.length=n/\∀i:Nat,(i:Int)<p.1->p.2.2.1.getD i 0=(i:Int)
def IS.init:IS n (0,(List.replicate n [],Pz (Ty.mp false (Ty.int i64) false Ty.bool) n),List.replicate n 0,()):=by
 refine⟨by simp only;omega,by simp only;omega,by simp only;rw[rI],fun j=> ?_,fun i _=>qE i,by simp only;rw[rI],fun i hi=> ?_⟩
 . simp only;rw[qF,uQ];split<;>rfl
 . simp only at hi;omega
def IS.next {left:List Int} (h:IS n (t,(cols,dd),left,())) (ht:t<(n:Int)):IS n (t+1,(cols.set t.toNat [],ND t.toNat dd),left.set t.toNat t,()):=by
 obtain⟨h0,_,h2,h3,h4,h5,h6⟩:=h;simp only at h0 h2 h3 h4 h5 h6;refine⟨by simp only;omega,by simp only;omega,by simp only;rw[qN];exact h2,fun j=> ?_,fun i hi=> ?_,by simp only;rw[qN];exact h5,fun i hi=> ?_⟩
 . simp only;by_cases u:j=t.toNat
   . subst u;rw[B6 (by omega)]
   . rw[D5 u];exact h3 j
 . simp only at hi⊢;obtain⟨g1,g2⟩:=VT.1 hi;have:=h4 i g1;omega
 . simp only at hi⊢;by_cases u:i=t.toNat
   . subst u;rw[B6 (by omega)];omega
   . rw[D5 u];exact h6 i (by omega)
def ES (n:Nat) (D:List (List D0)) (p:Int×List (List D0)×NB×Unit):Prop:=0<=p.1/\p.1<=(n:Int)/\p.2.1.length=n/\(∀i:Nat,(i:Int)<p.1->PP (A4 (D.getD i [])) (p.2.1.getD i []))/\p.2.2.1.1.length=n/\fE n p.2.2.1.2/\∀j:Int,0<=j->j<(n:Int)->cH p.1 (fun i=>A4 (D.getD i [])) [] j (p.2.2.1.1.getD j.toNat [])
def ES.init {left:List Int} {D:List (List D0)} (h:IS n (t,(cols,dd),left,())) (ht:(n:Int)<=t):ES n D (0,List.replicate n [],(cols,dd),()):=by
 obtain⟨h0,_,u,h3,h4,h5,h6⟩:=h;simp only at h0 u h3 h4 h5 h6;refine⟨by simp only;omega,by simp only;omega,by simp only;rw[rI],fun i hi=>by simp only at hi;omega,u,fun i hi hm=>by have:=h4 i hm;omega,fun j j0 j1=> ?_⟩;simp only;rw[h3];refine⟨xU,fun x=>⟨fun hx=>(by cases hx),fun hx=> ?_⟩⟩;rcases hx with⟨x0,x1,_⟩ | ⟨_,e,he,_⟩
 . omega
 . cases he
def ES.row {D:List (List D0)} {rs:List (List D0)} (h:ES n D (t,rs,(cols,dd),())):NP n (fun i=>A4 (D.getD i [])) t (D.getD t.toNat []) (0,(cols,dd),()):=by
 obtain⟨h0,_,h2,h3,u,h5,h6⟩:=h;exact⟨qI _,qE _,u,h5,fun j j0 j1=>h6 j j0 j1⟩
def ES.next {D:List (List D0)} {rs:List (List D0)} {cols2:List R1} {dd2:List Nat} {u:Int} {w:List D0} (h:ES n D (t,rs,(cols,dd),())) (ht:t<(n:Int)) {m:Int} (hv:L6 (D.getD t.toNat []) m) (hw:PP (A4 (D.getD t.toNat [])) w) (hf:NP n (fun i=>A4 (D.getD i [])) t (D.getD t.toNat []) (u,(cols2,dd2),())) (hu:((D.getD t.toNat []).length:Int)<=u):ES n D (t+1,rs.set t.toNat w,(cols2,dd2),()):=by
 obtain⟨h0,_,h2,h3,h4,h5,h6⟩:=h;obtain⟨g0,_,g2,g3,g4⟩:=hf;simp only at h0 h2 h3 h4 h5 h6 g0 g2 g3 g4;refine⟨by simp only;omega,by simp only;omega,by simp only;rw[qN];exact h2,fun i hi=> ?_,g2,g3,fun j j0 j1=> ?_⟩
 . simp only at hi⊢;by_cases hj:i=t.toNat
   . subst hj;rw[B6 (by omega)];exact hw
   . rw[D5 hj];exact h3 i (by omega)
 . simp only;have h7:=g4 j j0 j1;rw[E1 hu]at h7;exact A1v h7 h0 hv rfl
def B2z (n:Nat) (M:Dj) (p:Int×List Int×List Int×List Int×List Int×List (List D0)×NR×NB×Unit):Prop:=0<=p.1/\p.1<=(n:Int)/\(∀s,1<=s->Di s M->EI n p.1.toNat (sK s) (el M) p.2.1 p.2.2.1 p.2.2.2.1 p.2.2.2.2.1 p.2.2.2.2.2.1 p.2.2.2.2.2.2.1.1 p.2.2.2.2.2.2.2.1.1)/\fE n p.2.2.2.2.2.2.1.2/\fE n p.2.2.2.2.2.2.2.1.2
def B2z.init {M:Dj} {left:List Int} {cols2:List R1} {a0:List Nat} {rs:List (List D0)} {u:Int} (hM:E8 M) (hl:nA M) (hR:M.1=(n:Int)) (hC:M.2.1=(n:Int)) (h:IS n (t,(cols2,a0),left,())) (ht:(n:Int)<=t) (g:ES n M.2.2 (u,rs,(cols,dd),())) (hu:(n:Int)<=u):B2z n M (0,left,List.replicate n 0,List.replicate n 0,List.replicate n 0,rs,(List.replicate n [],Pz (Ty.sl (.pair (.int .i64) (.pair (.pair .bool (.sl (.int .u32))) (.sl (.int .u32))))) n),(cols,dd),()):=by
 obtain⟨h0,h1,h2,h3,h4,h5,h6⟩:=h;obtain⟨g0,g1,g2,g3,g4,g5,g6⟩:=g;simp only at h0 h1 h2 h3 h4 h5 h6 g0 g1 g2 g3 g4 g5 g6;have hu:u=(n:Int):=by omega
 subst hu;refine⟨qI _,qE _,fun s hs a1=> ?_,fun i hi hm=>(by cases hm),g5⟩;have a2:(M.2.2.length:Int)=(n:Int):=by rw[hM.2.2.2.2.1,hR]
 have hD:∀i,i<n->L6 (M.2.2.getD i []) (n:Int)/\CM s (M.2.2.getD i [])/\DM (M.2.2.getD i []):=fun i hi=>by
  have hm:=C6 (d:=([]:List D0)) (show i<M.2.2.length by omega);exact⟨hC▸hM.2.2.2.2.2 _ hm,eO hM a1 hm,hl _ hm⟩
 exact EI.start (F:=fun i=>A4 (M.2.2.getD i [])) (fun i j _ _=>rfl) h5 (fun i hi=>h6 i (by omega)) rI rI rI g2 rI g4 (fun i hi=>g3 i (by omega)) (fun i j hi hj=>oT (hD i hi).1 hj) (fun i j hi=>II (hD i hi).1.1 (hD i hi).2.2 (hD i hi).2.1.2.1 hs j) (fun i hi=>by rw[qF,uQ,qT hi];rfl) g6
def Re:An:= {loop:= [(5,⟨[1,5,14,15],[],[(16,false,vI)],[],[(0, .row .bool 4)]⟩)]}
def RE:An:= {plan:= [(3,[0,1,2],[5],true,(.q 0 (.q 1 (.q 2 (.e 3 (.e 4 (.e 5 .done)))))))]}
def Tv:An:= {}
def Fo:A2 L8.args->Prop:=fun(x:VR)=>let b:=(x.1.length:Int);let a:=(0:Int);(iB (decide (b≠x.2.1)) (false=decide (L5 x.1 x.2.1)) ((a<=x.2.1/\x.2.1<=x.2.1/\(↑(1:Nat):Int)*x.2.1<=281474976710656/\x.2.1<=9223372036854775807)/\∃(I:B4d->Prop),∃(μ: _->Nat),I (a,List.replicate x.2.1.toNat false,())/\∀(p:B4d),let h:=(decide (gx a x.1 p.1<a));let g:=(p.2.1.length:Int);let f:=(decide (x.2.1<=gx a x.1 p.1));let e:=(List.getD p.2.1 (gx a x.1 p.1).toNat false);let d:=(K8 h true f);let c:=(i64.wrap (p.1+1),List.set p.2.1 (gx a x.1 p.1).toNat true,());(Ty.int i64).wf p.1/\(List.length p.2.1<=9223372036854775807/\∀(x:Bool),x∈p.2.1->True)/\True->I p->(iB (decide (p.1<b)) ((a<=p.1/\p.1<b)/\(K8 h true f=false->a<=gx a x.1 p.1/\gx a x.1 p.1<g)/\(iB (K8 d true e) (false=decide (L5 x.1 x.2.1)) ((a<=gx a x.1 p.1/\gx a x.1 p.1<g)/\I c/\μ c<μ p))) (true=decide (L5 x.1 x.2.1)))))
def AF:A2 Eh.args->Prop:=fun(x:A4e)=>let a:=(rv x.1-rv x.2.1*rv x.2.2.1);True/\Cg fun r=>r.1=(rv x.2.2.1).num.sign->(iB (decide (r.1=0)) ((rv x.2.2.1=(0:Rat)->x.1=x.1)/\(rv x.2.2.1≠(0:Rat)->x.1=rc a)) ((E3 x.2.1/\E3 x.2.2.1)/\I6 fun r=>r.1=rc (rv x.2.1*rv x.2.2.1)->(E3 x.1/\E3 r.1)/\I6 fun b=>b.1=rc (rv x.1-rv r.1)->(rv x.2.2.1=(0:Rat)->b.1=x.1)/\(rv x.2.2.1≠(0:Rat)->b.1=rc a)))
def Gz:A2 N4.args->Prop:=fun(x:oQ)=>let b:=(decide (x.1.1=x.2.1));let a:=(decide (x.1.2.1=x.2.1));(K8 b a false=true->True)/\∀(r:X9),(K8 b a false=true->(True/\True)/\r.1=decide (E8 x.1))->K8 (K8 b a false) r.1 false=decide (sqr x.1 x.2.1)
def PI (l:List Int) (n t:Int) (s:List Bool):Prop:=0<=t/\t<=(l.length:Int)/\(s.length:Int)=n/\(∀i∈l.take t.toNat,0<=i/\i<n)/\(l.take t.toNat).Nodup/\∀k:Nat,(k:Int)<n->(s.getD k false=true↔(k:Int)∈l.take t.toNat)
def PI0 {l:List Int} {n:Int} (u:0<=n):PI l n 0 (List.replicate n.toNat false):=by
 refine⟨qI _,qE _,by rw[rI];omega,fun i hi=>(by cases hi),xU,fun k _=> ?_⟩;rw[qF,uQ];constructor
 . intro h;split at h<;>cases h
 . intro h;cases h
def QU {l:List Int} {t:Int} (u:0<=t) (h1:t<(l.length:Int)):l.take (t+1).toNat=l.take t.toNat++ [gx 0 l t]:=by
 rw[show(t+1).toNat=t.toNat+1 from by omega,rR,G8 (d:=(0:Int)) u h1];rfl
def A4y {l:List Int} {n t:Int} {s:List Bool} (h:PI l n t s) (ht:t<(l.length:Int)) (hb:gx 0 l t<0\/n<=gx 0 l t\/s.getD (gx 0 l t).toNat false=true):¬L5 l n:=by
 rintro⟨_,h1,h2⟩;obtain⟨t0,_,_,_,_,hs⟩:=h;have hm:=I3 (d:=(0:Int)) t0 ht;obtain⟨i0,i1⟩:=h1 _ hm;rcases hb with hb|hb|hb
 . omega
 . omega
 . have:=(hs (gx 0 l t).toNat (by omega)).1 hb;rw[show(((gx 0 l t).toNat:Nat):Int)=gx 0 l t from by omega]at this;have u:(l.take (t+1).toNat).Nodup:=h2.take;rw[QU t0 ht,sX]at u;exact u.2.2 _ this _ (qR.2 rfl) rfl
def oY {l:List Int} {n t:Int} {s:List Bool} (h:PI l n t s) (ht:t<(l.length:Int)) (h0:0<=gx 0 l t) (h1:gx 0 l t<n) (a2:s.getD (gx 0 l t).toNat false=false):PI l n (t+1) (s.set (gx 0 l t).toNat true):=by
 obtain⟨t0,t1,hl,hr,hn,hs⟩:=h;have a0:gx 0 l t∉l.take t.toNat:=fun hm=>by
  have:=(hs (gx 0 l t).toNat (by omega)).2 (by rw[show(((gx 0 l t).toNat:Nat):Int)=gx 0 l t from by omega];exact hm);rw[a2]at this;cases this
 refine⟨by omega,by omega,by rw[qN];exact hl,fun i hi=> ?_, ?_,fun k hk=> ?_⟩
 . rw[QU t0 ht,rA,qR]at hi;rcases hi with hi|rfl
   . exact hr i hi
   . exact⟨h0,h1⟩
 . rw[QU t0 ht,sX];refine⟨hn,by simp,fun a ha b hb a1=> ?_⟩;rw[qR]at hb;subst hb a1;exact a0 ha
 . rw[QU t0 ht,rA,qR, <-hs k hk];by_cases u:(gx 0 l t).toNat=k
   . rw[u,qF,tB (by omega)];exact⟨fun _=> .inr (by omega),fun _=>rfl⟩
   . rw[qF,tF u, <-qF];exact⟨.inl,fun h=>h.resolve_right (by omega)⟩
def Ng (x:A2 L8.args) (hw:awf L8.args x) (hp:L8.pre x):Fo x:=by
 obtain⟨l,n,_⟩:=x;change List Int at l;change Int at n;obtain⟨hn,a0⟩:0<=n/\n<=16384:=hp;simp only[Fo,iB];refine⟨fun h=> ?_,fun h=>⟨⟨hn,qI _,by omega,by omega⟩, ?_⟩⟩
 . have h:=qA h;exact(rJ fun hh=>h hh.1).symm
 . have h:=vE.1 (qB h);refine⟨fun p=>PI l n p.1 p.2.1,fun p=>((l.length:Int)-p.1).toNat,PI0 hn, ?_⟩;rintro⟨t,s,_⟩ _ hI;change Int at t;change List Bool at s;simp only at hI⊢;obtain⟨t0,t1,hl,_⟩:=id hI;refine⟨fun u=> ?_,fun u=> ?_⟩
   . have u:=qA u;rw[J1,J1];refine⟨⟨t0,u⟩,fun hh=> ?_,fun hh=> ?_,fun hh=> ?_⟩
     . simp only[rL,rS]at hh;omega
     . simp only[uI,rY]at hh;exact(rJ (A4y hI u (by rcases hh with(hh|hh) |hh;exact .inl hh;exact .inr (.inl hh);exact .inr (.inr hh)))).symm
     . simp only[rL,rS]at hh;rw[wv (by omega)];exact⟨by omega,oY hI u (by omega) (by omega) hh.2,by omega⟩
   . have u:=qB u;obtain⟨_,_,_,h4,h5,_⟩:=hI;rw[E1 (by omega)]at h4 h5;exact(rK ⟨h,h4,h5⟩).symm
def Nq (x:A2 M0.args) (hw:awf M0.args x) (hp:M0.pre x):Fq x:=by
 obtain⟨l,_⟩:=x;change List Int at l;have a0:l.length<=100000:=hp;simp only[Fq,iB];refine⟨⟨qE _,qI _,by omega,by omega⟩,fun p=>PI l (l.length:Int) p.1 p.2.1,fun p=>((l.length:Int)-p.1).toNat,PI0 (qE _), ?_⟩;rintro⟨t,s,_⟩ _ hI;change Int at t;change List Bool at s;simp only at hI⊢;obtain⟨t0,t1,hl,_⟩:=id hI;refine⟨fun u=> ?_,fun u=> ?_⟩
 . have u:=qA u;rw[J1,J1];refine⟨⟨t0,u⟩,fun hh=> ?_,fun hh=> ?_,fun hh=> ?_⟩
   . simp only[rL,rS]at hh;omega
   . simp only[uI,rY]at hh;exact(rJ (A4y hI u (by rcases hh with(hh|hh) |hh;exact .inl hh;exact .inr (.inl hh);exact .inr (.inr hh)))).symm
   . simp only[rL,rS]at hh;rw[wv (by omega)];exact⟨by omega,oY hI u (by omega) (by omega) hh.2,by omega⟩
 . have u:=qB u;obtain⟨_,_,_,h4,h5,_⟩:=hI;rw[E1 (by omega)]at h4 h5;exact(rK ⟨rfl,h4,h5⟩).symm
def JS (x:A2 Eh.args) (hw:awf Eh.args x) (hp:Eh.pre x):AF x:=by
 obtain⟨a,f,b,_⟩:=x;obtain⟨ha,hf,hb⟩:sz K1 a/\sz K1 f/\sz K1 b:=hp;have a1:=Iu hw.2.1;have a0:=Iu hw.2.2.1;simp only[AF,iB,Cg,I6];refine⟨trivial, ?_⟩;rintro⟨r,_⟩ _ hr;change Int at r;simp only at hr⊢;refine⟨fun h=> ?_,fun h=>⟨⟨U7 hf (by decide),U7 hb (by decide)⟩, ?_⟩⟩
 . have h:=qA h;rw[hr,B5d]at h;exact⟨fun _=>by trivial,fun u=>absurd h u⟩
 . have hz:rv b≠0:=fun hz=>qB h (by rw[hr,B5d];exact hz)
   rintro⟨p,_⟩ _ h1;simp only at h1⊢;subst h1;refine⟨⟨U7 ha (by decide),R3 (MO (Je a1 hf (by decide)) (Je a0 hb (by decide))) (by decide)⟩, ?_⟩;rintro⟨q,_⟩ _ u;simp only at u⊢;refine⟨fun h3=>absurd h3 hz,fun _=> ?_⟩;rw[u,E5]
def mvE (p:List Int) (e:D0):D0:=(p.getD e.1.toNat 0,e.2)
def A0k {p:List Int} (h:L5 p (p.length:Int)) {a i:Int} (a0:0<=a) (a1:a<(p.length:Int)) (i0:0<=i) (i1:i<(p.length:Int)):p.getD a.toNat 0=i↔a=((List.idxOf i p:Nat):Int):=by
 have a4:a.toNat<p.length:=by omega
 constructor
 . intro he;have hm:i∈p:=he▸C6 a4;have u:=yK hm;have h2:p[List.idxOf i p]=i:=g0v u;rw[H2 _ _ a4, <-h2]at he;have:=(wI h.2.2).1 he;omega
 . intro he;have hm:i∈p:=by
    obtain⟨b,hb,a3⟩:=Ga (n:=p.length) (q:=fun b=>(p.getD b 0).toNat) (fun b hb=>by have:=h.2.1 _ (C6 (d:=0) hb);omega) (fun b c hb hc a2=>by
     have g1:=h.2.1 _ (C6 (d:=0) hb);have g2:=h.2.1 _ (C6 (d:=0) hc);have a2:(p.getD b 0).toNat=(p.getD c 0).toNat:=a2;have e:p.getD b 0=p.getD c 0:=by omega
     rw[H2 _ _ hb,H2 _ _ hc]at e;exact(wI h.2.2).1 e) (show i.toNat<p.length by omega)
    have g1:=h.2.1 _ (C6 (d:=0) hb);have a3:(p.getD b 0).toNat=i.toNat:=a3;rw[show i=p.getD b 0 from by omega];exact C6 hb
   have u:=yK hm;have h2:p[List.idxOf i p]=i:=g0v u;rw[he,qM,H2 _ _ u,h2]
def pJ {p:List Int} (h:L5 p (p.length:Int)):∀ {c:List D0},(∀e∈c,0<=e.1/\e.1<(p.length:Int))->∀i,A4 (c.map (mvE p)) i=if 0<=i/\i<(p.length:Int)then A4 c ((List.idxOf i p:Nat):Int)else 0
 | [],_,i=>by split<;>rfl
 |e::c,hc,i=>by
  obtain⟨e0,e1⟩:=hc e (rC ..);have ih:=pJ h (fun x hx=>hc x (qJ _ hx)) i;rw[sB,A4,A4,ih];have hr:=h.2.1 _ (C6 (d:=0) (show e.1.toNat<p.length by omega));by_cases hi:0<=i/\i<(p.length:Int)
  . rw[qT hi,qT hi];congr 1;show(if p.getD e.1.toNat 0=i then rv e.2 else 0)= _;by_cases u:p.getD e.1.toNat 0=i
    . rw[qT u,qT ((A0k h e0 e1 hi.1 hi.2).1 u)]
    . rw[qL u,qL fun h3=>u ((A0k h e0 e1 hi.1 hi.2).2 h3)]
  . rw[qL hi,qL hi,rO];exact qL fun u=>hi (by rw[<-u];exact hr)
def BG (x:A2 S7.args) (hw:awf S7.args x) (hp:S7.pre x):Po x:=by
 obtain⟨v,p,_⟩:=x;change List D0 at v;change List Int at p;have a9:CM K1 v/\p.length<=100000:=hp;obtain⟨a9,ai⟩:=a9;simp only[Po,iB,Vy,eF];refine⟨ai, ?_⟩;rintro⟨r,_⟩ _ hr;change Bool at r;simp only at hr⊢;refine⟨fun h a6=> ?_,fun h=>⟨.inl a9, ?_⟩⟩
 . rw[hr,rK a6]at h;cases h
 have a6:L5 p (p.length:Int):=by
  refine qU fun hn=> ?_
  rw[hr,rJ hn]at h;cases h
 rintro⟨c,_⟩ ⟨⟨a7,_⟩,_⟩ hc;change List D0 at c;simp only at hc a7⊢;have a7:c.length<=9223372036854775807:=a7;refine⟨fun q=>0<=q.1/\q.1<=(c.length:Int)/\q.2.1=(c.take q.1.toNat).map (mvE p)++c.drop q.1.toNat/\∀e∈c.take q.1.toNat,0<=e.1/\e.1<(p.length:Int),fun q=>((c.length:Int)-q.1).toNat,⟨qI _,qE _,rfl,fun e u=>(by cases u)⟩, ?_⟩;rintro⟨i,d,_⟩ _ ⟨i0,i1,hd,a2⟩;change Int at i;change List D0 at d;simp only at i0 i1 hd a2⊢;refine⟨fun hi=> ?_,fun hi=> ?_⟩
 . have hi:=qA hi;have a4:i.toNat<c.length:=by omega
   have ah:d.length=c.length:=by rw[hd,rP,tN,qW,sN];omega
   have ad:((c.take i.toNat).map (mvE p)).length=i.toNat:=by rw[tN,qW];omega
   have ac:c.drop i.toNat=c.getD i.toNat E9::c.drop (i.toNat+1):=by rw[H2 _ _ a4];exact xG a4
   have ag:d.getD i.toNat E9=c.getD i.toNat E9:=by
    rw[hd,ac,qF,uD (by omega),ad,xO];rfl
   have aa:c.getD i.toNat E9∈c:=C6 a4;have ab:0<=i/\i<(d.length:Int):=⟨i0,by rw[ah];exact hi⟩;rw[ag];refine⟨ab,fun hh _ a3=> ?_,fun hh=> ?_⟩
   . exfalso;rw[J1]at hh;simp only[uI,rY]at hh;have:=a3 (c.getD i.toNat E9).1 (by rw[<-hc.2,Q4 hc.1.1 aa];exact(hc.1.2 _ aa).1);omega
   . rw[J1]at hh;simp only[rL,rS]at hh;have a3:0<=(c.getD i.toNat E9).1/\(c.getD i.toNat E9).1<(p.length:Int):=⟨by omega,by omega⟩;rw[wv (by omega),G2 a3.1 a3.2];have ht:c.take (i+1).toNat=c.take i.toNat++ [c.getD i.toNat E9]:=by
      rw[show(i+1).toNat=i.toNat+1 from by omega];rw[rR,qS a4,H2 _ _ a4];rfl
     refine⟨a3,ab,⟨by omega,by omega, ?_,fun e u=> ?_⟩,by omega⟩
     . rw[ht,hd,ac,uY,uC,g2m _ _ (by omega),ad,xO,show(i+1).toNat=i.toNat+1 from by omega];rfl
     . rw[ht]at u;rcases rA.1 u with u|u
       . exact a2 e u
       . rw[qR]at u;subst u;exact a3
 . have hi:=qB hi;rw[E1 (by omega)]at hd a2;rw[sE (by omega),vS]at hd;subst hd;have af:L6 c (p.length:Int):=⟨hc.1.1,fun e u=>⟨(a2 e u).1,(a2 e u).2,(hc.1.2 e u).1⟩⟩;refine⟨?_,fun l' _ a5 aj _ _=>⟨⟨⟨?_,fun e u=> ?_⟩,fun j=> ?_⟩,by trivial⟩⟩
   . have:=Fw af;have hz:∀z:Nat,z=c.length->z<=100000:=fun z hz=>by omega
     exact hz _ (tN ..)
   . have a8:(l'.map fun e:D0=>e.1).Nodup:=by
      rw[(a5.map fun e:D0=>e.1).nodup_iff,List.map_map];have h1:(c.map fun e:D0=>e.1).Nodup:=by
       unfold List.Nodup;rw[vN];exact hc.1.1.imp fun hh=>by omega
      unfold List.Nodup at h1⊢;rw[vN]at h1⊢;refine List.Pairwise.imp_of_mem (fun {a b} ha hb ae u=>ae ?_) h1;obtain⟨a0,a1⟩:=a2 a ha;obtain⟨b0,b1⟩:=a2 b hb;have u:p.getD a.1.toNat 0=p.getD b.1.toNat 0:=u;rw[H2 _ _ (by omega),H2 _ _ (by omega)]at u;have:=(wI a6.2.2).1 u;omega
     unfold List.Nodup at a8;rw[vN]at a8;refine g3o ?_ aj a8;intro a b h1 h2;have:a.1<=b.1:=by
      unfold J8 at h1;split at h1
      . omega
      . split at h1<;>omega
     omega
   . obtain⟨y,hy,rfl⟩:=tC.1 (a5.mem_iff.1 u);exact hc.1.2 y hy
   . rw[SJ a5,pJ a6 a2];simp only[hc.2]
def Yc:An:= {loop:= [(8,⟨[2,6,36],[0,2],[(37,false,vI)],[],[]⟩)],plan:= [(10,[2,5,8,11],[],true,(.p 0 (.p 1 (.q 2 (.p 3 (.p 4 (.q 5 (.p 6 (.p 7 (.q 8 (.p 9 (.p 10 (.q 11 (.p 12 (.p 13 .done))))))))))))))),(11,[10,21,22],[],true,(pZ9 0 10 (.q 10 (pZ9 11 10 (.q 21 (.q 22 (.e 23 (.p 24 (.p 25 .done)))))))))]}
abbrev C0l:=(List Int×List Int×MM×Int×Int×List (List EE))×Int×Unit
def Jl:A2 Q7.args->Prop:=fun(x:C0l)=>let h:=(1:Int);let e:Prop:=(false=true↔Cl x.1 x.2.1);let d:=(0:Int);(d<=x.2.1/\x.2.1<=16384)/\Vy fun r=>r.1=decide (L5 x.1.1 x.2.1)->((!r.1)=false->d<=x.2.1/\x.2.1<=16384)/\∀(t:X9),let n:=(K8 (!r.1) true !t.1);((!r.1)=false->(True/\True)/\t.1=decide (L5 x.1.2.1 x.2.1))->(iB n (e) (True/\Vy fun q=>q.1=decide (sqr x.1.2.2.1 x.2.1)->((!q.1)=false->True)/\∀(u:X9),let m:=(K8 (!q.1) true !u.1);((!q.1)=false->(True/\True)/\u.1=decide (sqr x.1.2.2.2 x.2.1))->(iB m (e) (True/\I6 fun r=>r.1=ri h->∃(I:C5->Prop),∃(μ: _->Nat),I (d,())/\∀(p:C5),let l:=(i64.wrap (p.1+h),());let j:=(gx [] x.1.2.2.1.2.2 p.1);let c:=(gx [] x.1.2.2.2.2.2 p.1);let k:=(decide ((gx E9 c d).1≠p.1));let i:=(↑c.length:Int);let a:=(↑j.length:Int);let g:=(decide (a=d));let b:=(gx E9 j (i64.wrap (a-h)));let f:=(decide (b.1≠p.1));(Ty.int i64).wf p.1/\True->I p->(iB (decide (p.1<x.2.1)) ((d<=p.1/\p.1<(x.1.2.2.1.2.2.length:Int))/\(d<=p.1/\p.1<(x.1.2.2.2.2.2.length:Int))/\(decide (a=d)=false->d<=i64.wrap (a-h)/\i64.wrap (a-h)<a)/\(K8 g true f=false->d<=i64.wrap (a-h)/\i64.wrap (a-h)<a)/\(K8 g true f=false->E3 b.2/\E3 r.1)/\∀(s:C5),let o:=(decide (s.1≠d));(K8 g true f=false->(K9 s.1/\True)/\s.1=SG (rv b.2) (rv r.1))->(iB (K8 (K8 g true f) true o) (e) ((decide (i=d)=false->d<=d/\d<i)/\(iB (K8 (decide (i=d)) true k) (e) (I l/\μ l<μ p))))) ((true=true↔Cl x.1 x.2.1)))))))
def Nz (x:A2 N4.args) (hw:awf N4.args x) (_:N4.pre x):Gz x:=by
 obtain⟨m,n,_⟩:=x;change Dj at m;change Int at n;simp only[Gz,J9];refine⟨fun _=>trivial, ?_⟩;rintro⟨r,_⟩ hr;change Bool at r;simp only at hr⊢;by_cases h1:m.1=n
 . by_cases u:m.2.1=n
   . rw[(hr (by rw[rK h1,rK u];rfl)).2,rK h1,rK u,zZ,zZ];exact wJ.2 ⟨fun h=>⟨h1,u,h⟩,fun h=>h.2.2⟩
   . rw[rJ u,Bool.and_false,g0q];exact(rJ fun h=>u h.2.1).symm
 . rw[rJ h1,g0q,g0q];exact(rJ fun h=>h1 h.1).symm
def iZ {v:List D0} (h:Hf v) (hl:v≠ []):gx E9 v ((v.length:Int)-1)∈v/\∀x∈v,x.1<=(gx E9 v ((v.length:Int)-1)).1:=by
 have a1:0<v.length:=vB.2 hl;have u:=G8 (d:=E9) (l:=v) (i:=(v.length:Int)-1) (by omega) (by omega);refine⟨I3 (by omega) (by omega),fun x hx=> ?_⟩;obtain⟨k,hk,rfl⟩:=uT.1 hx;rw[show((v.length:Int)-1).toNat=v.length-1 from by omega]at u;have he:v[v.length-1]'(by omega)=gx E9 v ((v.length:Int)-1):=by
  rw[qS (by omega)]at u;exact xJ u
 rw[<-he];by_cases a0:k=v.length-1
 . subst a0;exact qI _
 . exact xK (uA.1 h k (v.length-1) hk (by omega) (by omega))
def A0a {v:List D0} {n:Int} (h:L6 v n) {i:Nat} (hi:(i:Int)<n):(v≠ []/\(gx E9 v ((v.length:Int)-1)).1=(i:Int)/\rv (gx E9 v ((v.length:Int)-1)).2=1)↔(∀j:Nat,(j:Int)<n->i<j->A4 v (j:Int)=0)/\A4 v (i:Int)=1:=by
 constructor
 . rintro⟨h0,h1,u⟩;obtain⟨m1,m2⟩:=iZ h.1 h0;refine⟨fun j _ a1=>D2 fun e he a0=> ?_, ?_⟩
   . have:=m2 e he;omega
   . rw[<-h1,Q4 h.1 m1,u]
 . rintro⟨h1,u⟩;have h0:v≠ []:=fun e=>by subst e;rw[Rj]at u;exact absurd u (by decide)
   obtain⟨m1,m2⟩:=iZ h.1 h0;obtain⟨x,hx,a3⟩:=BT (show A4 v (i:Int)≠0 from by rw[u];decide);have h3:=m2 x hx;obtain⟨g1,g2,g3⟩:=h.2 _ m1;have he:(gx E9 v ((v.length:Int)-1)).1=(i:Int):=by
    refine qU fun a2=>g3 ?_
    have:=h1 (gx E9 v ((v.length:Int)-1)).1.toNat (by omega) (by omega);rw[show(((gx E9 v ((v.length:Int)-1)).1.toNat:Nat):Int)=(gx E9 v ((v.length:Int)-1)).1 from by omega,Q4 h.1 m1]at this;exact this
   refine⟨h0,he, ?_⟩;rw[<-Q4 h.1 m1,he,u]
def B0s {v:List D0} {n:Int} (h:L6 v n) {i:Nat} :(v≠ []/\(gx E9 v 0).1=(i:Int))↔(∀j:Nat,j<i->A4 v (j:Int)=0)/\A4 v (i:Int)≠0:=by
 cases v with
 |nil=>exact⟨fun hh=>absurd rfl hh.1,fun hh=>absurd (Rj _) hh.2⟩
 |cons e r=>
  have hg:gx E9 (e::r) 0=e:=rfl;rw[hg];have u:=(h.2 e rC);constructor
  . rintro⟨_,h1⟩;exact⟨fun j hj=>BS h.1 (by omega),by rw[<-h1,M5 h.1];exact u.2.2⟩
  . rintro⟨h1,h2⟩;refine⟨by simp,qU fun hc=> ?_⟩;rcases Int.lt_or_gt_of_ne hc with hl|hl
    . refine u.2.2 ?_;rw[<-M5 h.1];have:=h1 e.1.toNat (by omega);rwa[show((e.1.toNat:Nat):Int)=e.1 from by omega]at this
    . exact h2 (BS h.1 hl)
def jY (L U:Dj) (n:Int) (i:Nat):Prop:=(∀j:Nat,(j:Int)<n->i<j->el L i j=0)/\el L i i=1/\(∀j:Nat,j<i->el U i j=0)/\el U i i≠0
def A2u {P Q:List Int} {L U:Dj} {n:Int} (h1:L5 P n) (h2:L5 Q n) (h3:sqr L n) (h4:sqr U n):Cl (P,Q,L,U) n↔∀i:Nat,(i:Int)<n->jY L U n i:=by
 constructor
 . rintro⟨_,_,_,_,h⟩ i hi;exact⟨fun j hj u=>(h i j hi hj).1 u,(h i i hi hi).2.1,fun j hj=>(h i j hi (by omega)).2.2.1 hj,(h i i hi hi).2.2.2⟩
 . intro h;exact⟨h1,h2,h3,h4,fun i j hi hj=>⟨fun u=>(h i hi).1 j hj u,(h i hi).2.1,fun hj=>(h i hi).2.2.1 j hj,(h i hi).2.2.2⟩⟩
def pI {p q:Rat} :SG p q=0↔p=q:=by
 unfold SG;by_cases h1:p<q
 . rw[qT h1];exact⟨fun h=>by omega,fun h=>by subst h;exact absurd h1 (g3m)⟩
 . rw[qL h1];by_cases u:q<p
   . rw[qT u];exact⟨fun h=>by omega,fun h=>by subst h;exact absurd u (g3m)⟩
   . rw[qL u];exact⟨fun _=>Rat.le_antisymm (Rat.not_lt.1 u) (Rat.not_lt.1 h1),fun _=>rfl⟩
def MB {p:Prop} (h:¬p):(false=true↔p):=⟨fun hh=>(by cases hh),fun hp=>absurd hp h⟩
def Tb (x:A2 Q7.args) (hw:awf Q7.args x) (hp:Q7.pre x):Jl x:=by
 obtain⟨⟨P,Q,L,U⟩,n,_⟩:=x;change Dj at L;change Dj at U;change Int at n;obtain⟨hn,a6,hL,hU⟩:0<=n/\n<=16384/\Di K1 L/\Di K1 U:=hp;simp only[Jl,iB,I6,Vy,J1];refine⟨⟨hn,a6⟩, ?_⟩;rintro⟨r1,_⟩ _ h1;change Bool at r1;simp only at h1⊢;refine⟨fun _=>⟨hn,a6⟩, ?_⟩;rintro⟨r2,_⟩ h2;change Bool at r2;simp only at h2⊢;by_cases p1:L5 P n
 case neg=>
  rw[h1,rJ p1];exact⟨fun _=>MB fun h=>p1 h.1,fun h=>by simp at h⟩
 have h2:=(h2 (by rw[h1,rK p1];rfl)).2;by_cases p2:L5 Q n
 case neg=>
  rw[h2,rJ p2];exact⟨fun _=>MB fun h=>p2 h.2.1,fun h=>by simp at h⟩
 rw[h1,h2,rK p1,rK p2];refine⟨fun h=>by simp at h,fun _=>⟨trivial, ?_⟩⟩;rintro⟨r3,_⟩ _ h3;change Bool at r3;simp only at h3⊢;refine⟨fun _=>trivial, ?_⟩;rintro⟨r4,_⟩ h4;change Bool at r4;simp only at h4⊢;by_cases p3:sqr L n
 case neg=>
  rw[h3,rJ p3];exact⟨fun _=>MB fun h=>p3 h.2.2.1,fun h=>by simp at h⟩
 have h4:=(h4 (by rw[h3,rK p3];rfl)).2;by_cases p4:sqr U n
 case neg=>
  rw[h4,rJ p4];exact⟨fun _=>MB fun h=>p4 h.2.2.2.1,fun h=>by simp at h⟩
 rw[h3,h4,rK p3,rK p4];refine⟨fun h=>by simp at h,fun _=>⟨trivial, ?_⟩⟩;rintro⟨one,_⟩ _ a2;change D3 at one;simp only at a2⊢;have a5:=A2u p1 p2 p3 p4;obtain⟨l1,l2,l3⟩:=p3;obtain⟨u1,u2,u3⟩:=p4;have ae:(L.2.2.length:Int)=n:=l3.2.2.2.2.1.trans l1;have af:(U.2.2.length:Int)=n:=u3.2.2.2.2.1.trans u1;have a7:rv one=1:=by rw[a2];exact C0d 1
 have ab:E3 one:=by rw[a2, <-eG];exact R3 (A9s (by decide)) (by decide)
 refine⟨fun p=>0<=p.1/\p.1<=n/\∀i:Nat,(i:Int)<p.1->jY L U n i,fun p=>(n-p.1).toNat,⟨qI _,hn,fun i hi=>by omega⟩, ?_⟩;rintro⟨t,_⟩ _ hI;change Int at t;simp only at hI⊢;obtain⟨t0,t1,hI⟩:=hI;refine⟨fun ht=> ?_,fun ht=> ?_⟩
 . have ht:=qA ht;have a9:L6 (gx [] L.2.2 t) n:=by have:=l3.2.2.2.2.2 _ (I3 (d:= []) t0 (show t<(L.2.2.length:Int)by omega));rwa[l2]at this
   have ac:L6 (gx [] U.2.2 t) n:=by have:=u3.2.2.2.2.2 _ (I3 (d:= []) t0 (show t<(U.2.2.length:Int)by omega));rwa[u2]at this
   have a8:=hL _ (I3 (d:= []) t0 (show t<(L.2.2.length:Int)by omega));have a1:((t.toNat:Nat):Int)=t:=by omega
   have lr:=A0a a9 (i:=t.toNat) (by omega);have ur:=B0s ac (i:=t.toNat);rw[a1]at lr ur;have a0:jY L U n t.toNat↔((∀j:Nat,(j:Int)<n->t.toNat<j->A4 (gx [] L.2.2 t) (j:Int)=0)/\A4 (gx [] L.2.2 t) t=1)/\(∀j:Nat,j<t.toNat->A4 (gx [] U.2.2 t) (j:Int)=0)/\A4 (gx [] U.2.2 t) t≠0:=by
    unfold jY el;rw[a1];exact(and_assoc (a:=∀j:Nat,(j:Int)<n->t.toNat<j->A4 (L.2.2.getD t.toNat []) (j:Int)=0)).symm
   rw[<-lr, <-ur]at a0;have a4:¬jY L U n t.toNat->¬Cl (P,Q,L,U) n:=fun h hh=>h (a5.1 hh t.toNat (by omega))
   have u:∀ {v:List D0},((v.length:Int)=0)↔v= []:=fun {v} =>⟨fun h=>qO (by omega),fun h=>by rw[h];rfl⟩
   have hb:=Fw a9;have a3:(gx [] L.2.2 t)≠ []->i64.wrap (((gx [] L.2.2 t).length:Int)-1)=((gx [] L.2.2 t).length:Int)-1:=fun h=>by
    have:=vB.2 h;exact wv (by omega)
   refine⟨⟨t0,by omega⟩,⟨t0,by omega⟩,fun h=> ?_,fun h=> ?_,fun h=> ?_, ?_⟩
   . have h:=mt u.2 (qB h);have:=vB.2 h;rw[a3 h];omega
   . simp only[rL]at h;have h:=mt u.2 (qB h.1);have:=vB.2 h;rw[a3 h];omega
   . simp only[rL]at h;have h:=mt u.2 (qB h.1);have ad:=vB.2 h;rw[a3 h];exact⟨U7 (a8 _ (I3 (by omega) (by omega))) (by decide),ab⟩
   rintro⟨c,_⟩ hc;change Int at c;simp only at hc⊢;refine⟨fun h=>MB (a4 fun hr=> ?_),fun h=>⟨fun hu=>⟨qI _, ?_⟩,fun hu=>MB (a4 fun hr=> ?_),fun hu=> ?_⟩⟩
   . obtain⟨⟨g1,g2,g3⟩,_⟩:=a0.1 hr;rw[a3 g1]at hc h;have e1:decide (((gx [] L.2.2 t).length:Int)=0)=false:=rJ (mt u.1 g1);have e2:decide ((gx E9 (gx [] L.2.2 t) (((gx [] L.2.2 t).length:Int)-1)).1≠t)=false:=rJ (by rw[vE];exact g2);rw[e1,e2]at hc h;have hc:=(hc rfl).2;rw[a7,g3]at hc;rw[hc,pI.2 rfl]at h;simp at h
   . have:=mt u.2 (qB hu);have:=vB.2 this;omega
   . obtain⟨_,g1,g2⟩:=a0.1 hr;rw[rJ (mt u.1 g1),rJ (by rw[vE];exact g2)]at hu;simp at hu
   . simp only[rL]at h hu;have e1:=mt u.2 (qB h.1.1);rw[a3 e1]at hc h;have e2:=vE.1 (qB h.1.2);have e3:=vE.1 (qB h.2);have hc:=(hc (by rw[h.1.1,h.1.2];rfl)).2;rw[e3,a7]at hc;have f1:=mt u.2 (qB hu.1);have f2:=vE.1 (qB hu.2);have hr:=a0.2 ⟨⟨e1,e2,pI.1 hc.symm⟩,f1,f2⟩;rw[wv (by omega)];refine⟨⟨by omega,by omega,fun i hi=> ?_⟩,by omega⟩;by_cases aa:i=t.toNat
     . subst aa;exact hr
     . exact hI i (by omega)
 . have ht:=qB ht;exact⟨fun _=>a5.2 fun i hi=>hI i (by omega),fun _=>trivial⟩
noncomputable def DS:G7:= [(72,Bu)]
def CY:An:= {loop:= [(3,⟨[1,3,24],[0,1,2,3,4,5,6,7,8,9,10,13],[(25,false,vI)],[],[(11, .nest (.mp false (.int .i64) false .bool) 174 4),(12, .row (.int .i64) 3)]⟩),(13,⟨[3,5,44,45,46,59,60],[0,1,2,3,4,5,6,7,9,10,12,13],[(61,false,vI)],[],[(11, .nest (.mp false (.int .i64) false .bool) 174 4)]⟩),(9,⟨[3,44,45],[0,1,2,3,4,5,6,7,10,12,13],[(46,false,vI)],[],[(9, .row (.sl tE) 79),(11, .nest (.mp false (.int .i64) false .bool) 174 4)]⟩)],plan:= [(1,[1,4,7,10],[],true,(.p 0 (.q 1 (.p 3 (.q 4 (.p 6 (.q 7 (.p 9 (.q 10 (.al [2,5,8,11] [12] (.e 13 (.p 14 .done)))))))))))),(11,[3],[8],true,(pZ9 0 3 (.q 3 (.p 4 (.p 5 (.e 6 (.p 7 (.e 8 .done)))))))),(15,[3,5],[9],false,(pZ9 0 3 (.q 3 (.p 4 (.q 5 (.p 6 (.p 8 (.e 7 (.e 9 .done)))))))))]}
noncomputable def Va:G7:= []
def Tq:An:= {plan:= [(1,[0,3,4,7,10],[],false,(.q 0 (.p 1 (.p 2 (.q 3 (.q 4 (.p 5 (.p 6 (.q 7 (.p 8 (.p 9 (.q 10 (.p 11 (.e 12 (.e 13 (.p 14 .done))))))))))))))))]}
noncomputable def Vb:G7:= []
def Tr:An:= {plan:= [(1,[0,3,4,7,10],[],false,(.q 0 (.p 1 (.p 2 (.q 3 (.q 4 (.p 5 (.p 6 (.q 7 (.p 8 (.p 9 (.q 10 (.p 11 (.e 12 (.e 13 (.p 14 .done))))))))))))))))]}
noncomputable def Vd:G7:= []
def Ts:An:= {plan:= [(1,[0,3,4,7,10],[],false,(.q 0 (.p 1 (.p 2 (.q 3 (.q 4 (.p 5 (.p 6 (.q 7 (.p 8 (.p 9 (.q 10 (.p 11 (.e 12 (.e 13 (.p 14 .done))))))))))))))))]}
noncomputable def Ve:G7:= []
def Tt:An:= {plan:= [(1,[0,3,4,7,10],[],false,(.q 0 (.p 1 (.p 2 (.q 3 (.q 4 (.p 5 (.p 6 (.q 7 (.p 8 (.p 9 (.q 10 (.p 11 (.e 12 (.e 13 (.p 14 .done))))))))))))))))]}
noncomputable def DT:G7:= [(158,Gb (NW ⟨prog,PZ⟩ [(20,Va,Tq),(23,Vb,Tr),(28,Vd,Ts),(33,Ve,Tt)] f158.results.toList (f158.body.getD .skip) f158.ntmps))]
def CZ:An:= {join:= [(8,⟨[1,6,14,15],[1,2,3,4,5,6,7,9,10,13,14,15],[(5,false,vI)],[],[(11, .nest (.mp false (.int .i64) false .bool) 174 4)]⟩),(10,⟨[1,6],[1,2,3,4,5,6,7,9,10,13,14,15],[(5,false,vI)],[],[(11, .nest (.mp false (.int .i64) false .bool) 174 4)]⟩),(14,⟨[1,3],[1,2,3,4,5,6,7,15],[],[(13,155,[.fix 9, .fix 10, .fix 11, .own (.int .i64) 3])],[(9, .row (.sl tE) 79),(10, .nest (.sl tE) 79 106),(11, .nest (.mp false (.int .i64) false .bool) 174 4)]⟩),(20,⟨[3],[1,2,3,4,5,6,7,9,10,13,17],[(2,false,vI)],[],[(11, .nest (.mp false (.int .i64) false .bool) 174 4)]⟩)],loop:= [(4,⟨[1,6,14],[1,2,3,4,5,6,7,9,10,13,14,15],[(5,false,vI),(15,false,vI)],[],[(11, .nest (.mp false (.int .i64) false .bool) 174 4)]⟩),(16,⟨[1,3,66],[1,2,3,4,5,6,7,9,10,11,13,15,17],[(2,false,vI)],[],[(19, .itM false (.int .i64) false .bool 18)]⟩)],plan:= [(13,[1,4,7,10],[14,17],false,(.q 1 (.p 2 (.p 3 (.q 4 (.p 5 (.p 6 (.q 7 (.p 8 (.p 9 (.q 10 (pZ9 11 3 (.or 0 (.e 14 (.p 15 (.p 16 (.e 17 .done)))) (.e 14 (.e 0 (.p 15 (.p 16 (.e 17 .done)))))))))))))))))),(18,[3,6,9,11,14,17,22,25,28,30,33,36],[],true,(pZ9 0 3 (.q 3 (.p 4 (.p 5 (.q 6 (.p 7 (.p 8 (.q 9 (.p 10 (.q 11 (.p 12 (.p 13 (.q 14 (.p 15 (.p 16 (.q 17 (pZ9 18 4 (.q 22 (.p 23 (.p 24 (.q 25 (.p 26 (.p 27 (.q 28 (.p 29 (.q 30 (.p 31 (.p 32 (.q 33 (.p 34 (.p 35 (.q 36 (pZ9 37 8 .done))))))))))))))))))))))))))))))))))]}
noncomputable def Vf:G7:= []
def Tu:An:= {loop:= [(1,⟨[0,2,6,7],[1,2,3,4,5,6,7,9,10,13,15,16,17],[(8,false,vI)],[],[(11, .nest (.mp false (.int .i64) false .bool) 174 4)]⟩)],plan:= [(3,[0,3,5],[9],false,(.q 0 (.p 1 (.p 2 (.q 3 (.p 4 (.q 5 (.p 6 (.p 8 (.e 7 (.e 9 .done)))))))))))]}
noncomputable def Sx:G7:= []
def Rd:An:= {loop:= [(1,⟨[0,2,6,7],[1,2,3,4,5,6,7,9,10,13,15,16,17,18,19],[(8,false,vI)],[],[(11, .nest (.mp false (.int .i64) false .bool) 174 4)]⟩)],plan:= [(3,[0,3,5],[9],false,(.q 0 (.p 1 (.p 2 (.q 3 (.p 4 (.q 5 (.p 6 (.p 8 (.e 7 (.e 9 .done)))))))))))]}
noncomputable def DU:G7:= [(45,Dw),(67,U3),(71,Ac),(160,Ab),(161,O0),(159,Gb (NW ⟨prog,PZ⟩ [(29,Vf,Tu),(107,Sx,Rd)] f159.results.toList (f159.body.getD .skip) f159.ntmps))]
def DA:An:= {join:= [(10,⟨[1,3,4,8,9,10],[1,2,3,4,5,6,7,9,10,13,15,16,17,18],[(12,false,[.own (.int .i64) 3])],[],[(11, .nest (.mp false (.int .i64) false .bool) 174 4)]⟩),(14,⟨[1,3,4,8,9,10,15,53,54,55],[1,2,3,4,5,6,7,9,10,11,13,15,16,17,18,19],[(16,false,[.fixB 20])],[(20,43,[.val .bool, .val (.sl (.int .u32)), .val (.sl (.int .u32))])],[]⟩),(15,⟨[1,3,4,8,9,10,15,16,53,54,55],[1,2,3,4,5,6,7,9,11,13,15,16,17,18,19,20],[],[],[(10, .nest (.sl tE) 79 106)]⟩)],loop:= [(7,⟨[1,3,4,8,9,10,44],[1,2,3,4,5,6,7,9,10,11,13,15,16,17,18],[(12,false,[.own (.int .i64) 3])],[],[(20, .itM false (.int .i64) false .bool 19)]⟩),(18,⟨[1,3,4,8,9,10,15,53,54,55,114,115],[1,2,3,4,5,6,7,9,10,13,15,16,17,18,19],[(116,false,vI)],[],[(11, .nest (.mp false (.int .i64) false .bool) 174 4)]⟩),(11,⟨[1,3,4,8,9,10,53,54],[1,2,3,4,5,6,7,13,15,16,17,18,19],[(55,false,vI)],[],[(9, .row (.sl tE) 79),(10, .nest (.sl tE) 79 106),(11, .nest (.mp false (.int .i64) false .bool) 174 4)]⟩)],plan:= [(13,[0,3,6,9],[12],true,(.q 0 (.p 1 (.p 2 (.q 3 (.p 4 (.p 5 (.q 6 (.p 7 (.q 9 (.or 8 (.or 10 (.e 11 (.e 12 .done)) (.e 11 (.e 10 (.e 12 .done)))) (.e 11 (.e 8 (.e 10 (.e 12 .done))))))))))))))),(14,[5,8,13],[16,18],false,(.p 4 (.q 5 (.p 6 (.p 7 (.q 8 (.p 9 (.p 10 (.p 12 (.q 13 (.p 14 (.or 0 (.p 1 (.p 2 (.or 3 (.or 11 (.e 15 (.e 16 (.p 17 (.e 18 .done)))) (.e 15 (.e 11 (.e 16 (.p 17 (.e 18 .done)))))) (.or 11 (.or 3 (.e 15 (.e 16 (.p 17 (.e 18 .done)))) (.e 15 (.or 3 (.e 16 (.p 17 (.e 18 .done))) (.e 16 (.e 3 (.p 17 (.e 18 .done))))))) (.e 15 (.or 3 (.e 11 (.e 16 (.p 17 (.e 18 .done)))) (.e 11 (.or 3 (.e 16 (.p 17 (.e 18 .done))) (.e 16 (.e 3 (.p 17 (.e 18 .done)))))))))))) (.or 11 (.or 0 (.p 1 (.p 2 (.or 3 (.e 15 (.e 16 (.p 17 (.e 18 .done)))) (.e 15 (.or 3 (.e 16 (.p 17 (.e 18 .done))) (.e 16 (.e 3 (.p 17 (.e 18 .done))))))))) (.e 15 (.or 0 (.p 1 (.p 2 (.or 3 (.e 16 (.p 17 (.e 18 .done))) (.e 16 (.e 3 (.p 17 (.e 18 .done))))))) (.e 16 (.e 0 (.p 1 (.p 2 (.e 3 (.p 17 (.e 18 .done)))))))))) (.e 15 (.or 0 (.p 1 (.p 2 (.or 3 (.e 11 (.e 16 (.p 17 (.e 18 .done)))) (.e 11 (.or 3 (.e 16 (.p 17 (.e 18 .done))) (.e 16 (.e 3 (.p 17 (.e 18 .done))))))))) (.e 11 (.or 0 (.p 1 (.p 2 (.or 3 (.e 16 (.p 17 (.e 18 .done))) (.e 16 (.e 3 (.p 17 (.e 18 .done))))))) (.e 16 (.e 0 (.p 1 (.p 2 (.e 3 (.p 17 (.e 18 .done)))))))))))))))))))))))),(15,[0,3,5,8,11,12,14],[17],true,(.q 0 (.p 1 (.p 2 (.q 3 (.p 4 (.q 5 (.p 6 (.p 7 (.q 8 (.p 9 (.p 10 (.q 11 (.q 12 (.q 14 (.e 13 (.e 15 (.p 16 (.e 17 .done))))))))))))))))))),(20,[0,3,5],[9],false,(.q 0 (.p 1 (.p 2 (.q 3 (.p 4 (.q 5 (.p 6 (.p 8 (.e 7 (.e 9 .done)))))))))))]}
def Rc:An:= {join:= [(13,⟨[2,5,6,7,8,45,46],[1,2,3,4,5,6,7],[(9,false,vI),(10,false,vI),(11,false,[.val .bool])],[(13,155,[.fix 9, .fix 10, .fix 11, .own (.int .i64) 3])],[(9, .row (.sl tE) 79),(10, .nest (.sl tE) 79 106),(11, .nest (.mp false (.int .i64) false .bool) 174 4)]⟩),(16,⟨[2,5,6,7,8,9,10,45,46],[1,4,5,6,9,10,11,13,15],[],[],[(2, .row (.int .i64) 3),(3, .row (.int .i64) 3),(7, .row (.int .i64) 3)]⟩),(22,⟨[2,5,6,7,12,13,79,80,81],[1,2,3,5,6,9,11,13,14],[],[],[(4, .row (.sl tE) 79),(10, .nest (.sl tE) 79 106)]⟩)],loop:= [(10,⟨[2,5,6,7,45],[1,4,5,6],[(46,false,vI)],[(13,155,[.fix 9, .fix 10, .fix 11, .own (.int .i64) 3])],[(2, .row (.int .i64) 3),(3, .row (.int .i64) 3),(7, .row (.int .i64) 3),(9, .row (.sl tE) 79),(10, .nest (.sl tE) 79 106),(11, .nest (.mp false (.int .i64) false .bool) 174 4)]⟩),(19,⟨[2,5,7,79,80],[1,2,3,6,9,11,13,14],[(6,false,[.val (.sl (.int .i64))]),(81,false,vI)],[],[(4, .row (.sl tE) 79),(5, .row (.sl tE) 79),(10, .nest (.sl tE) 79 106)]⟩)],plan:= [(6,[],[16],true,(.p 0 (.p 2 (pZ9 4 3 (pZ9 9 3 (.al [1,3,7,12,15] [8,13,14] (.e 16 .done))))))),(15,[1],[12,14,16],false,(.p 0 (.q 1 (.p 2 (.p 3 (pZ9 5 7 (.or 4 (.e 12 (.p 13 (.e 14 (.p 15 (.e 16 .done))))) (.e 12 (.e 4 (.p 13 (.e 14 (.p 15 (.e 16 .done))))))))))))),(21,[7],[15,17],false,(.p 0 (.p 1 (pZ9 3 4 (.q 7 (.p 8 (.p 9 (.p 11 (.or 2 (.or 10 (.e 12 (.p 13 (.e 14 (.e 15 (.p 16 (.e 17 .done)))))) (.e 12 (.p 13 (.or 10 (.e 14 (.e 15 (.p 16 (.e 17 .done)))) (.e 14 (.e 10 (.e 15 (.p 16 (.e 17 .done))))))))) (.or 10 (.or 2 (.e 12 (.p 13 (.e 14 (.e 15 (.p 16 (.e 17 .done)))))) (.e 12 (.p 13 (.or 2 (.e 14 (.e 15 (.p 16 (.e 17 .done)))) (.e 14 (.or 2 (.e 15 (.p 16 (.e 17 .done))) (.e 15 (.e 2 (.p 16 (.e 17 .done)))))))))) (.e 12 (.p 13 (.or 2 (.or 10 (.e 14 (.e 15 (.p 16 (.e 17 .done)))) (.e 14 (.e 10 (.e 15 (.p 16 (.e 17 .done)))))) (.or 10 (.or 2 (.e 14 (.e 15 (.p 16 (.e 17 .done)))) (.e 14 (.or 2 (.e 15 (.p 16 (.e 17 .done))) (.e 15 (.e 2 (.p 16 (.e 17 .done))))))) (.e 14 (.or 2 (.e 10 (.e 15 (.p 16 (.e 17 .done)))) (.e 10 (.or 2 (.e 15 (.p 16 (.e 17 .done))) (.e 15 (.e 2 (.p 16 (.e 17 .done)))))))))))))))))))))),(22,[2,7,10],[17],true,(.p 0 (.p 1 (.q 2 (pZ9 3 4 (.q 7 (.p 8 (.p 9 (.q 10 (.p 11 (.e 12 (pZ9 13 4 (.e 17 .done)))))))))))))]}
noncomputable def Sw:G7:= [(79,K7),(85,T8),(125,S7),(122,Gb (NW ⟨prog,PZ⟩ [(44,DS,CY)] f122.results.toList (f122.body.getD .skip) f122.ntmps)),(123,Gb (NW ⟨prog,PZ⟩ [(51,DT,CZ)] f123.results.toList (f123.body.getD .skip) f123.ntmps)),(124,Gb (NW ⟨prog,PZ⟩ [(76,DU,DA)] f124.results.toList (f124.body.getD .skip) f124.ntmps))]
abbrev C0g:=(List (List EE)×List Nat)×Unit
abbrev C0r:=Int×(List (Int×Bool)×List (Int×Bool))×Unit
abbrev C0s:=Int×(List (List (Int×Bool))×List Nat)×List Int×Unit
abbrev JQ:=Int×(List (List (Int×Bool))×List Nat)×Unit
abbrev C0t:=Int×Int×(List (List (Int×Bool))×List Nat)×Unit
abbrev C0u:=Int×Int×Bool×List Int×List (List EE)×(List (List EE)×List Nat)×(List (List (Int×Bool))×List Nat)×Unit
abbrev C0z:=Int×List (List EE)×(List (List (Int×Bool))×List Nat)×Unit
abbrev C1a:=Int×List (List EE)×(List (List EE)×List Nat)×(List (List (Int×Bool))×List Nat)×Unit
abbrev C1d:=Int×List Int×List Int×List Int×List Int×List (List EE)×(List (List EE)×List Nat)×(List (List (Int×Bool))×List Nat)×Unit
abbrev C1h:=List (List EE)×(List (List EE)×List Nat)×Unit
abbrev C1k:=List Int×(List (Int×Bool)×List (Int×Bool))×Unit
abbrev C1l:=List Int×(List (List (Int×Bool))×List Nat)×Unit
abbrev C1n:=List Int×Int×List (List EE)×List (List EE)×(List (List EE)×List Nat)×Unit
abbrev C1o:=List Int×List (List EE)×(List (List EE)×List Nat)×(List (List (Int×Bool))×List Nat)×Unit
abbrev C1p:=List Int×List Int×List Int×Unit
def Iq:A2 M9.args->Prop:=fun(x:oR)=>let bg:=(64:Nat);let bd:=(281474976710656:Int);let ba:=x.1.2.1.toNat;let a6:=(6:Int);let a5:=(4:Int);let a4:=(9223372036854775807:Int);let ar:=(x.1.2.2.length:Int);let aa:=x.1.1.toNat;let X:=(140737488355328:Nat);let R:Prop:=(∀(v:List EE),v∈ []->Y5 v);let E:=(1:Int);let d:=(0:Int);let V:Prop:=(d<=x.1.2.1/\x.1.2.1<=x.1.2.1/\(↑(8:Nat):Int)*x.1.2.1<=bd/\x.1.2.1<=a4);let G:Prop:=(d<=x.1.1/\x.1.1<=x.1.1/\(↑(8:Nat):Int)*x.1.1<=bd/\x.1.1<=a4);let D:Prop:=(∀(s:Nat),(1:Nat)<=s->Di s x.1->∀(i j:Nat),i<x.1.1.toNat->qs (sK s x.1.1.toNat) (el (d,d,[]) i j)/\qs (sK s i) (el (d,d,[]) i j));let u:Prop:=(d<=x.1.1/\x.1.1<=x.1.1/\(↑(24:Nat):Int)*x.1.1<=bd/\x.1.1<=a4);True/\∀(r:X9),True/\True->r.1=decide (E8 x.1)->((!r.1)=true->(¬E8 x.1->([],[],(d,d,[]),d,d,[])=fF/\E=E)/\(E8 x.1->(x.1.1≠x.1.2.1->([],[],(d,d,[]),d,d,[])=fF/\E=a5)/\(x.1.1=x.1.2.1->(¬nonsing x.1.1.toNat (el x.1)->([],[],(d,d,[]),d,d,[])=fF/\E=a6)/\(nonsing x.1.1.toNat (el x.1)->Cl ([],[],(d,d,[]),d,d,[]) x.1.1/\E=d/\R/\R/\D/\∀(i j:Nat),i<x.1.1.toNat->j<x.1.1.toNat->luM ([],[],(d,d,[]),d,d,[]) x.1.1.toNat i j=el x.1 (ix [] i) (ix [] j)))))/\((!r.1)=false->(decide (x.1.1≠x.1.2.1)=true->(¬E8 x.1->([],[],(d,d,[]),d,d,[])=fF/\a5=E)/\(E8 x.1->(x.1.1≠x.1.2.1->([],[],(d,d,[]),d,d,[])=fF/\a5=a5)/\(x.1.1=x.1.2.1->(¬nonsing x.1.1.toNat (el x.1)->([],[],(d,d,[]),d,d,[])=fF/\a5=a6)/\(nonsing x.1.1.toNat (el x.1)->Cl ([],[],(d,d,[]),d,d,[]) x.1.1/\a5=d/\R/\R/\D/\∀(i j:Nat),i<x.1.1.toNat->j<x.1.1.toNat->luM ([],[],(d,d,[]),d,d,[]) x.1.1.toNat i j=el x.1 (ix [] i) (ix [] j)))))/\(decide (x.1.1≠x.1.2.1)=false->G/\G/\u/\u/\G/\u/\u/\V/\V/\∃(I:C0s->Prop),∃(μ: _->Nat),I (d,(List.replicate ba [],Pz (Ty.mp false (Ty.int i64) false Ty.bool) ba),List.replicate ba d,())/\∀(p:C0s),let ap:=p.1.toNat;(Ty.int i64).wf p.1/\p.2.1.1.length.le 9223372036854775807/\RB p.2.2.1/\True->I p->(decide (p.1<x.1.2.1)=true->(d<=p.1/\p.1<(↑p.2.1.1.length:Int))/\(d<=p.1/\p.1<(p.2.2.1.length:Int))/\I (i64.wrap (p.1+E),(p.2.1.1.set ap [],ND ap p.2.1.2),List.set p.2.2.1 ap p.1,())/\μ (i64.wrap (p.1+E),(p.2.1.1.set ap [],ND ap p.2.1.2),List.set p.2.2.1 ap p.1,())<μ p)/\(decide (p.1<x.1.2.1)=false->∃(I:C0z->Prop),∃(μ: _->Nat),I (d,List.replicate aa [],p.2.1,())/\∀(bn:C0z),let F:=(gx [] x.1.2.2 bn.1);let bl:=(↑F.length:Int);(Ty.int i64).wf bn.1/\Rb bn.2.1/\bn.2.2.1.1.length.le 9223372036854775807/\True->I bn->(decide (bn.1<ar)=true->(d<=bn.1/\bn.1<ar)/\Oj F/\∀(r:AC),OW r.1/\True->PP (A4 F) r.1->(d<=bn.1/\bn.1<(bn.2.1.length:Int))/\∃(I_1:JQ->Prop),∃(bt: _->Nat),I_1 (d,bn.2.2.1,())/\∀(p:JQ),let be:=(gx E9 F p.1);let al:=be.1.toNat;let ak:=(i64.wrap (bn.1+E),List.set bn.2.1 bn.1.toNat r.1,p.2.1,());(Ty.int i64).wf p.1/\p.2.1.1.length.le 9223372036854775807/\True->I_1 p->(decide (p.1<bl)=true->(d<=p.1/\p.1<bl)/\(d<=be.1/\be.1<(↑p.2.1.1.length:Int))/\¬Int.toNat be.1∈p.2.1.2/\I_1 (i64.wrap (p.1+E),(p.2.1.1.set al (Fc (Ty.int i64) bn.1 true (p.2.1.1.getD al [])),p.2.1.2),())/\bt (i64.wrap (p.1+E),(p.2.1.1.set al (Fc (Ty.int i64) bn.1 true (p.2.1.1.getD al [])),p.2.1.2),())<bt p)/\(decide (p.1<bl)=false->I ak/\μ ak<μ bn))/\(decide (bn.1<ar)=false->∃(I:C1d->Prop),∃(μ: _->Nat),I (d,p.2.2.1,List.replicate aa d,List.replicate aa d,List.replicate aa d,bn.2.1,(List.replicate aa [],Pz tE.sl aa),bn.2.2.1,())/\∀(b2:C1d),let aw:Prop:=(d<=b2.1/\b2.1<(b2.2.2.2.1.length:Int));let ab:=(b2.2.2.1.length:Int);let w:=(↑b2.2.1.length:Int);(Ty.int i64).wf b2.1/\(Ty.int i64).sl.wf b2.2.1/\RB b2.2.2.1/\RB b2.2.2.2.1/\RB b2.2.2.2.2.1/\Rb b2.2.2.2.2.2.1/\b2.2.2.2.2.2.2.1.1.length.le 9223372036854775807/\b2.2.2.2.2.2.2.2.1.1.length.le 9223372036854775807/\True->I b2->(decide (b2.1<x.1.1)=true->∃(J:C0u->Prop),(∃(J_1:JQ->Prop),(∃(I:C0t->Prop),∃(μ: _->Nat),I (d,d,b2.2.2.2.2.2.2.2.1,())/\∀(b1:C0t),let bk:=(↑b1.2.2.1.1.length:Int);let Z:=b1.1.toNat;let z:=b1.2.1.toNat;let K:Prop:=((↑(b1.2.2.1.1.getD (b2.2.1.getD z d).toNat []).length:Int)<(↑((b1.2.2.1.1.set (b2.2.1.getD z d).toNat (b1.2.2.1.1.getD (b2.2.1.getD z d).toNat [])).getD (b2.2.1.getD Z d).toNat []).length:Int));(Ty.int i64).wf b1.1/\(Ty.int i64).wf b1.2.1/\b1.2.2.1.1.length.le 9223372036854775807/\True->I b1->(decide (b1.2.1<w)=true->∃(J:JQ->Prop),((d<=b1.2.1/\b1.2.1<w)/\(d<=b2.2.1.getD z d/\b2.2.1.getD z d<bk)/\¬(b2.2.1.getD z d).toNat∈b1.2.2.1.2/\(b1.2.2.1.1.getD (b2.2.1.getD z d).toNat []).length<=9223372036854775807/\(d<=b1.1/\b1.1<w)/\(d<=b2.2.1.getD Z d/\b2.2.1.getD Z d<bk)/\¬(b2.2.1.getD Z d).toNat∈b1.2.2.1.2/\((b1.2.2.1.1.set (b2.2.1.getD z d).toNat (b1.2.2.1.1.getD (b2.2.1.getD z d).toNat [])).getD (b2.2.1.getD Z d).toNat []).length<=9223372036854775807/\(decide K=true->J (b1.2.1,((b1.2.2.1.1.set (b2.2.1.getD z d).toNat (b1.2.2.1.1.getD (b2.2.1.getD z d).toNat [])).set (b2.2.1.getD Z d).toNat ((b1.2.2.1.1.set (b2.2.1.getD z d).toNat (b1.2.2.1.1.getD (b2.2.1.getD z d).toNat [])).getD (b2.2.1.getD Z d).toNat []),b1.2.2.1.2),()))/\(decide K=false->J (b1.1,((b1.2.2.1.1.set (b2.2.1.getD z d).toNat (b1.2.2.1.1.getD (b2.2.1.getD z d).toNat [])).set (b2.2.1.getD Z d).toNat ((b1.2.2.1.1.set (b2.2.1.getD z d).toNat (b1.2.2.1.1.getD (b2.2.1.getD z d).toNat [])).getD (b2.2.1.getD Z d).toNat []),b1.2.2.1.2),())))/\∀(b5:JQ),let Q:=b5.1.toNat;let au:Prop:=((↑(b5.2.1.1.getD (b2.2.1.getD Q d).toNat []).length:Int)<=E);(Ty.int i64).wf b5.1/\b5.2.1.1.length.le 9223372036854775807/\True->J b5->(d<=b5.1/\b5.1<w)/\(d<=b2.2.1.getD Q d/\b2.2.1.getD Q d<(↑b5.2.1.1.length:Int))/\¬(b2.2.1.getD Q d).toNat∈b5.2.1.2/\(b5.2.1.1.getD (b2.2.1.getD Q d).toNat []).length<=9223372036854775807/\(decide au=true->J_1 (b5.1,(b5.2.1.1.set (b2.2.1.getD Q d).toNat (b5.2.1.1.getD (b2.2.1.getD Q d).toNat []),b5.2.1.2),()))/\(decide au=false->I (b5.1,i64.wrap (b1.2.1+E),(b5.2.1.1.set (b2.2.1.getD Q d).toNat (b5.2.1.1.getD (b2.2.1.getD Q d).toNat []),b5.2.1.2),())/\μ (b5.1,i64.wrap (b1.2.1+E),(b5.2.1.1.set (b2.2.1.getD Q d).toNat (b5.2.1.1.getD (b2.2.1.getD Q d).toNat []),b5.2.1.2),())<μ b1))/\(decide (b1.2.1<w)=false->J_1 (b1.1,b1.2.2.1,())))/\∀(b1:JQ),let am:=(i64.wrap (b1.1+E));let H:Prop:=((Int.toNat b1.1+(List.drop am.toNat (List.take w.toNat b2.2.1)).length)*(8:Nat)<=X/\Int.toNat b1.1+(List.drop am.toNat (List.take w.toNat b2.2.1)).length<=9223372036854775807);let B:=b1.1.toNat;let av:=(↑(b1.2.1.1.getD (b2.2.1.getD B d).toNat []).length:Int);(Ty.int i64).wf b1.1/\b1.2.1.1.length.le 9223372036854775807/\True->J_1 b1->(d<=b1.1/\b1.1<w)/\(d<=b2.2.1.getD B d/\b2.2.1.getD B d<(↑b1.2.1.1.length:Int))/\¬(b2.2.1.getD B d).toNat∈b1.2.1.2/\(b1.2.1.1.getD (b2.2.1.getD B d).toNat []).length<=9223372036854775807/\(decide (av=d)=true->J (d,d,false,b2.2.1,b2.2.2.2.2.2.1,b2.2.2.2.2.2.2.1,(b1.2.1.1.set (b2.2.1.getD B d).toNat (b1.2.1.1.getD (b2.2.1.getD B d).toNat []),b1.2.1.2),()))/\(decide (av=d)=false->(d<=b1.1/\b1.1<w)/\∃(J_2:C1o->Prop),((d<=d/\d<=b1.1/\b1.1<=w)/\(d<=i64.wrap (b1.1+E)/\i64.wrap (b1.1+E)<=w/\w<=w)/\(H/\J_2 (List.take B b2.2.1++List.drop am.toNat (List.take w.toNat b2.2.1),b2.2.2.2.2.2.1,b2.2.2.2.2.2.2.1,(b1.2.1.1.set (b2.2.1.getD B d).toNat (b1.2.1.1.getD (b2.2.1.getD B d).toNat []),b1.2.1.2),()))/\H/\J_2 (List.take B b2.2.1++List.drop am.toNat (List.take w.toNat b2.2.1),b2.2.2.2.2.2.1,b2.2.2.2.2.2.2.1,(b1.2.1.1.set (b2.2.1.getD B d).toNat (b1.2.1.1.getD (b2.2.1.getD B d).toNat []),b1.2.1.2),()))/\∀(b5:C1o),let ag:=(b5.2.1.length:Int);(Ty.int i64).sl.wf b5.1/\Rb b5.2.1/\b5.2.2.1.1.length.le 9223372036854775807/\b5.2.2.2.1.1.length.le 9223372036854775807/\True->J_2 b5->∃(J_3:JQ->Prop),((d<=b2.2.1.getD B d/\b2.2.1.getD B d<(↑b5.2.2.2.1.1.length:Int))/\¬(b2.2.1.getD B d).toNat∈b5.2.2.2.1.2/\∃(I:C0r->Prop),∃(μ: _->Nat),I ((-1:Int),(b5.2.2.2.1.1.getD (b2.2.1.getD B d).toNat [],b5.2.2.2.1.1.getD (b2.2.1.getD B d).toNat []),())/\∀(b6:C0r),let a0:=(decide (b6.1<d));let ay:=(↑(List.getD b5.2.1 b6.1.toNat []).length:Int);(Ty.int i64).wf b6.1/\(∀(x:Int×Bool),x∈b6.2.1.2->K9 x.1/\True)/\True->I b6->(b6.2.1.2= []->(false=true->False)/\(false=false->J_3 (b6.1,(b5.2.2.2.1.1.set (b2.2.1.getD B d).toNat b6.2.1.1,b5.2.2.2.1.2),())))/\∀(l1:List (Int×Bool)) (y:Int×Bool) (l2:List (Int×Bool)),let az:=(↑(List.getD b5.2.1 y.1.toNat []).length:Int);let aq:=(b6.2.1.1,l1++l2);let U:=(K8 (decide (az=ay)) (decide (y.1<b6.1)) false);let A:=(decide (az<ay));b6.2.1.2=l1++y::l2->(true=true->(decide (b6.1<d)=false->d<=y.1/\y.1<ag)/\(decide (b6.1<d)=false->d<=b6.1/\b6.1<ag)/\(K8 a0 true A=false->d<=y.1/\y.1<ag)/\(K8 a0 true A=false->d<=b6.1/\b6.1<ag)/\(K8 (K8 a0 true A) true U=true->I (y.1,aq,())/\μ (y.1,aq,())<μ b6)/\(K8 (K8 a0 true A) true U=false->I (b6.1,aq,())/\μ (b6.1,aq,())<μ b6))/\(true=false->J_3 (b6.1,(b5.2.2.2.1.1,(b2.2.1.getD B d).toNat::b5.2.2.2.1.2),())))/\∀(p:JQ),(Ty.int i64).wf p.1/\p.2.1.1.length.le 9223372036854775807/\True->J_3 p->J (p.1,b2.2.1.getD B d,true,b5.1,b5.2.1,b5.2.2.1,p.2.1,())))/\∀(b1:C0u),let ax:=b1.2.1.toNat;let ao:Prop:=(d<=b1.2.1/\b1.2.1<(b2.2.2.2.2.1.length:Int));let S:=(List.set b2.2.2.1 b2.1.toNat b1.1,List.set b2.2.2.2.1 b2.1.toNat b1.2.1,List.set b2.2.2.2.2.1 ax b2.1,());let g:=(List.getD b1.2.2.2.2.1 b1.1.toNat []);let an:=(↑g.length:Int);(Ty.int i64).wf b1.1/\(Ty.int i64).wf b1.2.1/\Ty.bool.wf b1.2.2.1/\(Ty.int i64).sl.wf b1.2.2.2.1/\Rb b1.2.2.2.2.1/\b1.2.2.2.2.2.1.1.length.le 9223372036854775807/\b1.2.2.2.2.2.2.1.1.length.le 9223372036854775807/\True->J b1->((!b1.2.2.1)=true->(¬E8 x.1->([],[],(d,d,[]),d,d,[])=fF/\a6=E)/\(E8 x.1->(x.1.1≠x.1.2.1->([],[],(d,d,[]),d,d,[])=fF/\a6=a5)/\(x.1.1=x.1.2.1->(¬nonsing x.1.1.toNat (el x.1)->([],[],(d,d,[]),d,d,[])=fF/\a6=a6)/\(nonsing x.1.1.toNat (el x.1)->Cl ([],[],(d,d,[]),d,d,[]) x.1.1/\a6=d/\R/\R/\D/\∀(i j:Nat),i<x.1.1.toNat->j<x.1.1.toNat->luM ([],[],(d,d,[]),d,d,[]) x.1.1.toNat i j=el x.1 (ix [] i) (ix [] j)))))/\((!b1.2.2.1)=false->∃(J:C1p->Prop),((d<=b2.1/\b2.1<ab)/\(aw/\ao/\J S)/\aw/\ao/\J S)/\∀(b5:C1p),RB b5.1/\RB b5.2.1/\RB b5.2.2.1/\True->J b5->(d<=b1.1/\b1.1<(b1.2.2.2.2.1.length:Int))/\∃(I_1:JQ->Prop),∃(bt: _->Nat),I_1 (d,b1.2.2.2.2.2.2.1,())/\∀(b6:JQ),let bm:=(↑b6.2.1.1.length:Int);let ai:=(gx E9 g b6.1);let a7:=ai.1.toNat;(Ty.int i64).wf b6.1/\b6.2.1.1.length.le 9223372036854775807/\True->I_1 b6->(decide (b6.1<an)=true->(d<=b6.1/\b6.1<an)/\(d<=ai.1/\ai.1<bm)/\¬Int.toNat ai.1∈b6.2.1.2/\I_1 (i64.wrap (b6.1+E),(b6.2.1.1.set a7 (Px (Ty.int i64) b1.1 (b6.2.1.1.getD a7 [])),b6.2.1.2),())/\bt (i64.wrap (b6.1+E),(b6.2.1.1.set a7 (Px (Ty.int i64) b1.1 (b6.2.1.1.getD a7 [])),b6.2.1.2),())<bt b6)/\(decide (b6.1<an)=false->CM K1 g/\∀(bp:G5),Xz bp.1/\True->bp.1=rc (A4 g b1.2.1)->E3 bp.1/\∀(bq:B4h),Xz bq.1/\True/\True->(rv bp.1=(0:Rat)->bq.2.1=false)/\(rv bp.1≠(0:Rat)->bq.1=rc (rv bp.1)⁻¹/\bq.2.1=true)->∃(J:C1l->Prop),((d<=b1.2.1/\b1.2.1<bm)/\¬Int.toNat b1.2.1∈b6.2.1.2/\∃(I:C1k->Prop),∃(μ: _->Nat),I ([],(b6.2.1.1.getD ax [],b6.2.1.1.getD ax []),())/\∀(p:C1k),(Ty.int i64).sl.wf p.1/\(∀(x:Int×Bool),x∈p.2.1.2->K9 x.1/\True)/\True->I p->(p.2.1.2= []->(false=true->False)/\(false=false->J (p.1,(b6.2.1.1.set ax p.2.1.1,b6.2.1.2),())))/\∀(l1:List (Int×Bool)) (y:Int×Bool) (l2:List (Int×Bool)),let a9:=(p.1++ [y.1],(p.2.1.1,l1++l2),());p.2.1.2=l1++y::l2->(true=true->((p.1.length+ [y.1].length)*(8:Nat)<=X/\p.1.length+ [y.1].length<=9223372036854775807)/\I a9/\μ a9<μ p)/\(true=false->J (p.1,(b6.2.1.1,Int.toNat b1.2.1::b6.2.1.2),())))/\∀(b3:C1l),let bb:=(↑b3.1.length:Int);(Ty.int i64).sl.wf b3.1/\b3.2.1.1.length.le 9223372036854775807/\True->J b3->∃(I_2:C1a->Prop),∃(bv: _->Nat),I_2 (d,b1.2.2.2.2.1,b1.2.2.2.2.2.1,b3.2.1,())/\∀(b4:C1a),let Y:=(i64.wrap (b2.1+E),b1.2.2.2.1,b5.1,b5.2.1,b5.2.2.1,b4.2.1,b4.2.2.1,b4.2.2.2.1,());let e:=b4.1.toNat;let W:Prop:=(d<=b3.1.getD e d/\b3.1.getD e d<(b4.2.1.length:Int));let L:=(List.getD b4.2.1 (b3.1.getD e d).toNat []);let h:Prop:=(d<=b3.1.getD e d/\b3.1.getD e d<(↑b4.2.2.1.1.length:Int));(Ty.int i64).wf b4.1/\Rb b4.2.1/\b4.2.2.1.1.length.le 9223372036854775807/\b4.2.2.2.1.1.length.le 9223372036854775807/\True->I_2 b4->(decide (b4.1<bb)=true->(d<=b4.1/\b4.1<bb)/\∃(J:JP->Prop),(W/\(CM K1 L/\∀(r:G5),Xz r.1/\True->r.1=rc (A4 L b1.2.1)->((E3 r.1/\E3 bq.1)/\∀(b9:G5),Xz b9.1/\True->b9.1=rc (rv r.1*rv bq.1)->J (b9.1.1.1,b9.1.1.2,b9.1.2,()))/\(E3 r.1/\E3 bq.1)/\∀(b9:G5),Xz b9.1/\True->b9.1=rc (rv r.1*rv bq.1)->J (b9.1.1.1,b9.1.1.2,b9.1.2,()))/\CM K1 L/\∀(r:G5),Xz r.1/\True->r.1=rc (A4 L b1.2.1)->(E3 r.1/\E3 bq.1)/\∀(b9:G5),Xz b9.1/\True->b9.1=rc (rv r.1*rv bq.1)->J (b9.1.1.1,b9.1.1.2,b9.1.2,()))/\∀(bs:JP),let bf:=(bs.1,bs.2.1);let l:=(b2.1,bf,bs.2.2.1);let a:Prop:=(((b4.2.2.1.1.getD (b3.1.getD e d).toNat []).length+ [l].length)*bg<=X/\(b4.2.2.1.1.getD (b3.1.getD e d).toNat []).length+ [l].length<=9223372036854775807);Ty.bool.wf bs.1/\(Ty.int u32).sl.wf bs.2.1/\(Ty.int u32).sl.wf bs.2.2.1/\True->J bs->∃(J:C0g->Prop),let n:Prop:=(¬(b3.1.getD e d).toNat∈b4.2.2.1.2/\a/\h/\(b3.1.getD e d).toNat=(b3.1.getD e d).toNat/\J ((b4.2.2.1.1.set (b3.1.getD e d).toNat (b4.2.2.1.1.getD (b3.1.getD e d).toNat []++ [l]),b4.2.2.1.2),()));let c:Prop:=(a/\h/\(b3.1.getD e d).toNat=(b3.1.getD e d).toNat/\J ((b4.2.2.1.1.set (b3.1.getD e d).toNat (b4.2.2.1.1.getD (b3.1.getD e d).toNat []++ [l]),b4.2.2.1.2),()));let P:Prop:=(c/\a/\h/\(b3.1.getD e d).toNat=(b3.1.getD e d).toNat/\J ((b4.2.2.1.1.set (b3.1.getD e d).toNat (b4.2.2.1.1.getD (b3.1.getD e d).toNat []++ [l]),b4.2.2.1.2),()));(h/\((n/\¬(b3.1.getD e d).toNat∈b4.2.2.1.2/\a/\h/\(b3.1.getD e d).toNat=(b3.1.getD e d).toNat/\J ((b4.2.2.1.1.set (b3.1.getD e d).toNat (b4.2.2.1.1.getD (b3.1.getD e d).toNat []++ [l]),b4.2.2.1.2),()))/\(¬(b3.1.getD e d).toNat∈b4.2.2.1.2/\c/\c/\a/\h/\(b3.1.getD e d).toNat=(b3.1.getD e d).toNat/\J ((b4.2.2.1.1.set (b3.1.getD e d).toNat (b4.2.2.1.1.getD (b3.1.getD e d).toNat []++ [l]),b4.2.2.1.2),()))/\n/\¬(b3.1.getD e d).toNat∈b4.2.2.1.2/\c/\a/\h/\(b3.1.getD e d).toNat=(b3.1.getD e d).toNat/\J ((b4.2.2.1.1.set (b3.1.getD e d).toNat (b4.2.2.1.1.getD (b3.1.getD e d).toNat []++ [l]),b4.2.2.1.2),()))/\(¬(b3.1.getD e d).toNat∈b4.2.2.1.2/\(c/\c/\a/\h/\(b3.1.getD e d).toNat=(b3.1.getD e d).toNat/\J ((b4.2.2.1.1.set (b3.1.getD e d).toNat (b4.2.2.1.1.getD (b3.1.getD e d).toNat []++ [l]),b4.2.2.1.2),()))/\P/\a/\h/\(b3.1.getD e d).toNat=(b3.1.getD e d).toNat/\J ((b4.2.2.1.1.set (b3.1.getD e d).toNat (b4.2.2.1.1.getD (b3.1.getD e d).toNat []++ [l]),b4.2.2.1.2),()))/\(n/\¬(b3.1.getD e d).toNat∈b4.2.2.1.2/\c/\a/\h/\(b3.1.getD e d).toNat=(b3.1.getD e d).toNat/\J ((b4.2.2.1.1.set (b3.1.getD e d).toNat (b4.2.2.1.1.getD (b3.1.getD e d).toNat []++ [l]),b4.2.2.1.2),()))/\¬(b3.1.getD e d).toNat∈b4.2.2.1.2/\P/\a/\h/\(b3.1.getD e d).toNat=(b3.1.getD e d).toNat/\J ((b4.2.2.1.1.set (b3.1.getD e d).toNat (b4.2.2.1.1.getD (b3.1.getD e d).toNat []++ [l]),b4.2.2.1.2),()))/\∀(bw:C0g),bw.1.1.length.le 9223372036854775807/\True->J bw->W/\E3 (bf,bs.2.2.1)/\∀(b9:G5),Xz b9.1/\True->b9.1=rc (-rv (bf,bs.2.2.1))->(CM K1 L/\sz K1 b9.1/\CM K1 g)/\∀(bu:AC),let O:=(List.set b4.2.1 (b3.1.getD e d).toNat bu.1);let af:=(↑(O.getD (b3.1.getD e d).toNat []).length:Int);OW bu.1/\True->PP (fun(i:Int)=>A4 L i+rv b9.1*A4 g i) bu.1->W/\∃(I:JQ->Prop),∃(μ: _->Nat),I (d,b4.2.2.2.1,())/\∀(b7:JQ),let ah:=(gx E9 g b7.1);let a8:=ah.1.toNat;(Ty.int i64).wf b7.1/\b7.2.1.1.length.le 9223372036854775807/\True->I b7->(decide (b7.1<an)=true->(d<=b7.1/\b7.1<an)/\(d<=ah.1/\ah.1<(↑b7.2.1.1.length:Int))/\¬Int.toNat ah.1∈b7.2.1.2/\I (i64.wrap (b7.1+E),(b7.2.1.1.set a8 (Px (Ty.int i64) (b3.1.getD e d) (b7.2.1.1.getD a8 [])),b7.2.1.2),())/\μ (i64.wrap (b7.1+E),(b7.2.1.1.set a8 (Px (Ty.int i64) (b3.1.getD e d) (b7.2.1.1.getD a8 [])),b7.2.1.2),())<μ b7)/\(decide (b7.1<an)=false->(d<=b3.1.getD e d/\b3.1.getD e d<(↑O.length:Int))/\∃(I:JQ->Prop),∃(μ: _->Nat),I (d,b7.2.1,())/\∀(b8:JQ),let ac:=(i64.wrap (b4.1+E),List.set b4.2.1 (b3.1.getD e d).toNat bu.1,bw.1,b8.2.1,());let m:=(gx E9 (O.getD (b3.1.getD e d).toNat []) b8.1);let bc:=m.1.toNat;(Ty.int i64).wf b8.1/\b8.2.1.1.length.le 9223372036854775807/\True->I b8->(decide (b8.1<af)=true->(d<=b8.1/\b8.1<af)/\(d<=m.1/\m.1<(↑b8.2.1.1.length:Int))/\¬Int.toNat m.1∈b8.2.1.2/\I (i64.wrap (b8.1+E),(b8.2.1.1.set bc (Fc (Ty.int i64) (b3.1.getD e d) true (b8.2.1.1.getD bc [])),b8.2.1.2),())/\μ (i64.wrap (b8.1+E),(b8.2.1.1.set bc (Fc (Ty.int i64) (b3.1.getD e d) true (b8.2.1.1.getD bc [])),b8.2.1.2),())<μ b8)/\(decide (b8.1<af)=false->I_2 ac/\bv ac<bv b4)))/\(decide (b4.1<bb)=false->I Y/\μ Y<μ b2))))/\(decide (b2.1<x.1.1)=false->∃(I:C1n->Prop),∃(μ: _->Nat),I (b2.2.2.2.2.1,d,List.replicate aa [],List.replicate aa [],b2.2.2.2.2.2.2.1,())/\∀(b1:C1n),let bh:=(x.1.1,x.1.1,b1.2.2.1);let a1:=(b1.1.length:Int);let t:=b1.2.1.toNat;let o:=(b2.2.2.1,b2.2.2.2.1,bh,x.1.1,x.1.1,b1.2.2.2.1);let k:Prop:=(d<=b1.2.1/\b1.2.1<(b1.2.2.1.length:Int));let b:=(List.getD b2.2.2.1 t d);let aj:=(List.getD b2.2.2.2.2.2.1 b.toNat []);(Ty.int i64).sl.wf b1.1/\(Ty.int i64).wf b1.2.1/\Rb b1.2.2.1/\Rb b1.2.2.2.1/\b1.2.2.2.2.1.1.length.le 9223372036854775807/\True->I b1->(decide (b1.2.1<ab)=true->(d<=b1.2.1/\b1.2.1<ab)/\∃(J:C1h->Prop),((d<=List.getD b2.2.2.1 t d/\List.getD b2.2.2.1 t d<(↑b1.2.2.2.2.1.1.length:Int))/\((¬b.toNat∈b1.2.2.2.2.1.2/\True/\∀(r:G5),let bi:=(b1.2.1,r.1);Xz r.1/\True->r.1=ri E->(((b1.2.2.2.2.1.1.getD b.toNat []).length+ [bi].length)*bg<=X/\(b1.2.2.2.2.1.1.getD b.toNat []).length+ [bi].length<=9223372036854775807)/\k/\J (List.set b1.2.2.1 t (b1.2.2.2.2.1.1.getD b.toNat []++ [bi]),(b1.2.2.2.2.1.1,b.toNat::b1.2.2.2.2.1.2),()))/\True/\∀(r:G5),let a2:=(b1.2.1,r.1);let M:Prop:=(((b1.2.2.2.2.1.1.getD b.toNat []).length+ [a2].length)*bg<=X/\(b1.2.2.2.2.1.1.getD b.toNat []).length+ [a2].length<=9223372036854775807);Xz r.1/\True->r.1=ri E->(¬b.toNat∈b1.2.2.2.2.1.2/\M/\k/\J (List.set b1.2.2.1 t (b1.2.2.2.2.1.1.getD b.toNat []++ [a2]),(b1.2.2.2.2.1.1,b.toNat::b1.2.2.2.2.1.2),()))/\¬b.toNat∈b1.2.2.2.2.1.2/\M/\k/\J (List.set b1.2.2.1 t (b1.2.2.2.2.1.1.getD b.toNat []++ [a2]),(b1.2.2.2.2.1.1,b.toNat::b1.2.2.2.2.1.2),()))/\(¬b.toNat∈b1.2.2.2.2.1.2/\(True/\∀(r:G5),let bj:=(b1.2.1,r.1);Xz r.1/\True->r.1=ri E->(((b1.2.2.2.2.1.1.getD b.toNat []).length+ [bj].length)*bg<=X/\(b1.2.2.2.2.1.1.getD b.toNat []).length+ [bj].length<=9223372036854775807)/\k/\J (List.set b1.2.2.1 t (b1.2.2.2.2.1.1.getD b.toNat []++ [bj]),(b1.2.2.2.2.1.1,b.toNat::b1.2.2.2.2.1.2),()))/\True/\∀(r:G5),let a3:=(b1.2.1,r.1);let q:Prop:=(((b1.2.2.2.2.1.1.getD b.toNat []).length+ [a3].length)*bg<=X/\(b1.2.2.2.2.1.1.getD b.toNat []).length+ [a3].length<=9223372036854775807);let T:Prop:=(q/\k/\J (List.set b1.2.2.1 t (b1.2.2.2.2.1.1.getD b.toNat []++ [a3]),(b1.2.2.2.2.1.1,b.toNat::b1.2.2.2.2.1.2),()));Xz r.1/\True->r.1=ri E->T/\T/\q/\k/\J (List.set b1.2.2.1 t (b1.2.2.2.2.1.1.getD b.toNat []++ [a3]),(b1.2.2.2.2.1.1,b.toNat::b1.2.2.2.2.1.2),()))/\True/\∀(r:G5),let ae:=(b1.2.1,r.1);let f:Prop:=(((b1.2.2.2.2.1.1.getD b.toNat []).length+ [ae].length)*bg<=X/\(b1.2.2.2.2.1.1.getD b.toNat []).length+ [ae].length<=9223372036854775807);let N:Prop:=(¬b.toNat∈b1.2.2.2.2.1.2/\f/\k/\J (List.set b1.2.2.1 t (b1.2.2.2.2.1.1.getD b.toNat []++ [ae]),(b1.2.2.2.2.1.1,b.toNat::b1.2.2.2.2.1.2),()));let C:Prop:=(f/\k/\J (List.set b1.2.2.1 t (b1.2.2.2.2.1.1.getD b.toNat []++ [ae]),(b1.2.2.2.2.1.1,b.toNat::b1.2.2.2.2.1.2),()));Xz r.1/\True->r.1=ri E->(N/\¬b.toNat∈b1.2.2.2.2.1.2/\f/\k/\J (List.set b1.2.2.1 t (b1.2.2.2.2.1.1.getD b.toNat []++ [ae]),(b1.2.2.2.2.1.1,b.toNat::b1.2.2.2.2.1.2),()))/\(¬b.toNat∈b1.2.2.2.2.1.2/\C/\C/\f/\k/\J (List.set b1.2.2.1 t (b1.2.2.2.2.1.1.getD b.toNat []++ [ae]),(b1.2.2.2.2.1.1,b.toNat::b1.2.2.2.2.1.2),()))/\N/\¬b.toNat∈b1.2.2.2.2.1.2/\C/\f/\k/\J (List.set b1.2.2.1 t (b1.2.2.2.2.1.1.getD b.toNat []++ [ae]),(b1.2.2.2.2.1.1,b.toNat::b1.2.2.2.2.1.2),()))/\∀(b5:C1h),Rb b5.1/\b5.2.1.1.length.le 9223372036854775807/\True->J b5->(d<=List.getD b2.2.2.1 t d/\List.getD b2.2.2.1 t d<(b2.2.2.2.2.2.1.length:Int))/\(CM K1 aj/\List.length b1.1<=100000)/\∀(bp:List EE×Bool×Unit),let ad:=(b1.1,i64.wrap (b1.2.1+E),b5.1,List.set b1.2.2.2.1 t bp.1,b5.2.1,());OW bp.1/\True/\True->(L5 b1.1 a1->(∀(j:Int),A4 aj j≠(0:Rat)->d<=j/\j<a1)->PP (fun(i:Int)=>if d<=i/\i<a1 then A4 aj (↑(List.idxOf i b1.1):Int)else(0:Rat)) bp.1/\bp.2.1=true)->(d<=b1.2.1/\b1.2.1<(b1.2.2.2.1.length:Int))/\I ad/\μ ad<μ b1)/\(decide (b1.2.1<ab)=false->(¬E8 x.1->o=fF/\d=E)/\(E8 x.1->(x.1.1≠x.1.2.1->o=fF/\d=a5)/\(x.1.1=x.1.2.1->(¬nonsing x.1.1.toNat (el x.1)->o=fF/\d=a6)/\(nonsing x.1.1.toNat (el x.1)->Cl o x.1.1/\d=d/\(∀(v:List EE),v∈b1.2.2.1->Y5 v)/\(∀(v:List EE),v∈b1.2.2.2.1->Y5 v)/\(∀(s:Nat),(1:Nat)<=s->Di s x.1->∀(i j:Nat),i<x.1.1.toNat->qs (sK s x.1.1.toNat) (el bh i j)/\qs (sK s i) (el (x.1.1,x.1.1,b1.2.2.2.1) i j))/\∀(i j:Nat),i<x.1.1.toNat->j<x.1.1.toNat->luM o x.1.1.toNat i j=el x.1 (ix b2.2.2.1 i) (ix b2.2.2.2.1 j))))))))))
def DY (x:A2 M9.args):B3p prog PZ Sw Rc M9 f78 x=Iq x:=by kernel_rfl
def C2q (n:Nat) (M:Dj) (rest:List Int) (rows lower:List (List D0)) (cols:List R1) (q:Int×Int×Bool×List Int×List (List D0)×NR×NB×Unit):Prop:=q.2.2.2.2.1=rows/\q.2.2.2.2.2.1.1=lower/\fE n q.2.2.2.2.2.1.2/\q.2.2.2.2.2.2.1.1=cols/\fE n q.2.2.2.2.2.2.1.2/\(q.2.2.1=false->¬nonsing n (el M))/\(q.2.2.1=true->q.2.1∈rest/\q.1∈Q3 (cols.getD q.2.1.toNat [])/\q.2.2.2.1.Nodup/\∀x,x∈q.2.2.2.1↔x∈rest/\x≠q.2.1)
def B4w (n:Nat) (rest:List Int) (cols:List R1) (q:Int×NB×Unit):Prop:=0<=q.1/\q.1<(rest.length:Int)/\q.2.1.1=cols/\fE n q.2.1.2
def B8z (n:Nat) (rest:List Int) (cols:List R1) (q:Int×Int×NB×Unit):Prop:=0<=q.1/\q.1<(rest.length:Int)/\0<=q.2.1/\q.2.1<=(rest.length:Int)/\q.2.2.1.1=cols/\fE n q.2.2.1.2
def C2r (n:Nat) (rest:List Int) (b:Nat) (rows lower:List (List D0)) (cols:List R1) (q:List Int×List (List D0)×NR×NB×Unit):Prop:=q.1=rest.take b++rest.drop (b+1)/\q.2.1=rows/\q.2.2.1.1=lower/\fE n q.2.2.1.2/\q.2.2.2.1.1=cols/\fE n q.2.2.2.1.2
def C3a (es:R1) (q:Int×(R1×R1)×Unit):Prop:=q.2.1.1=es/\(∀y∈q.2.1.2,y∈es)/\((q.1<0/\q.2.1.2.length=es.length)\/q.1∈Q3 es)
def C3b (n:Nat) (cols:List R1) (c:Int) (q:Int×NB×Unit):Prop:=q.1∈Q3 (cols.getD c.toNat [])/\q.2.1.1=cols/\fE n q.2.1.2
def C2y (es:R1) (q:List Int×(R1×R1)×Unit):Prop:=q.2.1.1=es/\(q.1++Q3 q.2.1.2).Perm (Q3 es)
def C2z (n:Nat) (cols:List R1) (c:Int) (q:List Int×NB×Unit):Prop:=q.1.Perm (Q3 (cols.getD c.toNat []))/\q.2.1.1=cols/\fE n q.2.1.2
def I0 (n:Nat) (M:Dj) (k:Nat) (rest P:List Int) (rows lower:List (List D0)) (r c:Int) (u:List Int) (q:Int×List (List D0)×NR×NB×Unit):Prop:=0<=q.1/\q.1<=(u.length:Int)/\(∀s,1<=s->Di s M->CI n k (sK s k) rest P rows lower r c (u.take q.1.toNat) q.2.1 q.2.2.1.1 q.2.2.2.1.1)/\fE n q.2.2.1.2/\fE n q.2.2.2.1.2
def B9d (x:Rat) (q:Bool×List Int×List Int×Unit):Prop:=((q.1,q.2.1),q.2.2.1)=rc x
def C2s (n:Nat) (P place:List Int) (rows lower:List (List D0)) (q:List Int×Int×List (List D0)×List (List D0)×NR×Unit):Prop:=q.1=place/\0<=q.2.1/\q.2.1<=(n:Int)/\q.2.2.1.length=n/\q.2.2.2.1.length=n/\q.2.2.2.2.1.1=lower/\(∀m∈q.2.2.2.2.1.2,n<=m\/∃a:Nat,(a:Int)<q.2.1/\m=ix P a)/\(∀a:Nat,(a:Int)<q.2.1->q.2.2.1.getD a []=lower.getD (ix P a) []++ [((a:Int),rc 1)])/\∀a:Nat,(a:Int)<q.2.1->PP (fun i=>if 0<=i/\i<(n:Int)then A4 (rows.getD (ix P a) []) ((List.idxOf i place:Nat):Int)else 0) (q.2.2.2.1.getD a [])
def EI.okFin {n k:Nat} {S:Nat->Nat} {A:Nat->Nat->Rat} {rest P Q place:List Int} {rows lower:List (List D0)} {cols:List R1} (h:EI n k S A rest P Q place rows lower cols) (hn:n<=16384) {a:Nat} (ha:a<k) (hS:S a<=K1):CM K1 (rows.getD (ix P a) []):=by
 obtain⟨u,g2,_⟩:=h.can _ (h.elim.plt a ha);have:=Fw (n:=(n:Int)) (v:=rows.getD (ix P a) []) ⟨u.1,fun e he=>⟨(g2 e he).1,(g2 e he).2,(u.2 e he).1⟩⟩;exact⟨u.1,IH u fun j=>N3 (h.fin a ha j) hS,by omega⟩
def EI.cnt {n k:Nat} {S:Nat->Nat} {A:Nat->Nat->Rat} {rest P Q place:List Int} {rows lower:List (List D0)} {cols:List R1} (h:EI n k S A rest P Q place rows lower cols) (hn:n<=16384) {i:Int} (i0:0<=i) (i1:i<(rest.length:Int)):(0<=rest.getD i.toNat 0/\rest.getD i.toNat 0<((cols.length:Nat):Int))/\(rest.getD i.toNat 0).toNat<n/\(cols.getD (rest.getD i.toNat 0).toNat []).length<=9223372036854775807/\rest.getD i.toNat 0∈rest:=by
 have u:rest.getD i.toNat 0∈rest:=C6 (by omega);obtain⟨c0,c1⟩:=h.crange u;have:=h.colLen u;rw[h.lcols];exact⟨⟨c0,c1⟩,by omega,by omega,u⟩
set_option maxHeartbeats 4000000
def DZ (x:A2 M9.args) (hw:awf M9.args x) (hp:M9.pre x):Iq x:=by
 obtain⟨⟨R,C,D⟩,_⟩:=x;have dx:nA (R,C,D):=IP hw.1.2.2.2;change Int at R C;change List (List D0)at D;obtain⟨s0,cb,hs,eh,ac⟩:=hp;simp only[Iq];refine⟨trivial, ?_⟩;rintro⟨r,_⟩ _ hr;simp only at hr⊢;by_cases hv:E8 (R,C,D)
 case neg=>
  have hr:r=false:=by rw[hr];exact rJ hv
  rw[hr];exact⟨fun _=>⟨fun _=>⟨rfl,trivial⟩,fun h=>absurd h hv⟩,fun h=>(by cases h)⟩
 have hr:r=true:=by rw[hr];exact rK hv
 rw[hr];obtain⟨v1,v2,v3,v4,v5,v6⟩:=id hv;simp only at v1 v2 v3 v4 v5 v6;refine⟨fun h=>(by cases h),fun _=>⟨fun bm=> ?_,fun c2=> ?_⟩⟩
 . have bm:=qA bm;exact⟨fun h=>absurd hv h,fun _=>⟨fun _=>⟨rfl,trivial⟩,fun h=>absurd h bm⟩⟩
 have c2:R=C:=qU (qB c2);subst c2;obtain⟨n,rfl⟩:∃n:Nat,R=(n:Int):=⟨R.toNat,by omega⟩;have ac:sK s0 (n-1)<=K1:=ac hv rfl;simp only[qM];have c8:0<=(n:Int)/\(n:Int)<=(n:Int)/\8*(n:Int)<=281474976710656/\(n:Int)<=9223372036854775807:=⟨by omega,qI _,by omega,by omega⟩;have bf:0<=(n:Int)/\(n:Int)<=(n:Int)/\24*(n:Int)<=281474976710656/\(n:Int)<=9223372036854775807:=⟨by omega,qI _,by omega,by omega⟩;refine⟨c8,c8,bf,bf,c8,bf,bf,c8,c8,IS n,fun p=>((n:Int)-p.1).toNat,IS.init, ?_⟩;rintro⟨t,⟨cols,dd⟩,left,_⟩ _ hm;change Int at t;change List R1 at cols;simp only;have bk:=hm.1;have cy:=hm.2.1;have dy:cols.length=n:=hm.2.2.1;have dz:left.length=n:=hm.2.2.2.2.2.1;simp only at bk cy;refine⟨fun ht=> ?_,fun ht=> ?_⟩
 . have ht:=qA ht;rw[wv (by omega)];exact⟨⟨bk,by omega⟩,⟨bk,by omega⟩,hm.next ht,by omega⟩
 have ht:=qB ht;have c9:(n:Int)<=t:=by omega
 have fi:(D.length:Int)=(n:Int):=v5;refine⟨ES n D,fun p=>((n:Int)-p.1).toNat,ES.init hm c9, ?_⟩;rintro⟨u,rs,⟨cols1,cj⟩,_⟩ _ ar;change Int at u;change List (List D0)at rs;change List R1 at cols1;simp only;have ag:=ar.1;have bu:=ar.2.1;have da:rs.length=n:=ar.2.2.1;simp only at ag bu;refine⟨fun hu=> ?_,fun hu=> ?_⟩
 . have hu:=qA hu;have ei:u<(n:Int):=by omega
   have c7:=I3 (d:=([]:List D0)) ag hu;rw[cT ag hu]at c7⊢;have ce:=v6 _ c7;have ae:=eO hv hs c7;refine⟨⟨ag,hu⟩, .inl ⟨ae.1,fun e he=>F9 (ae.2.1 e he) eh,ae.2.2⟩, ?_⟩;rintro⟨w,_⟩ _ hw;change List D0 at w;simp only at hw⊢;refine⟨⟨ag,by omega⟩,NP n (fun i=>A4 (D.getD i [])) u (D.getD u.toNat []),fun p=>(((D.getD u.toNat []).length:Int)-p.1).toNat,ar.row, ?_⟩;rintro⟨t2,⟨cols2,ck⟩,_⟩ _ hf;change Int at t2;change List R1 at cols2;simp only;have dt:=hf.1;have du:=hf.2.1;simp only at dt du;have dc:∀e∈D.getD u.toNat [],0<=e.1/\e.1<(n:Int):=fun e he=>⟨(ce.2 e he).1,(ce.2 e he).2.1⟩
   have e7:=ae.2.2;refine⟨fun h2=> ?_,fun h2=> ?_⟩
   . have h2:=qA h2;rw[wv (by omega)];obtain⟨q1,q2,q3⟩:=hf.rng dc h2;exact⟨q1,q2,q3,hf.next dc h2,by omega⟩
   . have h2:=qB h2;rw[wv (by omega)];exact⟨ar.next ei ce hw hf (by omega),by omega⟩
 have hu:=qB hu;have cz:(n:Int)<=u:=by omega
 refine⟨B2z n ((n:Int),(n:Int),D),fun p=>((n:Int)-p.1).toNat,B2z.init hv dx rfl rfl hm c9 ar cz, ?_⟩;clear hm bk cy dy dz ar ag bu da ht c9 hu cz;rintro⟨k,rest,P,Q,place,rows,⟨lower,ff⟩,⟨cols,dd⟩,_⟩ _ ⟨k0,k1,hE,f1,f2⟩;change Int at k;change List Int at rest P Q place;change List (List D0)at rows lower;change List R1 at cols;simp only at k0 k1 hE f1 f2⊢;have a5:=hE s0 cb hs;refine⟨fun hk=> ?_,fun hk=> ?_⟩
 . have hk:=qA hk;have c6:k.toNat<n:=by omega
   have b7:sK s0 k.toNat<=K1:=qZ (CP (by omega)) ac;have ee:=a5.more c6;have a9:=a5.lrows;have bb:=a5.llow;have ax:=a5.lcols;have fp:rest.length<=n:=CL a5.rnd fun x hx=>a5.crange hx
   refine⟨C2q n ((n:Int),(n:Int),D) rest rows lower cols,⟨B4w n rest cols,⟨B8z n rest cols,fun q=>((rest.length:Int)-q.2.1).toNat,⟨qI _,by simp only;omega,qI _,by simp only;omega,rfl,f2⟩, ?_⟩, ?_⟩, ?_⟩
   . rintro⟨b,j,⟨ab,dd'⟩,_⟩ _ ⟨b0,b1,j0,j1,rfl,f3⟩;change Int at b j;simp only at b0 b1 j0 j1 f3⊢;refine⟨fun hj=> ?_,fun hj=>⟨b0,b1,rfl,f3⟩⟩;have hj:=qA hj;obtain⟨a1,a2,a3,a4⟩:=a5.cnt (by omega) j0 hj;obtain⟨d1,d2,d3,d4⟩:=a5.cnt (by omega) b0 b1;simp only[JJ];refine⟨B4w n rest ab,⟨⟨j0,hj⟩,a1,f3 _ a2,a3,⟨b0,b1⟩,d1,f3 _ d2,d3,fun _=>⟨j0,hj,rfl,f3⟩,fun _=>⟨b0,b1,rfl,f3⟩⟩, ?_⟩;rintro⟨b',⟨cols2,ck⟩,_⟩ _ ⟨b2,b3,rfl,f4⟩;change Int at b';simp only at b2 b3 f4⊢;obtain⟨e1,e2,e3,e4⟩:=a5.cnt (by omega) b2 b3;rw[wv (by omega)];exact⟨⟨b2,b3⟩,e1,f4 _ e2,e3,fun _=>⟨b2,b3,rfl,f4⟩,fun _=>⟨⟨b2,b3,by simp only;omega,by simp only;omega,rfl,f4⟩,by omega⟩⟩
   . rintro⟨b,⟨ab,dd'⟩,_⟩ _ ⟨b0,b1,rfl,f3⟩;change Int at b;simp only at b0 b1 f3⊢;obtain⟨a1,a2,a3,a4⟩:=a5.cnt (by omega) b0 b1;simp only[JJ];refine⟨⟨b0,b1⟩,a1,f3 _ a2,a3,fun h0=> ?_,fun h0=> ?_⟩
     . have h0:=qA h0;exact⟨rfl,rfl,f1,rfl,f3,fun _=>a5.stuck a4 (qO (g3h.1 h0)),fun h=>(by cases h)⟩
     have h0:=qB h0;rw[wv (by omega)];simp only[qM,uR];rw[show(b+1).toNat=b.toNat+1 from by omega];have ba:b.toNat+(List.drop (b.toNat+1) rest).length<=n:=by rw[sN];omega
     generalize hc:rest.getD b.toNat 0=c at*;obtain⟨c0,c1⟩:=a5.crange a4;have aq:=a5.pick (b:=b.toNat) (by omega);rw[hc]at aq;refine⟨⟨b0,b1⟩,C2r n rest b.toNat rows lower ab,⟨⟨qI _,b0,by omega⟩,⟨by omega,by omega,qI _⟩,⟨⟨by omega,by omega⟩,rfl,rfl,rfl,f1,rfl,f3⟩,⟨by omega,by omega⟩,rfl,rfl,rfl,f1,rfl,f3⟩, ?_⟩;rintro⟨ci,be,⟨df,et⟩,⟨cols2,ck⟩,_⟩ _ ⟨g1,rfl,rfl,g2,rfl,g3⟩;change List Int at ci;simp only at g1 g2 g3⊢;obtain⟨fl,co⟩:=a5.col c a4;have ef:∀y:Int×Bool,y∈cols2.getD c.toNat []->0<=y.1/\y.1<(be.length:Int):=fun y hy=>by
      obtain⟨x0,x1,_⟩:=(co y.1).1 (iY hy);rw[a9];exact⟨x0,x1⟩
     have bm:0<(cols2.getD c.toNat []).length:=by
      rcases vG (cols2.getD c.toNat []).length with hz|hz
      . exact absurd (g3h.2 hz) h0
      . exact hz
     have bx:c<(cols2.length:Int):=by rw[ax];exact c1
     refine⟨C3b n cols2 c,⟨⟨c0,bx⟩,g3 _ a2,C3a (cols2.getD c.toNat []),fun q=>q.2.1.2.length,⟨rfl,fun y hy=>hy, .inl ⟨by show(-1:Int)<0;decide,rfl⟩⟩, ?_⟩, ?_⟩
     . rintro⟨i,⟨es,left⟩,_⟩ _ ⟨rfl,i1,i2⟩;change Int at i;change R1 at left;simp only at i1 i2⊢;refine⟨fun hl=>⟨fun h=>(by cases h),fun _=>⟨?_,JJ _ _ _,g3⟩⟩,fun l1 y l2 hl=>⟨fun _=> ?_,fun h=>(by cases h)⟩⟩
       . rcases i2 with⟨_,i2⟩ |i2
         . rw[hl]at i2;simp only[xI]at i2;omega
         . exact i2
       have hy:=ef y (i1 y (by rw[hl];simp));have ej:y.1∈Q3 (cols2.getD c.toNat []):=iY (i1 y (by rw[hl];simp));have bv:∀z∈l1++l2,z∈cols2.getD c.toNat []:=fun z hz=>i1 z (by
        rw[hl];rcases rA.1 hz with hz|hz
        . exact sM _ hz
        . exact tI _ (qJ _ hz))
       have ay:(l1++l2).length<left.length:=by rw[hl,rP,rP,rH];omega
       have aj:¬i<0->i∈Q3 (cols2.getD c.toNat [])/\0<=i/\i<(be.length:Int):=fun h=>by
        rcases i2 with⟨h2,_⟩ |h2
        . exact absurd h2 h
        . obtain⟨x0,x1,_⟩:=(co i).1 h2;rw[a9];exact⟨h2,x0,x1⟩
       have e0:∀ {q:Bool},K8 (decide (i<0)) true q=false->¬i<0:=fun {q} h h2=>by
        rw[rK h2]at h;cases h
       refine⟨fun _=>hy,fun h=>(aj (qB h)).2,fun _=>hy,fun h=>(aj (e0 h)).2,fun _=>⟨⟨rfl,bv, .inr ej⟩,ay⟩,fun h=>⟨⟨rfl,bv, .inr (aj ?_).1⟩,ay⟩⟩;intro h2;rw[rK h2]at h;cases h
     . rintro⟨i,⟨dj,f0⟩,_⟩ _ ⟨i1,rfl,i3⟩;exact⟨rfl,rfl,g2,rfl,i3,fun h=>(by cases h),fun _=>⟨a4,i1,g1▸aq.1,g1▸aq.2⟩⟩
   . rintro⟨r,c,ok,ch,a0,⟨a6,b6⟩,⟨ab,dd'⟩,_⟩ _ ⟨rfl,rfl,f3,rfl,f4,n1,n2⟩;change Int at r c;change Bool at ok;change List Int at ch;simp only at f3 f4 n1 n2⊢;cases ok with
     |false=>exact⟨fun _=>⟨fun h=>absurd hv h,fun _=>⟨fun h=>absurd rfl h,fun _=>⟨fun _=>⟨rfl,trivial⟩,fun h=>absurd h (n1 rfl)⟩⟩⟩,fun h=>(by cases h)⟩
     |true=>
     obtain⟨hc,hr,ec,ed⟩:=n2 rfl;obtain⟨c0,c1⟩:=a5.crange hc;obtain⟨r0,r1,r2,r3⟩:=a5.row hc hr;have dn:=a5.lP;have fj:=a5.lQ;have bq:=a5.lpl;refine⟨fun h=>(by cases h),fun _=> ?_⟩;have p1:0<=k/\k<(P.length:Int):=⟨k0,by omega⟩;have p2:0<=k/\k<(Q.length:Int):=⟨k0,by omega⟩;have p3:0<=c/\c<(place.length:Int):=⟨c0,by omega⟩;refine⟨fun q=>q.1=P.set k.toNat r/\q.2.1=Q.set k.toNat c/\q.2.2.1=place.set c.toNat k,⟨p1,⟨p2,p3,rfl,rfl,rfl⟩,p2,p3,rfl,rfl,rfl⟩, ?_⟩;rintro⟨P',Q',az,_⟩ _ ⟨e1,e2,e3⟩;simp only at e1 e2 e3⊢;have bd:CM K1 (a0.getD r.toNat []):=a5.okRow b7 (by omega) (by omega);have ak:∀e∈a0.getD r.toNat [],0<=e.1/\e.1<(n:Int):=(a5.can r.toNat (by omega)).2.1;have d7:=(a5.can r.toNat (by omega)).2.2;have d6:X8 a0 r.toNat c.toNat=A4 (a0.getD r.toNat []) c:=by unfold X8;rw[show((c.toNat:Nat):Int)=c from by omega]
     rw[d6]at r3;generalize ca:a0.getD r.toNat []=pv at*;have ez:=bd.2.2;refine⟨⟨r0,by rw[a9];exact r1⟩,GC n rest (inC ab) r pv,fun p=>((pv.length:Int)-p.1).toNat,⟨qI _,qE _,ax,f4,fun j hj=>⟨a5.crange hj,gN ⟨(a5.col j hj).1,fun x=>yI⟩⟩⟩, ?_⟩;rintro⟨t,⟨cols1,cj⟩,_⟩ _ a7;change Int at t;change List R1 at cols1;simp only;have t0:=a7.1;have t1:=a7.2.1;simp only at t0 t1;refine⟨fun ht=> ?_,fun ht=> ?_⟩
     . have ht:=qA ht;rw[wv (by omega)];obtain⟨q1,q2,q3⟩:=a7.rng ak ht;exact⟨q1,q2,q3,a7.next ak ht,by omega⟩
     have ht:=qB ht;have c3:∀s,1<=s->Di s ((n:Int),(n:Int),D)->CI n k.toNat (sK s k.toNat) rest P a0 a6 r c [] a0 a6 cols1:=fun s q1 q2=>CI.init (hE s q1 q2) hc hr a7.2.2.1 fun j hj=>by
      have h5:=(a7.2.2.2.2 j hj).2;simp only at h5;rw[E1 (show(pv.length:Int)<=t by omega)]at h5;rw[ca];exact h5
     have f5:fE n cj:=a7.2.2.2.1;have dw:cols1.length=n:=a7.2.2.1;clear a7;obtain⟨c5,bi⟩:=(c3 s0 cb hs).col c hc;have cu:∀x∈Q3 (cols1.getD c.toNat []),0<=x/\x<(n:Int):=fun x hx=>⟨((bi x).1 hx).2.1,((bi x).1 hx).2.2.1⟩
     have cr:(Q3 (cols1.getD c.toNat [])).length<=n:=CL c5 cu;refine⟨bd, ?_⟩;rintro⟨v,_⟩ _ cc;change D3 at v;simp only at cc⊢;have cd:qs (sK s0 k.toNat) (A4 pv c):=d7 c;refine⟨by rw[cc];exact R3 (N3 cd b7) (by decide), ?_⟩;rintro⟨cg,fq,_⟩ _ af;change D3 at cg;simp only at af⊢;rw[cc,E5]at af;obtain⟨af,_⟩:=af.2 r3;have bx:c<(cols1.length:Int):=by rw[dw];exact c1
     refine⟨C2z n cols1 c,⟨⟨c0,bx⟩,f5 _ (by omega),C2y (cols1.getD c.toNat []),fun q=>q.2.1.2.length,⟨rfl,wN _⟩, ?_⟩, ?_⟩
     . rintro⟨bw,⟨es,left⟩,_⟩ _ ⟨rfl,i2⟩;change List Int at bw;change R1 at left;simp only at i2⊢;refine⟨fun hl=>⟨fun h=>(by cases h),fun _=>⟨?_,JJ _ _ _,f5⟩⟩,fun l1 y l2 hl=>⟨fun _=> ?_,fun h=>(by cases h)⟩⟩
       . subst hl;rw[show Q3 []= []from rfl,vS]at i2;exact i2
       subst hl;have d5:(bw++ [y.1]++Q3 (l1++l2)).Perm (Q3 (cols1.getD c.toNat [])):=by
        refine List.Perm.trans ?_ i2;rw[uC];refine g2l bw ?_;unfold Q3;rw[uY,uY,sB,List.singleton_append];exact List.perm_middle.symm
       have dp:=d5.length_eq;rw[rP,rP,rG]at dp;have ay:(l1++l2).length<(l1++y::l2).length:=by rw[rP,rP,rH];omega
       exact⟨⟨by rw[rG];omega,by rw[rG];omega⟩,⟨rfl,d5⟩,ay⟩
     rintro⟨aa,⟨dk,fd⟩,_⟩ _ ⟨h6,rfl,f6⟩;change List Int at aa;simp only at h6 f6⊢;have e8:aa.Nodup:=h6.nodup_iff.2 c5;have d0:∀x,x∈aa↔x≠r/\0<=x/\x<(n:Int)/\(∀a,a<k.toNat->x.toNat≠ix P a)/\X8 a0 x.toNat c.toNat≠0:=fun x=>by rw[h6.mem_iff];exact bi x
     have e7:aa.length<=n:=by
      rw[h6.length_eq];exact cr
     refine⟨I0 n ((n:Int),(n:Int),D) k.toNat rest P a0 a6 r c aa,fun q=>((aa.length:Int)-q.1).toNat,⟨qI _,qE _,c3,f3,f6⟩, ?_⟩;clear c3 c5 bi cu cr h6;rintro⟨u,au,⟨ai,cn⟩,⟨ao,fe⟩,_⟩ _ ⟨u0,u1,hG,f7,f8⟩;change Int at u;simp only at u0 u1 hG f7 f8⊢;have ap:=hG s0 cb hs;refine⟨fun hu=> ?_,fun hu=> ?_⟩
     . have hu:=qA hu;have dv:aa.getD u.toNat 0∈aa:=C6 (by omega);have c4:aa.getD u.toNat 0∉aa.take u.toNat:=fun hh=>by
        obtain⟨a,ha,b4⟩:=uT.1 hh;rw[qW]at ha;rw[g1h,H2 _ _ (show u.toNat<aa.length by omega)]at b4;have:=(wI e8).1 b4;omega
       have db:=Ip (d:=(0:Int)) u0 hu;rw[G2 u0 hu]at db;obtain⟨i1,i2,i3,i4,i5⟩:=(d0 _).1 dv;generalize aa.getD u.toNat 0=i at*;have ah:i.toNat<n:=by omega
       have cp:((i.toNat:Nat):Int)=i:=by omega
       have eg:au.getD i.toNat []=a0.getD i.toNat []:=ap.ru _ ah (by rw[cp];exact c4);have cw:ai.getD i.toNat []=a6.getD i.toNat []:=by rw[ap.lo _ ah,qL (by rw[cp];exact c4)]
       have ba:=a5.lowLen ah;have fg:=a5.two (i:=r.toNat) (j:=i.toNat) (by omega) ah (by omega) r2 i4;have ae:=a5.okRow b7 (by omega) ah;have d9:=(a5.can _ ah).2.2;have aj:0<=i/\i<(au.length:Int):=⟨i2,by rw[ap.lrows];exact i3⟩;have cq:0<=i/\i<(ai.length:Int):=⟨i2,by rw[ap.llow];exact i3⟩;have dr:i.toNat∉cn:=f7 _ ah;rw[eg,cw];have dq:X8 a0 i.toNat c.toNat=A4 (a0.getD i.toNat []) c:=by unfold X8;rw[show((c.toNat:Nat):Int)=c from by omega]
       have fk:4*sK s0 k.toNat+1<=K1:=qZ (show sK s0 (k.toNat+1)<=sK s0 (n-1)from CP (by omega)) ac;have e9:qs (sK s0 k.toNat+sK s0 k.toNat) (A4 (a0.getD i.toNat []) c/A4 pv c):=eD (d9 c) cd;have F:∀(am:QQ×Unit),Xz am.1/\True->am.1=rc (A4 (a0.getD i.toNat []) c)->(E3 am.1/\E3 cg)/\∀(b5:QQ×Unit),Xz b5.1/\True->b5.1=rc (rv am.1*rv cg)->B9d (A4 (a0.getD i.toNat []) c/A4 pv c) (b5.1.1.1,b5.1.1.2,b5.1.2,()):=fun am _ h1=>by
        refine⟨⟨by rw[h1];exact R3 (N3 (d9 c) b7) (by decide),by rw[af];exact R3 (N3 (A9t cd) b7) (by decide)⟩,fun b5 _ h3=> ?_⟩;rw[h1,af,E5,E5, <-wX]at h3;exact h3
       refine⟨⟨u0,hu⟩,B9d (A4 (a0.getD i.toNat []) c/A4 pv c),⟨aj,⟨ae,fun am w h=>⟨F am w h,F am w h⟩⟩,ae,F⟩, ?_⟩;rintro⟨fa,fb,fc,_⟩ _ b9;change Bool at fa;change List Int at fb fc;have b9:((fa,fb),fc)=rc (A4 (a0.getD i.toNat []) c/A4 pv c):=b9;simp only;rw[b9];refine⟨fun q=>q.1.1=ai.set i.toNat (a6.getD i.toNat []++ [(k,rc (A4 (a0.getD i.toNat []) c/A4 pv c))])/\fE n q.1.2, ?_, ?_⟩
       . have L1:((a6.getD i.toNat []).length+ [(k,rc (A4 (a0.getD i.toNat []) c/A4 pv c))].length)*64<=140737488355328/\(a6.getD i.toNat []).length+ [(k,rc (A4 (a0.getD i.toNat []) c/A4 pv c))].length<=9223372036854775807:=by
          have hz:∀z:Nat,z<=n->(z+1)*64<=140737488355328/\z+1<=9223372036854775807:=fun z hz=>⟨by omega,by omega⟩
          exact hz _ (qZ ba (by omega))
         repeat' apply And.intro
         all_goals first
          |exact cq.1
          |exact cq.2
          |exact dr
          |exact L1.1
          |exact L1.2
          |exact rfl
          |exact f7
          |exact True.intro
       rintro⟨⟨di,ew⟩,_⟩ _ ⟨cv,f9⟩;simp only at cv f9⊢;have d8:qs K1 (A4 (a0.getD i.toNat []) c/A4 pv c):=N3 e9 (by omega);refine⟨aj,R3 d8 (by decide), ?_⟩;rintro⟨ng,_⟩ _ bn;change D3 at ng;simp only at bn⊢;rw[E5]at bn;refine⟨⟨ae,by rw[bn];exact JN (VB d8),bd⟩, ?_⟩;rintro⟨nw,_⟩ _ ad;change List D0 at nw;simp only at ad⊢;have ad:PP (fun j=>A4 (a0.getD i.toNat []) j-A4 (a0.getD i.toNat []) c/A4 pv c*A4 pv j) nw:=⟨ad.1,fun j=>(ad.2 j).trans (by dsimp only;rw[bn,E5,Rat.neg_mul, <-tK])⟩;have bp:∀e∈nw,0<=e.1/\e.1<(n:Int):=fun e he=>qU fun hh=>by
        refine(ad.1.2 e he).1 ?_;rw[<-Q4 ad.1.1 he];refine(ad.2 e.1).trans ?_;dsimp only;rw[D2 (v:=a0.getD i.toNat []) (i:=e.1) fun y hy cf=>hh (by rw[<-cf];exact(a5.can _ ah).2.1 y hy),D2 (v:=pv) (i:=e.1) fun y hy cf=>hh (by rw[<-cf];exact ak y hy),uX,tK,wM,rO]
       have fo:nw.length<=n:=by
        have:=Fw (n:=(n:Int)) (v:=nw) ⟨ad.1.1,fun e he=>⟨(bp e he).1,(bp e he).2,(ad.1.2 e he).1⟩⟩;omega
       refine⟨aj,GC n rest (inC ao) i pv,fun p=>((pv.length:Int)-p.1).toNat,⟨qI _,qE _,ap.lcols,f8,fun j hj=>⟨a5.crange hj,gN ⟨(ap.col j hj).1,fun x=>yI⟩⟩⟩, ?_⟩;rintro⟨t2,⟨av,ep⟩,_⟩ _ a7;change Int at t2;change List R1 at av;simp only;have ek:=a7.1;have em:=a7.2.1;simp only at ek em;refine⟨fun ht=> ?_,fun ht=> ?_⟩
       . have ht:=qA ht;rw[wv (by omega)];obtain⟨q1,q2,q3⟩:=a7.rng ak ht;exact⟨q1,q2,q3,a7.next ak ht,by omega⟩
       have ht:=qB ht;have bt:∀j:Int,j∈rest->gM (inC ao) i pv j (av.getD j.toNat []):=fun j hj=>by
        have h5:=(a7.2.2.2.2 j hj).2;simp only at h5;rwa[E1 (show(pv.length:Int)<=t2 by omega)]at h5
       rw[show(au.set i.toNat nw).getD i.toNat []=nw from B6 (by rw[ap.lrows];exact ah)];refine⟨by rw[qN];exact aj,ZS n rest (fun j x=>inC ao j x/\¬(x=i/\∃e∈pv,e.1=j)) i nw,fun p=>((nw.length:Int)-p.1).toNat,⟨qI _,qE _,a7.2.2.1,a7.2.2.2.1,fun j hj=>⟨a5.crange hj,A6a ⟨(bt j hj).1,(bt j hj).2⟩⟩⟩, ?_⟩;rintro⟨t3,⟨aw,er⟩,_⟩ _ a8;change Int at t3;change List R1 at aw;simp only;have en:=a8.1;have eo:=a8.2.1;simp only at en eo;refine⟨fun ht=> ?_,fun ht=> ?_⟩
       . have ht:=qA ht;rw[wv (by omega)];obtain⟨q1,q2,q3⟩:=a8.rng bp ht;exact⟨q1,q2,q3,a8.next bp ht,by omega⟩
       have ht:=qB ht;rw[wv (by omega)];refine⟨⟨by simp only;omega,by simp only;omega,fun s q1 q2=> ?_,f9,a8.2.2.2.1⟩,by omega⟩;have e6:=CI.next (hE s q1 q2) hc hr (hG s q1 q2) i2 i3 i1 i4 c4 (q:=A4 (a0.getD i.toNat []) c/A4 pv c) (by rw[dq,d6]) (nw:=nw) (by rw[ca];exact ad) (cols2:=aw) a8.2.2.1 fun j hj=>by
        have h5:=(a8.2.2.2.2 j hj).2;simp only at h5;rw[E1 (show(nw.length:Int)<=t3 by omega)]at h5;rw[ca];exact h5
       simp only;rw[db,cv, <-cw];rwa[show((k.toNat:Nat):Int)=k from by omega]at e6
     . have hu:=qB hu;rw[wv (by omega)];refine⟨⟨by simp only;omega,by simp only;omega,fun s q1 q2=> ?_,f7,f8⟩,by omega⟩;have hg:=hG s q1 q2;rw[E1 (by omega)]at hg;have ds:=CI.done (hE s q1 q2) hc hr hg rfl d0 ec ed;simp only;rw[show(k+1).toNat=k.toNat+1 from by omega,e1,e2,e3];rwa[show((k.toNat:Nat):Int)=k from by omega]at ds
 . have hk:=qB hk;have c6:k=(n:Int):=by omega
   subst c6;simp only[qM]at hE a5;have a9:=a5.lrows;have bb:=a5.llow;have dn:=a5.lP;have bs:=a5.places;refine⟨C2s n P place rows lower,fun q=>((n:Int)-q.2.1).toNat,⟨rfl,qI _,qE _,rI,rI,rfl,fun m hm=> .inl (g4m fun h=>f1 m h hm),fun a ha=>by simp only at ha;omega,fun a ha=>by simp only at ha;omega⟩, ?_⟩;rintro⟨az,j,L,U,⟨a6,b6⟩,_⟩ _ ⟨rfl,j0,j1,lL,lU,rfl,bz,hL,hU⟩;change Int at j;change List (List D0)at L U;simp only at j0 j1 lL lU bz hL hU⊢;refine⟨fun hj=> ?_,fun hj=> ?_⟩
   . have hj:=qA hj;have a8:j.toNat<n:=by omega
     have dm:P.getD j.toNat 0=(ix P j.toNat:Int):=a5.P0 _ a8;have bj:=a5.elim.plt _ a8;have ba:=a5.lowLen bj;have e5:ix P j.toNat∉b6:=fun hm=>by
      rcases bz _ hm with h| ⟨a,ha,b4⟩
      . omega
      . have:=a5.elim.pinj _ _ a8 (show a<n by omega) b4;omega
     have ae:=a5.okFin (by omega) a8 (qZ (CP (by omega)) ac);rw[dm];simp only[qM];have q1:0<=j/\j<(P.length:Int):=⟨j0,hj⟩;have q2:0<=(ix P j.toNat:Int)/\(ix P j.toNat:Int)<(a6.length:Int):=⟨qE _,by rw[bb];exact sQ.2 bj⟩;have q3:0<=j/\j<(L.length:Int):=⟨j0,by rw[lL];omega⟩;have hz:∀z:Nat,z<=n->(z+1)*64<=140737488355328/\z+1<=9223372036854775807:=fun z hz=>⟨by omega,by omega⟩
     refine⟨q1,fun q=>q.1=L.set j.toNat (a6.getD (ix P j.toNat) []++ [(j,rc 1)])/\q.2.1.1=a6/\q.2.1.2=ix P j.toNat::b6, ?_, ?_⟩
     . repeat' first
        |exact e5
        |exact True.intro
        |exact q1.1
        |exact q1.2
        |exact q2.1
        |exact q2.2
        |exact q3.1
        |exact q3.2
        |exact rfl
        |exact(hz _ (qZ ba (rB _))).1
        |exact(hz _ (qZ ba (rB _))).2
        |apply And.intro
        | (rintro⟨r,_⟩ _ hr
           have hr:r=rc 1:=hr.trans (JG 1);subst hr)
     rintro⟨L4,⟨dh,eu⟩,_⟩ _ ⟨g1,g2,g3⟩;simp only at g1 g2 g3⊢;refine⟨⟨q2.1,by rw[a9];exact sQ.2 bj⟩,⟨ae,by rw[a5.lpl];omega⟩, ?_⟩;rintro⟨w,fs,_⟩ _ bc;change List D0 at w;simp only at bc⊢;have bq:=a5.lpl;obtain⟨de,_⟩:=bc (by rw[bq];exact bs.1) fun i hi=>by
      rw[bq];obtain⟨e,he,rfl⟩:=BT hi;exact(a5.can _ bj).2.1 e he
     rw[bq]at de;rw[wv (by omega)];refine⟨⟨j0,by rw[lU];omega⟩,⟨rfl,by simp only;omega,by simp only;omega,by simp only;rw[g1,qN];exact lL,by simp only;rw[qN];exact lU,g2,fun m hm=> ?_,fun a ha=> ?_,fun a ha=> ?_⟩,by omega⟩
     . simp only at hm⊢;rw[g3]at hm;rcases qG.1 hm with h|h
       . exact .inr ⟨j.toNat,by omega,h⟩
       . rcases bz m h with h| ⟨a,ha,b4⟩
         . exact .inl h
         . exact .inr ⟨a,by omega,b4⟩
     . simp only at ha⊢;rw[g1];by_cases b8:a=j.toNat
       . subst b8;rw[B6 (by rw[lL];exact a8),show((j.toNat:Nat):Int)=j from by omega]
       . rw[D5 b8];exact hL a (by omega)
     . simp only at ha⊢;by_cases b8:a=j.toNat
       . subst b8;rw[B6 (by rw[lU];exact a8)];exact de
       . rw[D5 b8];exact hU a (by omega)
   . have hj:=qB hj;have a8:j=(n:Int):=by omega
     subst a8;have bg:∀a,a<n->L.getD a []=a6.getD (ix P a) []++ [((a:Int),rc 1)]:=fun a ha=>hL a (by omega)
     have bh:∀a,a<n->PP (fun i=>if 0<=i/\i<(n:Int)then A4 (rows.getD (ix P a) []) ((List.idxOf i az:Nat):Int)else 0) (U.getD a []):=fun a ha=>hU a (by omega)
     have hd:=a5.done (by omega) lL lU bg bh;exact⟨fun h=>absurd hv h,fun _=>⟨fun h=>absurd rfl h,fun _=>⟨fun h=>absurd a5.elim.nonsing h,fun _=>⟨hd.1,trivial,(a5.cans lL lU bg bh).1,(a5.cans lL lU bg bh).2,fun s q1 q2 a b ha=>(hE s q1 q2).sizes (fun a=>qZ q1 (C3c a)) bg bh ha b,hd.2⟩⟩⟩⟩
def HP:An:= {}
abbrev C0m:=(List Int×List Int×MM×Int×Int×List (List EE))×List QQ×Unit
def Oy:A2 Y9.args->Prop:=fun(x:C0m)=>let e:=(4:Int);let d:=(1:Int);let c:=(0:Int);let b:=(↑x.1.1.length:Int);let a:=(x.1.1.length:Int);let f:Prop:=((x.2.1.length:Int)≠a);(c<=a/\a<=(16384:Int)/\Di K1 x.1.2.2.1/\Di K1 x.1.2.2.2)/\Vy fun r=>(r.1=true↔Cl x.1 a)->(iB ((!r.1)) ((¬Cl x.1 b->d=d)/\(Cl x.1 b->(x.2.1.length≠x.1.1.length->d=e)/\(x.2.1.length=x.1.1.length->d=c))) ((iB (decide f) ((¬Cl x.1 b->e=d)/\(Cl x.1 b->(x.2.1.length≠x.1.1.length->e=e)/\(x.2.1.length=x.1.1.length->e=c))) ((¬Cl x.1 b->c=d)/\(Cl x.1 b->(x.2.1.length≠x.1.1.length->c=e)/\(x.2.1.length=x.1.1.length->c=c))))))
def OY:An:= {loop:= [(12,⟨[1,2,7,8,9,30,31,55,56],[0],[(57,false,vI)],[],[(1, .row tQ 43)]⟩),(7,⟨[1,2,7,8,30],[0],[(31,false,vI)],[],[(1, .row tQ 43)]⟩),(24,⟨[2,7,8,13,15,16,80,81,95,96],[0,2],[(97,false,vI)],[],[(1, .row tQ 43)]⟩),(19,⟨[2,7,8,13,80],[0],[(81,false,vI)],[],[(1, .row tQ 43),(2, .row tQ 43)]⟩)],plan:= [(14,[5,7,10,12],[15],true,(pZ9 0 5 (.q 5 (.p 6 (.q 7 (.p 8 (.p 9 (.q 10 (.p 11 (.q 12 (.e 13 (.p 14 (.e 15 .done))))))))))))),(26,[5,7,10,12],[15],true,(pZ9 0 5 (.q 5 (.p 6 (.q 7 (.p 8 (.p 9 (.q 10 (.p 11 (.q 12 (.e 13 (.p 14 (.e 15 .done))))))))))))),(28,[5,9],[15],true,(pZ9 0 5 (.q 5 (pZ9 6 3 (.q 9 (.e 10 (pZ9 11 4 (.e 15 .done)))))))),(29,[2,5,9],[11],true,(.p 0 (.p 1 (.q 2 (.p 3 (.p 4 (.q 5 (pZ9 6 3 (.q 9 (.p 10 (.e 11 .done)))))))))))]}
abbrev C1f:=Int×List QQ×List QQ×Unit
abbrev A4d:=Int×List QQ×Unit
def Wb:A2 Y8.args->Prop:=fun(x:C0m)=>let M:=(1:Nat);let A:=(↑x.1.1.length:Int);let q:=(1:Int);let g:=(0:Int);let d:=(x.1.1.length:Int);let v:Prop:=(g<=d/\d<=d/\(↑(56:Nat):Int)*d<=(281474976710656:Int)/\d<=(9223372036854775807:Int));(List.length x.1.1<=16384/\Di K1 x.1.2.2.1/\Di K1 x.1.2.2.2)/\Cg fun r=>(¬Cl x.1 d->r.1=q)/\(Cl x.1 d->(List.length x.2.1≠List.length x.1.1->r.1=4)/\(List.length x.2.1=List.length x.1.1->r.1=g))->(iB (decide (r.1≠g)) ((¬Cl x.1 A->Cn QQ= []/\r.1=q)/\(Cl x.1 A->(x.2.1.length≠x.1.1.length->Cn QQ= []/\r.1=4)/\(x.2.1.length=x.1.1.length->r.1=g/\0=x.1.1.length/\(∀(e:QQ),e∈ []->e=rc (rv e))/\(∀(s T:Nat),M<=s->M<=T->Di s x.1.2.2.1->Di s x.1.2.2.2->JM T x.2.1->JM (hK s (gK s T x.1.1.length) x.1.1.length+s) [])/\∀(i:Nat),i<x.1.1.length->(C9 x.1.1.length fun(j:Nat)=>luM x.1 x.1.1.length i j*rv ([].getD (ix x.1.2.1 j) zr))=rv (x.2.1.getD (ix x.1.1 i) zr)))) (v/\∃(I:A4d->Prop),∃(μ: _->Nat),I (g,List.replicate d.toNat dQ,())/\∀(p:A4d),let E:=p.1.toNat;let m:=(gx [] x.1.2.2.1.2.2 p.1);let B:=(↑m.length:Int);let L:=(i64.wrap (B-q));let h:=(↑(List.drop g.toNat (List.take L.toNat m)).length:Int);(Ty.int i64).wf p.1/\WfL p.2.1/\True->I p->(iB (decide (p.1<d)) ((g<=p.1/\p.1<d)/\(g<=gx g x.1.1 p.1/\gx g x.1.1 p.1<(x.2.1.length:Int))/\(g<=p.1/\p.1<(p.2.1.length:Int))/\(g<=p.1/\p.1<(x.1.2.2.1.2.2.length:Int))/\(g<=g/\g<=i64.wrap (B-q)/\i64.wrap (B-q)<=B)/\∃(I_1:A4d->Prop),∃(a0: _->Nat),I_1 (g,List.set p.2.1 E (gx dQ x.2.1 (gx g x.1.1 p.1)),())/\∀(N:A4d),let K:=(List.getD N.2.1 E dQ);let F:=(i64.wrap (p.1+q),N.2.1,());let D:=(N.2.1.length:Int);let c:=(gx E9 (List.drop g.toNat (List.take L.toNat m)) N.1);let t:=(List.getD N.2.1 c.1.toNat dQ);(Ty.int i64).wf N.1/\WfL N.2.1/\True->I_1 N->(iB (decide (N.1<h)) ((g<=N.1/\N.1<h)/\(g<=p.1/\p.1<D)/\(g<=c.1/\c.1<D)/\(sz K1 K/\sz K1 c.2/\sz K1 t)/\I6 fun r=>let z:=(i64.wrap (N.1+q),List.set N.2.1 E r.1,());(rv t=(0:Rat)->r.1=List.getD N.2.1 E dQ)/\(rv t≠(0:Rat)->r.1=rc (rv K-rv c.2*rv t))->(g<=p.1/\p.1<D)/\I_1 z/\a0 z<a0 N) (I F/\μ F<μ p))) (v/\∃(I:C1f->Prop),∃(μ: _->Nat),I (g,p.2.1,List.replicate d.toNat dQ,())/\∀(p:C1f),let a:=(i64.wrap (d-q)-p.1);let k:=(i64.wrap a);let b:=(gx [] x.1.2.2.2.2.2 k);let J:=(gx E9 b g);let y:=(↑b.length:Int);let o:=(↑(List.drop q.toNat (List.take y.toNat b)).length:Int);(Ty.int i64).wf p.1/\WfL p.2.1/\WfL p.2.2.1/\True->I p->(iB (decide (p.1<d)) ((g<=i64.wrap a/\i64.wrap a<(x.1.2.2.2.2.2.length:Int))/\(g<=q/\q<=y/\y<=y)/\∃(I_1:A4d->Prop),∃(a0: _->Nat),I_1 (g,p.2.1,())/\∀(N:A4d),let G:=(N.2.1.length:Int);let w:=(List.getD N.2.1 k.toNat dQ);let l:Prop:=(g<=i64.wrap a/\i64.wrap a<G);let f:=(gx E9 (List.drop q.toNat (List.take y.toNat b)) N.1);let u:=(List.getD N.2.1 f.1.toNat dQ);(Ty.int i64).wf N.1/\WfL N.2.1/\True->I_1 N->(iB (decide (N.1<o)) ((g<=N.1/\N.1<o)/\l/\(g<=f.1/\f.1<G)/\(sz K1 w/\sz K1 f.2/\sz K1 u)/\I6 fun r=>let C:=(i64.wrap (N.1+q),List.set N.2.1 k.toNat r.1,());(rv u=(0:Rat)->r.1=List.getD N.2.1 k.toNat dQ)/\(rv u≠(0:Rat)->r.1=rc (rv w-rv f.2*rv u))->l/\I_1 C/\a0 C<a0 N) (l/\(g<=g/\g<y)/\(E3 w/\E3 J.2)/\∀(r:B4h),let H:=(List.set N.2.1 k.toNat r.1);let n:=(i64.wrap (p.1+q),List.set N.2.1 k.toNat r.1,List.set p.2.2.1 (gx g x.1.2.1 k).toNat (H.getD k.toNat dQ),());Xz r.1/\True/\True->(rv J.2=(0:Rat)->r.2.1=false)/\(rv J.2≠(0:Rat)->r.1=rc (rv w/rv J.2)/\r.2.1=true)->l/\(g<=i64.wrap a/\i64.wrap a<(x.1.2.1.length:Int))/\(g<=i64.wrap a/\i64.wrap a<(↑H.length:Int))/\(g<=gx g x.1.2.1 k/\gx g x.1.2.1 k<(p.2.2.1.length:Int))/\I n/\μ n<μ p))) ((¬Cl x.1 A->p.2.2.1= []/\g=q)/\(Cl x.1 A->(x.2.1.length≠x.1.1.length->p.2.2.1= []/\g=(4:Int))/\(x.2.1.length=x.1.1.length->g=g/\List.length p.2.2.1=x.1.1.length/\(∀(e:QQ),e∈p.2.2.1->e=rc (rv e))/\(∀(s T:Nat),M<=s->M<=T->Di s x.1.2.2.1->Di s x.1.2.2.2->JM T x.2.1->JM (hK s (gK s T x.1.1.length) x.1.1.length+s) p.2.2.1)/\∀(i:Nat),i<x.1.1.length->(C9 x.1.1.length fun(j:Nat)=>luM x.1 x.1.1.length i j*rv (List.getD p.2.2.1 (ix x.1.2.1 j) zr))=rv (x.2.1.getD (ix x.1.1 i) zr)))))))))
def zok (k:Nat) (q:Rat) (x:D3):Prop:=sz k x/\Jb x/\rv x=q
def B0y {k:Nat} {q:Rat} (h:qs k q):zok k q (rc q):=⟨JN h,QI q,E5 q⟩
def kY {j k:Nat} {q:Rat} {x:D3} (h:zok j q x) (u:j<=k):zok k q x:=⟨F9 h.1 u,h.2⟩
def Ir {s T:Nat} :∀ {a b:Nat},a<=b->gK s T a<=gK s T b
 |a,0,h=>by have:a=0:=by omega
            subst this;exact rB _
 |a,b+1,h=>by
  by_cases u:a=b+1
  . subst u;exact rB _
  . have:=Ir (s:=s) (T:=T) (a:=a) (b:=b) (by omega);simp only[gK];omega
def Ku {s T:Nat} :∀ {a b:Nat},a<=b->hK s T a<=hK s T b
 |a,0,h=>by have:a=0:=by omega
            subst this;exact rB _
 |a,b+1,h=>by
  by_cases u:a=b+1
  . subst u;exact rB _
  . have:=Ku (s:=s) (T:=T) (a:=a) (b:=b) (by omega);simp only[hK];omega
def B1z {v:List D0} {i:Nat} (u:∀e∈v,0<=e.1/\e.1<(i:Int)) (h:Nat->Rat):Ub v (fun j=>h j.toNat)=C9 i fun j=>A4 v (j:Int)*h j:=by
 rw[pK u];exact B9 fun j _=>by rw[qM]
def kX {s j k:Nat} {a f b r:D3} {x y:Rat} (ha:zok j x a) (hf:Jb f) (u:sz s f) (hs:1<=s) (hb:zok k y b) (hj:1<=j) (hk:1<=k) (h1:rv b=0->r=a) (h2:rv b≠0->r=rc (rv a-rv f*rv b)):zok (j+(s+k)+1) (x-rv f*y) r:=by
 obtain⟨a1,a2,a3⟩:=id ha;obtain⟨b1,b2,b3⟩:=id hb;subst a3 b3;by_cases hz:rv b=0
 . rw[h1 hz,hz,uX,tK,wM,rO];exact kY ha (by omega)
 . rw[h2 hz];exact B0y (MP (Je a2 a1 hj) (MO (Je hf u hs) (Je b2 b1 hk)))
def FW (s T n i:Nat) (Lm:Nat->Nat->Rat) (b:Nat->Rat) (z:List D3):Prop:=z.length=n/\∀j,j<i->zok (gK s T j) (rv (z.getD j zr)) (z.getD j zr)/\rv (z.getD j zr)+C9 j (fun m=>Lm j m*rv (z.getD m zr))=b j
def FI (s T i:Nat) (c:Rat) (w:List D0) (z0:List D3) (t:Nat) (z:List D3):Prop:=∃cur,z=z0.set i cur/\Jb cur/\rv cur=c-Ub (w.take t) (fun j=>rv (z0.getD j.toNat zr))/\∀m:Nat,(∀e∈w.take t,e.1<(m:Int))->sz (gK s T m) cur
variable {s T n i:Nat} {c:Rat} {w:List D0} {z0 z:List D3} {Lm:Nat->Nat->Rat} {b:Nat->Rat}
def FI.init {x:D3} (hx:zok T c x):FI s T i c w z0 0 (z0.set i x):=
 ⟨x,rfl,hx.2.1,by rw[hx.2.2];simp only[g0x,Ub];rw[tK,wM,rO],fun m _=>F9 hx.1 (Ir (rN m))⟩
def FI.next (hF:FW s T n i Lm b z0) (hT:1<=T) (hs:1<=s) (hi:i<n) (hasc:Hf w) (hw:∀e∈w,0<=e.1/\e.1<(i:Int)/\sz s e.2/\Jb e.2) {t:Int} (t0:0<=t) (t1:t<(w.length:Int)) (h:FI s T i c w z0 t.toNat z):
 (z.length=n/\sz (gK s T i) (z.getD i zr)/\sz (gK s T i) (z.getD (gx E9 w t).1.toNat zr))/\∀r,(rv (z.getD (gx E9 w t).1.toNat zr)=0->r=z.getD i zr)->(rv (z.getD (gx E9 w t).1.toNat zr)≠0->r=rc (rv (z.getD i zr)-rv (gx E9 w t).2*rv (z.getD (gx E9 w t).1.toNat zr)))->FI s T i c w z0 (t+1).toNat (z.set i r):=by
 obtain⟨cur,rfl,hl,hr,a4⟩:=h;have a2:=I3 (d:=E9) t0 t1;obtain⟨e0,e1,e2,e3⟩:=hw _ a2;have u:∀y∈w.take t.toNat,y.1<(gx E9 w t).1:=fun y hy=>by
  have h1:(w.take (t+1).toNat).Pairwise (fun a b=>a.1<b.1):=g0t hasc;rw[show(t+1).toNat=t.toNat+1 from by omega,rR,G8 (d:=E9) t0 t1,tY]at h1;exact h1.2.2 y hy (gx E9 w t) (by simp)
 have a1:=ZG (d:=E9) t0 t1 (fun j=>rv (z0.getD j.toNat zr));have a5:∀m:Nat,(∀e∈w.take (t+1).toNat,e.1<(m:Int))->(gx E9 w t).1<(m:Int):=fun m hm=>hm _ (by
  rw[show(t+1).toNat=t.toNat+1 from by omega,rR,G8 (d:=E9) t0 t1];simp)
 generalize gx E9 w t=e at*;have a3:e.1.toNat≠i:=by omega
 have a0:=hF.1;rw[D5 a3,B6 (by omega)];obtain⟨hz,_⟩:=hF.2 e.1.toNat (by omega);have h1:=a4 e.1.toNat fun y hy=>by have:=u y hy;omega
 have hg:∀m,1<=gK s T m:=fun m=>qZ hT (Ir (rN m))
 refine⟨⟨by rw[qN];exact a0,F9 h1 (Ir (by omega)),F9 hz.1 (Ir (by omega))⟩,fun r r1 r2=> ?_⟩;have hk:=kX (x:=rv cur) ⟨h1,hl,rfl⟩ e3 e2 hs hz (hg _) (hg _) r1 r2;refine⟨r,by rw[g4a],hk.2.1, ?_,fun m hm=> ?_⟩
 . rw[hk.2.2,a1,hr];grind
 . refine F9 hk.1 (qZ ?_ (Ir (show e.1.toNat+1<=m by have:=a5 m hm;omega)));simp only[gK];omega
def FI.done (hF:FW s T n i Lm b z0) (hi:i<n) (hw:∀e∈w,0<=e.1/\e.1<(i:Int)) (hL:∀j,j<i->A4 w (j:Int)=Lm i j) {t:Nat} (ht:w.length<=t) (h:FI s T i (b i) w z0 t z):FW s T n (i+1) Lm b z:=by
 obtain⟨cur,rfl,hl,hr,a1⟩:=h;have a0:=hF.1;rw[qV ht]at hr a1;have u:∀j,j<i->(z0.set i cur).getD j zr=z0.getD j zr:=fun j hj=>D5 (by omega)
 refine⟨by rw[qN];exact a0,fun j hj=> ?_⟩;by_cases a2:j=i
 . subst a2;rw[B6 (by omega)];refine⟨⟨a1 j fun e he=>(hw e he).2,hl,rfl⟩, ?_⟩;rw[hr,B1z hw (fun m=>rv (z0.getD m zr)),B9 (f:=fun m=>Lm j m*rv ((z0.set j cur).getD m zr)) (g:=fun m=>A4 w (m:Int)*rv (z0.getD m zr)) fun m hm=>by rw[u m hm,hL m hm]];grind
 . rw[u j (by omega)];obtain⟨h1,h2⟩:=hF.2 j (by omega);refine⟨h1, ?_⟩;rw[<-h2];congr 1;exact B9 fun m hm=>by rw[u m (by omega)]
def BW (s Y n i:Nat) (U:Nat->Nat->Rat) (y:Nat->Rat) (z:List D3):Prop:=z.length=n/\(∀j,j<i->zok Y (y j) (z.getD j zr))/\∀j,i<=j->j<n->(∃q,z.getD j zr=rc q/\qs (hK s Y (n-1-j)+s) q)/\C9 n (fun m=>U j m*rv (z.getD m zr))=y j
def BI (s Y n i:Nat) (c:Rat) (w:List D0) (z0:List D3) (t:Nat) (z:List D3):Prop:=∃cur,z=z0.set i cur/\Jb cur/\rv cur=c-Ub (w.take t) (fun j=>rv (z0.getD j.toNat zr))/\∀m:Nat,i+1<=m->m<=n->(∀e∈w.take t,e.1<(m:Int))->∃k,1<=k/\sz k cur/\k+hK s Y (n-m)<=hK s Y (n-1-i)+Y
variable {s Y n i:Nat} {c:Rat} {w:List D0} {z0 z:List D3} {U:Nat->Nat->Rat} {y:Nat->Rat}
def BI.init (hB:BW s Y n (i+1) U y z0) (hY:1<=Y) (hi:i<n):BI s Y n i (y i) w z0 0 z0:=by
 obtain⟨h1,h2,h3⟩:=hB.2.1 i (rV _);refine⟨z0.getD i zr, ?_,h2, ?_,fun m hm a1 _=>⟨Y,hY,h1, ?_⟩⟩
 . refine g1n (by rw[qN]) fun j u a0=> ?_
   rw[g4h];split
   . rename_i e;subst e;rw[H2 _ _ u]
   . rfl
 . rw[h3];simp only[g0x,Ub];rw[tK,wM,rO]
 . have:=Ku (s:=s) (T:=Y) (a:=n-m) (b:=n-1-i) (by omega);omega
def BI.next (hB:BW s Y n (i+1) U y z0) (hs:1<=s) (hY:1<=Y) (hi:i<n) (hasc:Hf w) (hw:∀e∈w,(i:Int)<e.1/\e.1<(n:Int)/\sz s e.2/\Jb e.2) {t:Int} (t0:0<=t) (t1:t<(w.length:Int)) (h:BI s Y n i c w z0 t.toNat z):
 (z.length=n/\sz (hK s Y n) (z.getD i zr)/\sz (hK s Y n+s) (z.getD (gx E9 w t).1.toNat zr))/\∀r,(rv (z.getD (gx E9 w t).1.toNat zr)=0->r=z.getD i zr)->(rv (z.getD (gx E9 w t).1.toNat zr)≠0->r=rc (rv (z.getD i zr)-rv (gx E9 w t).2*rv (z.getD (gx E9 w t).1.toNat zr)))->BI s Y n i c w z0 (t+1).toNat (z.set i r):=by
 obtain⟨cur,rfl,hl,hr,a6⟩:=h;have a2:=I3 (d:=E9) t0 t1;obtain⟨e0,e1,e2,e3⟩:=hw _ a2;have u:∀y∈w.take t.toNat,y.1<(gx E9 w t).1:=fun y hy=>by
  have h1:(w.take (t+1).toNat).Pairwise (fun a b=>a.1<b.1):=g0t hasc;rw[show(t+1).toNat=t.toNat+1 from by omega,rR,G8 (d:=E9) t0 t1,tY]at h1;exact h1.2.2 y hy (gx E9 w t) (by simp)
 have a1:=ZG (d:=E9) t0 t1 (fun j=>rv (z0.getD j.toNat zr));have a7:∀m:Nat,(∀e∈w.take (t+1).toNat,e.1<(m:Int))->(gx E9 w t).1<(m:Int):=fun m hm=>hm _ (by
  rw[show(t+1).toNat=t.toNat+1 from by omega,rR,G8 (d:=E9) t0 t1];simp)
 generalize gx E9 w t=e at*;have a4:e.1.toNat≠i:=by omega
 have a0:=hB.1;rw[D5 a4,B6 (by omega)];obtain⟨⟨q,hq,a5⟩,_⟩:=hB.2.2 e.1.toNat (by omega) (by omega);obtain⟨k,k1,k2,k3⟩:=a6 e.1.toNat (by omega) (by omega) fun y hy=>by have:=u y hy;omega
 have hz:zok (hK s Y (n-1-e.1.toNat)+s) (rv (z0.getD e.1.toNat zr)) (z0.getD e.1.toNat zr):=by
  rw[hq,E5];exact B0y a5
 have m1:=Ku (s:=s) (T:=Y) (a:=n-1-i) (b:=n) (by omega);have m2:=Ku (s:=s) (T:=Y) (a:=n-1-e.1.toNat) (b:=n) (by omega);have m3:=Ku (s:=s) (T:=Y) (a:=0) (b:=n-e.1.toNat) (by omega);have m0:hK s Y 0=Y:=rfl;refine⟨⟨by rw[qN];exact a0,F9 k2 (by omega),F9 hz.1 (by omega)⟩,fun r r1 r2=> ?_⟩;have hk:=kX (x:=rv cur) ⟨k2,hl,rfl⟩ e3 e2 hs hz k1 (by omega) r1 r2;refine⟨r,by rw[g4a],hk.2.1, ?_,fun m hm a8 a3=>⟨_,by omega,hk.1, ?_⟩⟩
 . rw[hk.2.2,a1,hr];grind
 . have h1:=a7 m a3;have h2:=Ku (s:=s) (T:=Y) (a:=n-m) (b:=n-1-e.1.toNat) (by omega);have h3:hK s Y (n-e.1.toNat)=2*hK s Y (n-1-e.1.toNat)+2*s+1:=by
    rw[show n-e.1.toNat=(n-1-e.1.toNat)+1 from by omega];rfl
   omega
def BI.done (hB:BW s Y n (i+1) U y z0) (hs:1<=s) (hY:1<=Y) (hi:i<n) (hw:∀e∈w,(i:Int)<e.1/\e.1<(n:Int)) (hU:∀j,i<j->A4 w (j:Int)=U i j) (a2:∀k m,m<k->k<n->U k m=0) (hp:U i i≠0) (a7:qs s (U i i)) {t:Nat} (ht:w.length<=t) (h:BI s Y n i (y i) w z0 t z):
 sz (hK s Y n) (z.getD i zr)/\qs (hK s Y (n-1-i)+s) (rv (z.getD i zr)/U i i)/\BW s Y n i U y (z.set i (rc (rv (z.getD i zr)/U i i))):=by
 obtain⟨cur,rfl,hl,hr,a5⟩:=h;have a4:=hB.1;rw[qV ht]at hr a5;rw[B6 (by omega),g4a];obtain⟨k,k1,k2,k3⟩:=a5 n (by omega) (rB _) fun e he=>(hw e he).2
 rw[xO]at k3;have m0:hK s Y 0=Y:=rfl;have m1:=Ku (s:=s) (T:=Y) (a:=n-1-i) (b:=n) (by omega);have hq:qs (hK s Y (n-1-i)+s) (rv cur/U i i):=N3 (eD (Je hl k2 k1) a7) (by omega);refine⟨F9 k2 (by omega),hq,by rw[qN];exact a4,fun j hj=> ?_,fun j hj u=> ?_⟩
 . rw[D5 (by omega)];exact hB.2.1 j (by omega)
 . have a0:C9 n (fun m=>U j m*rv ((z0.set i (rc (rv cur/U i i))).getD m zr))=C9 n (fun m=>if m=i then U j i*(rv cur/U i i)else U j m*rv (z0.getD m zr)):=B9 fun m _=>by
    by_cases hm:m=i
    . subst hm;rw[qT rfl,B6 (by omega),E5]
    . rw[qL hm,D5 hm]
   by_cases a3:j=i
   . subst a3;refine⟨⟨_,B6 (by omega),hq⟩, ?_⟩;rw[a0];have h1:Ub w (fun m=>rv (z0.getD m.toNat zr))=C9 n (fun m=>if m=j then 0 else U j m*rv (z0.getD m zr)):=by
      rw[pK (n:=n) fun e he=>⟨by have:=(hw e he).1;omega,(hw e he).2⟩];refine B9 fun m hm=> ?_
      rw[qM];rcases Nat.lt_trichotomy m j with hmj|hmj|hmj
      . rw[qL (by omega),D2 fun e he a6=>by have:=(hw e he).1;omega,a2 j m hmj u]
      . rw[qT hmj,D2 fun e he a6=>by have:=(hw e he).1;omega,tL]
      . rw[qL (by omega),hU m hmj]
     have h2:C9 n (fun m=>if m=j then U j j*(rv cur/U j j)else U j m*rv (z0.getD m zr))=C9 n (fun m=>(if m=j then U j j*(rv cur/U j j)else 0)+if m=j then 0 else U j m*rv (z0.getD m zr)):=B9 fun m _=>by
      split
      . rw[rO]
      . rw[tH]
     rw[h2,Gl, <-h1,O5 u fun m _ hm=>qL hm,qT rfl,hr,wX,g4e,wL,g1a _ hp,g3d];grind
   . obtain⟨⟨q,g1,g2⟩,g3⟩:=hB.2.2 j (by omega) u;refine⟨⟨q,by rw[D5 a3];exact g1,g2⟩, ?_⟩;rw[a0, <-g3];refine B9 fun m hm=> ?_
     by_cases a1:m=i
     . rw[qT a1,a1,a2 j i (by omega) u,tL,tL]
     . rw[qL a1]
def B7s {T n:Nat} {L U:Nat->Nat->Rat} {b:Nat->Rat} {v:Nat->Rat} {y:Nat->Rat} (h1:∀j,j<n->y j+C9 j (fun m=>L j m*y m)=b j) (h2:∀j,j<n->C9 n (fun m=>U j m*v m)=y j) (hL:∀i,i<n->L i i=1) (u:∀i j,i<j->j<n->L i j=0) {i:Nat} (hi:i<n):
 C9 n (fun j=>C9 n (fun k=>L i k*U k j)*v j)=b i:=by
 have e1:C9 n (fun j=>C9 n (fun k=>L i k*U k j)*v j)=C9 n fun k=>L i k*y k:=by
  rw[B9 (g:=fun j=>C9 n fun k=>L i k*(U k j*v j)) fun j _=>by rw[<-MV];exact B9 fun k _=>wL _ _ _,Lk];exact B9 fun k hk=>by rw[Mm,h2 k hk]
 rw[e1, <-h1 i hi];have e2:∀t,i+1+t<=n->C9 (i+1+t) (fun k=>L i k*y k)=y i+C9 i (fun m=>L i m*y m):=by
  intro t
  induction t with
  |zero=>intro _;rw[tD,C9,hL i hi,xW,g4d]
  |succ t ih=>intro ht;rw[<-uH,C9,ih (by omega),u i (i+1+t) (by omega) (by omega),tL,rO]
 have:=e2 (n-(i+1)) (by omega);rwa[show i+1+(n-(i+1))=n from by omega]at this
end Go.Proofs.YtiflhbllbgajeaaGreat
