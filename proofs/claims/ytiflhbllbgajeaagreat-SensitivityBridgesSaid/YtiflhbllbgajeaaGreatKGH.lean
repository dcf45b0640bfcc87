/- Part. -/
import Derived.Test.YtiflhbllbgajeaaGreatKGG
set_option linter.all false
namespace Go.Proofs.YtiflhbllbgajeaaGreat
open Go.Proofs.Tryz
open Go.Vc Go.Gw
open Go.IntKind (i64 u64 u32)
def kU:An:= {}
def kV:An:= {}
def KE:An:= {plan:= [(1,[3,7],[],true,(pZ9 0 3 (.q 3 (pZ9 4 3 (.q 7 (.p 8 (.p 9 .done))))))),(4,[3,7,10],[],true,(pZ9 0 3 (.q 3 (pZ9 4 3 (.q 7 (.p 8 (.p 9 (.q 10 (.p 11 (.e 12 (.p 13 .done)))))))))))]}
def NT:An:= {}
def Xr:An:= {}
def RR:A2 Nj.args->Prop:=fun(x:Cc)=>let b:=(u64.wrap x.2.1);let a:=(u64.wrap x.1);u64.wrap x.2.1≠0/\(0<x.2.1->(0:Int)<=i64.wrap (a.tmod b)/\i64.wrap (a.tmod b)<x.2.1/\i64.wrap (a.tmod b)=a.tmod x.2.1)
def pD:A2 Nk.args->Prop:=fun(x:Kv)=>(x.1,(0:Int))=(x.1,(0:Int))
def Px:A2 Ah.args->Prop:=fun(x:(List Int×Int)×Int×Unit)=>let e:=(1:Int);let d:=(↑x.1.1.length:Int);let c:=(x.1.1.length:Int);let b:=(0:Int);let a:=(i64.wrap (x.1.2+e)-e);(iB (decide (c<=x.1.2)) ((b<=b/\b<x.2.1)/\x.1.1=x.1.1/\b<=x.1.2/\x.1.2<=d) ((b<=i64.wrap a/\i64.wrap a<c)/\b<x.2.1/\Bf fun r=>(b<x.2.1->b<=r.1/\r.1<x.2.1/\r.1=(u64.wrap (gx b x.1.1 (i64.wrap a))).tmod x.2.1)->(b<=r.1/\r.1<x.2.1)/\x.1.1=x.1.1/\b<=i64.wrap (x.1.2+e)/\i64.wrap (x.1.2+e)<=d))
abbrev BP:=(List Int×Int)×Unit
def Uc:A2 Bt.args->Prop:=fun(x:BP)=>let b:=(x.1.1.length:Int);let a:=(0:Int);(a<(13:Int)/\a<=x.1.2/\x.1.2<=b)/\∀(r:C6) (o:BP),let c:=(o.1.1.length:Int);K4 r.1/\True->((Ty.int i64).sl.pair (Ty.int i64)).wf o.1/\True->a<=r.1/\r.1<13->o.1.1=x.1.1/\a<=o.1.2/\o.1.2<=b->(a<(4:Int)/\a<=o.1.2/\o.1.2<=c)/\∀(e:C6) (d:BP),K4 e.1/\True->((Ty.int i64).sl.pair (Ty.int i64)).wf d.1/\True->a<=e.1/\e.1<4->d.1.1=o.1.1/\a<=d.1.2/\d.1.2<=c->True/\I6 fun f=>f.1=rc (Rat.divInt (i64.wrap (r.1-6)) (i64.wrap (1+e.1)))->AF f.1/\d.1.1=x.1.1/\a<=d.1.2/\d.1.2<=(↑x.1.1.length:Int)
def Ii:A2 O9.args->Prop:=fun(x:BP)=>let b:=(x.1.1.length:Int);let a:=(0:Int);(a<(9:Int)/\a<=x.1.2/\x.1.2<=b)/\∀(r:C6) (o:BP),let c:=(o.1.1.length:Int);K4 r.1/\True->((Ty.int i64).sl.pair (Ty.int i64)).wf o.1/\True->a<=r.1/\r.1<9->o.1.1=x.1.1/\a<=o.1.2/\o.1.2<=b->(a<(4:Int)/\a<=o.1.2/\o.1.2<=c)/\∀(e:C6) (d:BP),K4 e.1/\True->((Ty.int i64).sl.pair (Ty.int i64)).wf d.1/\True->a<=e.1/\e.1<4->d.1.1=o.1.1/\a<=d.1.2/\d.1.2<=c->True/\I6 fun f=>f.1=rc (Rat.divInt (i64.wrap (1+r.1)) (i64.wrap (1+e.1)))->(AF f.1/\(0:Rat)<rv f.1)/\d.1.1=x.1.1/\a<=d.1.2/\d.1.2<=(↑x.1.1.length:Int)
def lH:An:= {loop:= [(3,⟨[0,4,5],[0],[(6,false,vI)],[(1,29,[.val (.int .i64), .val (.int .i64), .own (.sl tE) 79])],[]⟩)],plan:= [(5,[1,5],[8,10],false,(.p 0 (.q 1 (pZ9 2 3 (.q 5 (.e 6 (.e 7 (.e 8 (.p 9 (.e 10 .done))))))))))]}
def NY:An:= {loop:= [(4,⟨[2,3],[0,1],[(5,false,vI)],[],[]⟩)],plan:= [(6,[1,4,6,9],[],true,(.p 0 (.q 1 (.p 2 (.p 3 (.q 4 (.p 5 (.q 6 (.p 7 (.p 8 (.q 9 (.e 10 (.p 11 .done)))))))))))))]}
abbrev C6p:=Int×Int×Int×List (List EE)×Unit
def SF:A2 Jf.args->Prop:=fun(x:List (List QQ)×Int×Unit)=>let d:=(↑x.2.1.toNat:Int);let b:=(x.1.length:Int);∃(I:C6p->Prop),∃(f: _->Nat),I ((0:Int),b,x.2.1,[],())/\∀(p:C6p),let c:=(gx [] x.1 p.1);(Ty.int i64).wf p.1/\(Ty.int i64).wf p.2.1/\(Ty.int i64).wf p.2.2.1/\tE.sl.sl.wf p.2.2.2.1/\True->I p->(iB (decide (p.1<b)) ((0<=p.1/\p.1<b)/\(c.length<=(100000:Nat)/\MA K1 c)/\jQ fun r=>let a:=(i64.wrap (p.1+1),p.2.1,p.2.2.1,p.2.2.2.1++ [r.1],());TH c.length (fun(j:Nat)=>rv (c.getD j zr)) r.1->((p.2.2.2.1.length+ [r.1].length)*(24:Nat)<=(140737488355328:Nat)/\p.2.2.2.1.length+ [r.1].length<=9223372036854775807)/\I a/\f a<f p) (p.2.1=(↑x.1.length:Int)/\p.2.2.1=d/\p.2.2.2.1.length=x.1.length/\∀(i:Nat),i<x.1.length->Z9 (p.2.2.2.1.getD i [])/\(∀(e:D2),e∈p.2.2.2.1.getD i []->0<=e.1/\e.1<d)/\∀(j:Nat),j<x.2.1.toNat->A5 (p.2.2.2.1.getD i []) (↑j:Int)=rv ((x.1.getD i []).getD j zr)))
def Ui:A2 V8.args->Prop:=fun(x:MM×MM×Unit)=>let d:=(x.2.1.2.2.length:Int);let g:=(J9 (decide (x.1.1≠x.2.1.1)) true (decide (x.1.2.1≠x.2.1.2.1)));let b:Prop:=(false=true↔x.1=x.2.1/\∀(v:List EE),v∈x.1.2.2->∀(e:EE),e∈v->e.2=rc (rv e.2));let a:=(x.1.2.2.length:Int);(iB (J9 g true (decide (a≠d))) (b) (∃(I:C6->Prop),∃(c: _->Nat),I ((0:Int),())/\∀(p:C6),let f:=(i64.wrap (p.1+1),());(Ty.int i64).wf p.1/\True->I p->(iB (decide (p.1<a)) ((0<=p.1/\p.1<a)/\(0<=p.1/\p.1<d)/\UM K1 (gx [] x.1.2.2 p.1)/\Rq fun r=>r.1=decide (gx [] x.1.2.2 p.1=gx [] x.2.1.2.2 p.1/\∀(e:EE),e∈gx [] x.1.2.2 p.1->e.2=rc (rv e.2))->(iB ((!r.1)) (b) (I f/\c f<c p))) ((true=true↔x.1=x.2.1/\∀(v:List EE),v∈x.1.2.2->∀(e:EE),e∈v->e.2=rc (rv e.2))))))
def aQ (x:A2 Jf.args) (b:awf Jf.args x) (a:Jf.pre x):SF x:=by
 obtain⟨D,C,_⟩:=x;change List (List D7)at D;change Int at C;obtain⟨k,b,c1,c⟩:(∀l∈D,MA K1 l/\(l.length:Int)=C)/\0<=C/\C<=16384/\D.length<=16384:=a;simp only[SF,iB,jQ];refine⟨fun p=>0<=p.1/\p.1<=(D.length:Int)/\p.2.1=(D.length:Int)/\p.2.2.1=C/\p.2.2.2.1.length=p.1.toNat/\∀i,i<p.1.toNat->TH C.toNat (fun j=>rv ((D.getD i []).getD j zr)) (p.2.2.2.1.getD i []),fun p=>((D.length:Int)-p.1).toNat,⟨qI _,qD _,rfl,rfl,rfl,fun i a=>by simp at a⟩, ?_⟩;rintro⟨i,f,h,rows,_⟩ _ ⟨a,n,b,g,j,c⟩;change Int at i f h;change List (List D2)at rows;simp only at a n b g j c⊢;refine⟨fun h=> ?_,fun h=> ?_⟩
 . have h:=qA h;have j:=I0 (d:=([]:List D7)) a h;obtain⟨f,n⟩:=k _ j;refine⟨⟨a,h⟩,⟨by omega,f⟩, ?_⟩;rintro⟨v,_⟩ _ f;simp only at f⊢;rw[wv (by omega)];rw[show(gx [] D i).length=C.toNat from by omega,G5 a h]at f;refine⟨⟨by simp only[rA];omega,by simp only[rA];omega⟩,⟨by omega,by omega,b,g,by rw[rL,rA];omega,fun k g=> ?_⟩,by omega⟩;show TH _ _ ((rows++ [v]).getD k []);by_cases j:k<rows.length
   . have a:(rows++ [v]).getD k []=rows.getD k []:=by
      rw[qF,uO j, <-qF]
     rw[a];exact c k (by omega)
   . have j:k=i.toNat:=by omega
     have a:(rows++ [v]).getD k []=v:=by
      rw[qF,tX (by omega),show k-rows.length=0 from by omega];rfl
     rw[a,j];exact f
 . have h:=qB h;exact⟨b,by omega,by omega,fun k g=>c k (by omega)⟩
def GP (x:A2 V8.args) (B:awf V8.args x) (y:V8.pre x):Ui x:=by
 obtain⟨⟨R,C,D⟩,⟨R',C',D'⟩,_⟩:=x;have E:D.length<=9223372036854775807:=B.1.2.2.1;change Int at R C R' C';change List (List D2)at D D';have z:Ef K1 (R,C,D):=y;simp only[Ui,iB,Rq];simp only[I9];refine⟨fun h=> ?_,fun h=> ?_⟩
 . simp only[uD,rS]at h;refine⟨fun a=>(by cases a),fun a=> ?_⟩;have c:=a.1;simp only[g0g]at c;obtain⟨rfl,rfl,rfl⟩:=c;simp at h
 . simp only[rJ,rQ,uQ]at h;obtain⟨⟨rfl,rfl⟩,F⟩:=h;refine⟨fun p=>0<=p.1/\p.1<=(D.length:Int)/\D.take p.1.toNat=D'.take p.1.toNat/\∀v∈D.take p.1.toNat,∀e∈v,e.2=rc (rv e.2),fun p=>((D.length:Int)-p.1).toNat,⟨qI _,qD _,by simp,by simp⟩, ?_⟩;rintro⟨i,_⟩ _ ⟨f,u,a,c⟩;change Int at i;simp only at f u a c⊢;refine⟨fun h=> ?_,fun h=> ?_⟩
   . have h:=qA h;have o:=I0 (d:=([]:List D2)) f h;have s:=H1 (d:=([]:List D2)) f h;have t:=H1 (d:=([]:List D2)) (l:=D') f (by omega);have r:D.take (i+1).toNat=D.take i.toNat++ [gx [] D i]:=by
      rw[show(i+1).toNat=i.toNat+1 from by omega,rP,s];rfl
     have A:D'.take (i+1).toNat=D'.take i.toNat++ [gx [] D' i]:=by
      rw[show(i+1).toNat=i.toNat+1 from by omega,rP,t];rfl
     refine⟨⟨f,h⟩,⟨f,by omega⟩,z _ o, ?_⟩;rintro⟨q,_⟩ _ k;simp only at k⊢;refine⟨fun b=>⟨fun j=>(by cases j),fun j=> ?_⟩,fun b=> ?_⟩
     . obtain⟨n,w⟩:=j;simp only[g0g,true_and]at n;subst n;rw[k,rG (⟨rfl,w _ o⟩: _ /\ _)]at b;cases b
     . rw[k]at b;have b:gx [] D i=gx [] D' i/\∀e∈gx [] D i,e.2=rc (rv e.2):=qA (by simpa using b);rw[wv (by omega)];refine⟨⟨by omega,by omega,by rw[r,A,a,b.1],fun v g=> ?_⟩,by omega⟩;rw[r]at g;rcases qY.1 g with g|g
       . exact c v g
       . rw[qO.1 g];exact b.2
   . have h:=qB h;rw[D4 (by omega),D4 (by omega)]at a;rw[D4 (by omega)]at c;subst a;exact⟨fun _=>⟨rfl,c⟩,fun _=>by trivial⟩
def grown (n m i j:Nat) (f:Nat->Nat->Rat) (rows:List (List D7)):Prop:=rows.length=n/\∀k,k<n->rows.getD k []=(List.range (if k<i then m else if k=i then j else 0)).map fun l=>rc (f k l)
def ZO (x:A2 Nk.args) (_:awf Nk.args x) (_:Nk.pre x):pD x:=rfl
def CE (x:A2 Ah.args) (b:awf Ah.args x) (c:Ah.pre x):Px x:=by
 obtain⟨⟨l,i⟩,n,_⟩:=x;have d:l.length<=9223372036854775807:=b.1.1.1;change Int at i n;change List Int at l;obtain⟨b,d,f⟩:0<n/\0<=i/\i<=(l.length:Int):=c;simp only[Px,iB,Bf];refine⟨fun h=>⟨⟨by omega,b⟩,by trivial,d,f⟩,fun h=> ?_⟩;have h:=qB h;rw[wv (a:=i+1) (by omega),wv (a:=i+1-1) (by omega)];refine⟨⟨by omega,by omega⟩,b, ?_⟩;rintro⟨r,_⟩ _ c;exact⟨⟨(c b).1,(c b).2.1⟩,by trivial,by omega,by omega⟩
def ZN (x:A2 Nj.args) (d:awf Nj.args x) (c:Nj.pre x):RR x:=by
 obtain⟨a,b,_⟩:=x;change Int at a b;have f:0<b:=c;have c:OR .i64 b:=d.2.1;unfold OR at c;rw[show i64.min= -9223372036854775808 from by decide,show i64.max=9223372036854775807 from by decide]at c;simp only[RR];have e:u64.wrap b=b:=by simp[IntKind.wrap,IntKind.bits,IntKind.signed];omega
 have c:0<=u64.wrap a:=by simp[IntKind.wrap,IntKind.bits,IntKind.signed];omega
 rw[e];have d:0<=(u64.wrap a).tmod b:=zH _ c;have c:(u64.wrap a).tmod b<b:=Int.tmod_lt_of_pos _ f;rw[wv (by omega)];exact⟨by omega,fun _=>⟨d,c,rfl⟩⟩
def Pb {a b:Int} (d:a.natAbs<4294967296) (c:0<b) (f:b.natAbs<4294967296):AF (rc (Rat.divInt a b)):=by
 refine⟨_, ?_,rfl⟩;rw[ID c];exact YR (by omega) (Gz (by simpa using d)) (Gz (by simpa using f))
def GK (x:A2 Bt.args) (b:awf Bt.args x) (a:Bt.pre x):Uc x:=by
 obtain⟨⟨l,i⟩,_⟩:=x;change Int at i;change List Int at l;obtain⟨b,c⟩:0<=i/\i<=(l.length:Int):=a;simp only[Uc,I6];refine⟨⟨by omega,b,c⟩, ?_⟩;rintro⟨b,_⟩ ⟨⟨f,d⟩,_⟩ _ _ c a;change Int at d b;change List Int at f;simp only at c a⊢;obtain⟨rfl,b,c⟩:=a;refine⟨⟨by omega,b,c⟩, ?_⟩;rintro⟨d,_⟩ ⟨⟨h,g⟩,_⟩ _ _ f a;change Int at g d;change List Int at h;simp only at f a⊢;obtain⟨rfl,b,c⟩:=a;refine⟨trivial, ?_⟩;rintro⟨q,_⟩ _ a;simp only at a⊢;rw[wv (by omega),wv (by omega)]at a;exact⟨by rw[a];exact Pb (by omega) (by omega) (by omega),by trivial,b,c⟩
def Dy:An:= {}
def Jq:An:= {join:= [(16,⟨[0,1,2,6],[],[],[],[(0, .row tE 106)]⟩)],loop:= [(2,⟨[0,1,2,6],[],[(7,false,vI),(8,false,vI)],[],[(0, .row tE 106)]⟩),(9,⟨[0,1,2,6],[],[(7,false,vI),(8,false,vI)],[],[(0, .row tE 106)]⟩),(7,⟨[0,1,2],[],[(6,false,vI)],[],[(0, .row tE 106)]⟩)]}
def Eo:An:= {loop:= [(4,⟨[0,1,2,3,8],[],[(9,false,vI)],[],[(0, .row tE 106)]⟩),(1,⟨[0,1,2,3],[],[(8,false,vI)],[],[(0, .row tE 106)]⟩)],plan:= [(4,[8,13],[],false,(pZ9 0 8 (.q 8 (pZ9 9 4 (.q 13 (.e 14 (.p 15 (.p 16 .done)))))))),(6,[9,13],[15,17],true,(pZ9 0 9 (.q 9 (pZ9 10 3 (.q 13 (.p 14 (.e 15 (.p 16 (.e 17 .done)))))))))]}
def KR:An:= {}
def KQ:An:= {join:= [(14,⟨[3,18,19,20],[],[(4,false,vI)],[],[(0, .row tE 106)]⟩)],loop:= [(8,⟨[3,18,19],[],[(4,false,vI),(20,false,vI)],[],[(0, .row tE 106)]⟩)],plan:= [(10,[8,10],[],true,(pZ9 0 8 (.q 8 (.p 9 (.q 10 (.p 11 (.p 12 .done))))))),(11,[8,10],[14],true,(pZ9 0 8 (.q 8 (.p 9 (.q 10 (.e 11 (.p 12 (.p 13 (.e 14 .done)))))))))]}
def Q5:A2 E8.args->Prop:=fun(x:List EE×((EE×EE×Unit->Prop)×(EE×EE×Unit->Int))×Unit)=>let a:=(x.1.length:Int);Go.Proofs.Tryz.prog=Go.Proofs.Tryz.prog/\false=false/\((AO x.2.1.1 fun(z:TQ)=>x.2.1.2 z)/\a=a/\List.length x.1<=20)/\∀(r:Unit) (o:BQ),True->tE.sl.wf o.1/\True->True->o.1.Perm x.1/\Yt (fun(z:TQ)=>x.2.1.2 z) o.1->True/\o.1.Perm x.1/\Yt x.2.1.2 o.1
abbrev A8o:=Int×Int×List EE×Unit
abbrev bO:=Int×List EE×Unit
def Bb:A2 H4.args->Prop:=fun(x:List EE×Int×((EE×EE×Unit->Prop)×(EE×EE×Unit->Int))×Unit)=>let g:=(0:Int);∃(I:A8o->Prop),∃(a: _->Nat),I (g,(20:Int),x.1,())/\∀(p:A8o),let f:=(p.2.2.1.length:Int);let b:=p.1.toNat;(Ty.int i64).wf p.1/\(Ty.int i64).wf p.2.1/\SJ p.2.2.1/\True->I p->(iB (decide (p.2.1<=x.2.1)) (Go.Proofs.Tryz.prog=Go.Proofs.Tryz.prog/\false=false/\((AO x.2.2.1.1 fun(z:TQ)=>x.2.2.1.2 z)/\g<=p.1/\p.1<=p.2.1/\p.2.1<=f/\List.length p.2.2.1<=100000)/\∀(r:Unit) (o:BQ),let c:=(p.2.1,i64.wrap (p.2.1+20),o);True->tE.sl.wf o.1/\True->True->o.1.Perm p.2.2.1/\List.take b o.1=List.take b p.2.2.1/\List.drop p.2.1.toNat o.1=List.drop p.2.1.toNat p.2.2.1/\Yt (fun(z:TQ)=>x.2.2.1.2 z) (List.take (Int.toNat p.2.1-Int.toNat p.1) (List.drop b o.1))->I c/\a c<a p) (Go.Proofs.Tryz.prog=Go.Proofs.Tryz.prog/\false=false/\((AO x.2.2.1.1 fun(z:TQ)=>x.2.2.1.2 z)/\g<=p.1/\p.1<=x.2.1/\x.2.1<=f/\List.length p.2.2.1<=100000)/\∀(r:Unit) (o:BQ),True->tE.sl.wf o.1/\True->True->o.1.Perm p.2.2.1/\List.take b o.1=List.take b p.2.2.1/\List.drop x.2.1.toNat o.1=List.drop x.2.1.toNat p.2.2.1/\Yt (fun(z:TQ)=>x.2.2.1.2 z) (List.take (Int.toNat x.2.1-Int.toNat p.1) (List.drop b o.1))->∃(I:bO->Prop),∃(a: _->Nat),I ((20:Int),o)/\∀(p:bO),(Ty.int i64).wf p.1/\SJ p.2.1/\True->I p->(iB (decide (p.1<x.2.1)) (∃(I_1:A8o->Prop),∃(c: _->Nat),I_1 (g,i64.wrap (2*p.1),p.2.1,())/\∀(h:A8o),let e:Prop:=(i64.wrap (h.1+p.1)<x.2.1);(Ty.int i64).wf h.1/\(Ty.int i64).wf h.2.1/\SJ h.2.2.1/\True->I_1 h->(iB (decide (h.2.1<=x.2.1)) (Go.Proofs.Tryz.prog=Go.Proofs.Tryz.prog/\false=false/\False/\∀(r:Unit) (o:BQ),let b:=(h.2.1,i64.wrap (h.2.1+i64.wrap (2*p.1)),o);True->tE.sl.wf o.1/\True->True->True->I_1 b/\c b<c h) (∃(J:BQ->Prop),((iB (decide e) (Go.Proofs.Tryz.prog=Go.Proofs.Tryz.prog/\false=false/\False/\∀(r:Unit) (o:BQ),True->tE.sl.wf o.1/\True->True->True->J o) (J (h.2.2.1,()))))/\jQ fun i=>let d:=(i64.wrap (p.1*2),i);J i->I d/\a d<a p))) (True/\List.Perm p.2.1 x.1/\Yt x.2.2.1.2 p.2.1))))
def R3:A2 F3.args->Prop:=fun(x:List EE×Int×Int×((EE×EE×Unit->Prop)×(EE×EE×Unit->Int))×Unit)=>let h:=(0:Int);let f:=(1:Int);∃(I:bO->Prop),∃(j: _->Nat),I (i64.wrap (x.2.1+f),x.1,())/\∀(p:bO),(Ty.int i64).wf p.1/\SJ p.2.1/\True->I p->(iB (decide (p.1<x.2.2.1)) (∃(I_1:bO->Prop),∃(n: _->Nat),I_1 (p.1,p.2.1,())/\∀(m:bO),let k:=m.1.toNat;let i:=(i64.wrap (p.1+f),m.2.1,());let e:Prop:=(x.2.1<m.1);let d:=(i64.wrap (m.1-f));let g:=(List.set m.2.1 k (List.getD m.2.1 d.toNat F2));let c:=(m.2.1.length:Int);let l:Prop:=(h<=m.1/\m.1<c);let b:=(i64.wrap (m.1-f),g.set d.toNat (List.getD m.2.1 k F2),());let a:=(List.getD m.2.1 k F2,List.getD m.2.1 d.toNat F2,());let d:=(decide (x.2.2.2.1.2 a<h));(Ty.int i64).wf m.1/\SJ m.2.1/\True->I_1 m->(decide e=true->h<=m.1/\m.1<c)/\(decide e=true->h<=i64.wrap (m.1-f)/\i64.wrap (m.1-f)<c)/\Go.Proofs.Tryz.prog=Go.Proofs.Tryz.prog/\(decide e=true->x.2.2.2.1.1 a)/\((decide e=true->(Ty.int i64).wf (x.2.2.2.1.2 a))->(iB (J9 (decide e) d false) ((h<=i64.wrap (m.1-f)/\i64.wrap (m.1-f)<c)/\l/\l/\(h<=i64.wrap (m.1-f)/\i64.wrap (m.1-f)<(↑g.length:Int))/\I_1 b/\n b<n m) (I i/\j i<j p)))) (True/\List.Perm p.2.1 x.1/\List.take x.2.1.toNat p.2.1=List.take x.2.1.toNat x.1/\List.drop x.2.2.1.toNat p.2.1=List.drop x.2.2.1.toNat x.1/\Yt x.2.2.2.1.2 (List.take (x.2.2.1.toNat-x.2.1.toNat) (List.drop x.2.1.toNat p.2.1))))
def Qj:A2 Aw.args->Prop:=fun(x:TQ)=>True/\Bf fun r=>r.1=K6 x.1.1 x.2.1.1->r.1=K6 x.1.1 x.2.1.1
def Qi:A2 Av.args->Prop:=fun(x:BQ)=>let i:=(1:Int);let e:=(0:Int);let k:=e.toNat;let d:=(x.1.length:Int);True/\Rq fun r=>r.1=decide (Hx x.1)->(iB r.1 ((Hx x.1->x.1=x.1)/\(¬Hx x.1->Hx x.1/\(∀(j:Int),A5 x.1 j=A5 x.1 j)/\List.length x.1<=20/\UM (16777216:Nat) x.1)) ((e<=d/\d<=d/\(↑(64:Nat):Int)*d<=(281474976710656:Int)/\d<=(9223372036854775807:Int))/\∃(b:TQ->Prop),∃(a:TQ->Int),(∀(y:TQ),tE.wf y.1/\tE.wf y.2.1/\True->b y->True/\Bf fun z=>z.1=K6 y.1.1 y.2.1.1->false=false/\z.1=a y)/\(AO b a/\(Ml (List.replicate d.toNat F2) x.1).length<=(20:Nat))/\∀(s:Unit) (o:BQ),True->tE.sl.wf o.1/\True->True->o.1.Perm (Ml (List.replicate d.toNat F2) x.1)/\Yt a o.1->∃(I:A8o->Prop),∃(n: _->Nat),I (e,e,o)/\∀(p:A8o),let m:Prop:=(p.2.1<(↑o.1.length:Int));let l:=(i64.wrap (p.1-i));let g:=p.1.toNat;let c:=(p.2.2.1.length:Int);let f:Prop:=(e<=i64.wrap (p.1-i)/\i64.wrap (p.1-i)<c);let b:=(List.getD p.2.2.1 p.2.1.toNat F2);let a:=(List.getD p.2.2.1 l.toNat F2);let d:=(decide (a.1=b.1));(Ty.int i64).wf p.1/\(Ty.int i64).wf p.2.1/\SJ p.2.2.1/\True->I p->(iB (decide m) (∃(J:bO->Prop),((e<=p.2.1/\p.2.1<c)/\(decide (e<p.1)=true->e<=i64.wrap (p.1-i)/\i64.wrap (p.1-i)<c)/\(iB (J9 (decide (e<p.1)) d false) (f/\(E6 a.2/\E6 b.2)/\I6 fun r=>r.1=rc (rv a.2+rv b.2)->f/\J (p.1,List.set p.2.2.1 l.toNat (a.1,r.1),())) ((e<=p.1/\p.1<c)/\J (i64.wrap (p.1+i),List.set p.2.2.1 g b,()))))/\∀(q:bO),let h:=(q.1,i64.wrap (p.2.1+i),q.2.1,());(Ty.int i64).wf q.1/\SJ q.2.1/\True->J q->I h/\n h<n p) ((e<=e/\e<=p.1/\p.1<=c)/\(Hx x.1->List.drop k (List.take g p.2.2.1)=x.1)/\(¬Hx x.1->Hx (List.drop k (List.take g p.2.2.1))/\(∀(j:Int),A5 (List.drop k (List.take g p.2.2.1)) j=A5 x.1 j)/\(List.drop k (List.take g p.2.2.1)).length<=(20:Nat)/\UM (16777216:Nat) (List.drop k (List.take g p.2.2.1)))))))
def VX {a b:List D2} (h:a.Perm b) (j:Int):A5 a j=A5 b j:=by
 induction h with
 |nil=>rfl
 |cons e _ c=>rw[A5,A5,c]
 |swap e f l=>simp only[A5];rw[<-yI, <-yI,g4i (if f.1=j then rv f.2 else 0)]
 |trans _ _ c d=>rw[c,d]
def VW (e:D2) (j:Int):A5 [e] j=if e.1=j then rv e.2 else 0:=by
 simp only[A5,rN]
structure NP (o:List D2) (n i:Int) (c:List D2):Prop where
 n0:0<=n
 ni:n<=i
 il:i<=(o.length:Int)
 cl:c.length=o.length
 rest:∀j:Nat,i.toNat<=j->c.getD j F2=o.getD j F2
 ord:Hx (c.take n.toNat)
 cm:∀j,A5 (c.take n.toNat) j=A5 (o.take i.toNat) j
 le:∀e∈c.take n.toNat,∃y∈o.take i.toNat,y.1=e.1
 szs:∀e∈c.take n.toNat,sz (65537*i.toNat) e.2/\Ia e.2
def NP.init (o:List D2):NP o 0 0 o:=⟨qI _,qI _,qD _,rfl,fun _ _=>rfl,List.Pairwise.nil,fun _=>rfl,fun e a=>(by cases a),fun e a=>(by cases a)⟩
def HH {a:Type} {l:List a} {k:Nat} {x:a} (h:k<l.length):(l.set k x).take (k+1)=l.take k++ [x]:=by
 rw[rP,zD (qZ k),tB h];rfl
def Wh {a:Type} {l:List a} {k:Nat} (d:a) (h:k<l.length):l.take (k+1)=l.take k++ [l.getD k d]:=by
 rw[rP,qP h,H6 _ _ h];rfl
variable {o c:List D2} {n i:Int}
def NP.bound (h:NP o n i c) (g:o.Pairwise fun a b=>a.1<=b.1) (d:i<(o.length:Int)):∀e∈c.take n.toNat,e.1<=(o.getD i.toNat F2).1:=fun e f=>by
 obtain⟨y,j,d⟩:=h.le e f;obtain⟨k,f,rfl⟩:=uB.1 j;rw[qU]at f;rw[g1i]at d;have f:=h.n0;have f:=h.ni;have:=uA.1 g k i.toNat (by omega) (by omega) (by omega);rw[H6 _ _ (show i.toNat<o.length by omega), <-d];exact this
def NP.push (h:NP o n i c) (f:o.Pairwise fun a b=>a.1<=b.1) (w:UM 65536 o) (t:FV o) (d:i<(o.length:Int)) (k:0<n->(c.getD (n-1).toNat F2).1≠(o.getD i.toNat F2).1):NP o (n+1) (i+1) (c.set n.toNat (o.getD i.toNat F2)):=by
 have r:=h.n0;have g:=h.ni;have s:=h.cl;have j:=h.bound f d;have f:(c.set n.toNat (o.getD i.toNat F2)).take (n+1).toNat=c.take n.toNat++ [o.getD i.toNat F2]:=by
  rw[show(n+1).toNat=n.toNat+1 from by omega];exact HH (by omega)
 have l:o.take (i+1).toNat=o.take i.toNat++ [o.getD i.toNat F2]:=by
  rw[show(i+1).toNat=i.toNat+1 from by omega];exact Wh F2 (by omega)
 have u:∀e∈c.take n.toNat,e.1<(o.getD i.toNat F2).1:=fun e d=>by
  have g:=j e d;have v:0<n:=by
   rcases Int.lt_or_eq_of_le r with g|g
   . exact g
   . rw[<-g]at d;cases d
  have g:(n-1).toNat<c.length:=by omega
  have r:c.take n.toNat=c.take (n-1).toNat++ [c.getD (n-1).toNat F2]:=by
   rw[show n.toNat=(n-1).toNat+1 from by omega];exact Wh F2 g
  have g:=j (c.getD (n-1).toNat F2) (by rw[r];simp);have k:=k v;have g:=h.ord;rw[r]at d g;rcases qY.1 d with d|d
  . have:=(tY.1 g).2.2 e d _ (qO.2 rfl);omega
  . rw[qO]at d;subst d;omega
 have g:o.getD i.toNat F2∈o:=C8 (by omega);refine⟨by omega,by omega,by omega,by rw[qM];exact s,fun j k=> ?_, ?_,fun j=> ?_,fun e d=> ?_,fun e d=> ?_⟩
 . rw[qF,tF (by omega), <-qF];exact h.rest j (by omega)
 . rw[f];exact lJ h.ord u
 . rw[f,l,N2,N2,h.cm]
 . rw[f]at d;rw[l];rcases qY.1 d with d|d
   . obtain⟨y,j,k⟩:=h.le e d;exact⟨y,sJ _ j,k⟩
   . rw[qO]at d;subst d;exact⟨_,tI _ (qO.2 rfl),rfl⟩
 . rw[f]at d;rcases qY.1 d with d|d
   . exact⟨G3 (h.szs e d).1 (by omega),(h.szs e d).2⟩
   . rw[qO]at d;subst d;exact⟨G3 (w _ g) (by omega),t _ g⟩
def NP.add (h:NP o n i c) (O:UM 65536 o) (G:FV o) (W:i<(o.length:Int)) (Z:0<n) (r:(c.getD (n-1).toNat F2).1=(o.getD i.toNat F2).1):sz (65537*i.toNat) (c.getD (n-1).toNat F2).2/\sz 65536 (o.getD i.toNat F2).2/\NP o n (i+1) (c.set (n-1).toNat ((c.getD (n-1).toNat F2).1,rc (rv (c.getD (n-1).toNat F2).2+rv (o.getD i.toNat F2).2))):=by
 have a0:=h.ni;have F:=h.cl;have s:(n-1).toNat<c.length:=by omega
 have w:c.take n.toNat=c.take (n-1).toNat++ [c.getD (n-1).toNat F2]:=by
  rw[show n.toNat=(n-1).toNat+1 from by omega];exact Wh F2 s
 have v:o.take (i+1).toNat=o.take i.toNat++ [o.getD i.toNat F2]:=by
  rw[show(i+1).toNat=i.toNat+1 from by omega];exact Wh F2 (by omega)
 have H:c.getD (n-1).toNat F2∈c.take n.toNat:=by rw[w];simp
 have u:o.getD i.toNat F2∈o:=C8 (by omega);obtain⟨A,T⟩:=h.szs _ H;have B:=O _ u;have U:=G _ u;refine⟨A,B, ?_⟩;have j:=h.ord;have l:=h.cm;have t:=h.le;have f:=h.szs;rw[w]at j l t f;have J:=h.rest;generalize Y:c.getD (n-1).toNat F2=z at*;generalize o.getD i.toNat F2=g at*;have d:∀x:D2,(c.set (n-1).toNat x).take n.toNat=c.take (n-1).toNat++ [x]:=fun x=>by
  rw[show n.toNat=(n-1).toNat+1 from by omega];exact HH s
 obtain⟨P,a1,Q⟩:=tY.1 j;have I:qs (65537*(i+1).toNat) (rv z.2+rv g.2):=by
  have a:1<=i.toNat:=by omega
  exact N7 (YQ (Hi T A (by omega)) (Hi U B (by decide))) (by omega)
 refine⟨h.n0,by omega,by omega,by rw[qM];exact F,fun y X=> ?_, ?_,fun y=> ?_,fun e b=> ?_,fun e b=> ?_⟩
 . rw[qF,tF (by omega), <-qF];exact J y (by omega)
 . rw[d];exact tY.2 ⟨P,zP _ _,fun D E V k=>by rw[qO]at k;subst k;exact Q D E z (qO.2 rfl)⟩
 . rw[d,v,N2,N2, <-l,N2,VW,VW,VW];simp only;rw[E4,r,yI];congr 1;split
   . rfl
   . rw[rN]
 . rw[d]at b;rw[v];rcases qY.1 b with a|a
   . obtain⟨R,M,N⟩:=t e (sJ _ a);exact⟨R,sJ _ M,N⟩
   . rw[qO]at a;subst a;exact⟨g,tI _ (qO.2 rfl),r.symm⟩
 . rw[d]at b;rcases qY.1 b with a|a
   . exact⟨G3 (f e (sJ _ a)).1 (by omega),(f e (sJ _ a)).2⟩
   . rw[qO]at a;subst a;exact⟨BN I,UC _⟩
def DJ (x:A2 Aw.args) (a:awf Aw.args x) (_:Aw.pre x):Qj x:=by
 simp only[Qj,Bf];exact⟨trivial,fun r _ h=>h⟩
def Ct (x:A2 F3.args) (a1:awf F3.args x) (P:F3.pre x):R3 x:=by
 obtain⟨l,a,b,⟨T,g⟩,_⟩:=x;change List (Int×(Bool×List Int)×List Int)at l;change Int at a b;obtain⟨⟨O,R,N⟩,V,W,X,Z⟩:AO T g/\0<=a/\a<=b/\b<=(l.length:Int)/\l.length<=100000:=P;simp only[R3,iB];have Q:∀x y z:D2,¬g (y,x,())<0->¬g (z,y,())<0->¬g (z,x,())<0:=fun x y z v f=>R z y x f v
 refine⟨fun p=>a+1<=p.1/\(p.1<=b\/p.1=a+1)/\p.2.1.Perm l/\p.2.1.take a.toNat=l.take a.toNat/\p.2.1.drop b.toNat=l.drop b.toNat/\(∀s t,a.toNat<=s->s<t->t<p.1.toNat->t<b.toNat->¬g (p.2.1.getD t F2,p.2.1.getD s F2,())<0),fun p=>(b-p.1).toNat, ?_, ?_⟩
 . rw[wv (by omega)];refine⟨qI _, .inr rfl,wS _,rfl,rfl,fun s t v f k w=> ?_⟩;change t<(a+1).toNat at k;omega
 rintro⟨i,m,_⟩ _ ⟨M,v,f,k,w,E⟩;change Int at i;change List (Int×(Bool×List Int)×List Int)at m;simp only at M v f k w E⊢;have a0:=f.length_eq;refine⟨fun h=> ?_,fun h=> ?_⟩
 . have h:=qA h;refine⟨fun p=>a<=p.1/\p.1<=i/\p.2.1.Perm l/\p.2.1.take a.toNat=l.take a.toNat/\p.2.1.drop b.toNat=l.drop b.toNat/\B2c (fun x y=>¬g (y,x,())<0) F2 p.2.1 a.toNat i.toNat p.1.toNat,fun p=>(p.1-a).toNat,⟨by show a<=i;omega,qI _,f,k,w,A1d fun s t n o r=>E s t n o r (by omega)⟩, ?_⟩;rintro⟨j,y,_⟩ _ ⟨I,J,u,A,B,D⟩;change Int at j;change List (Int×(Bool×List Int)×List Int)at y;simp only at I J u A B D⊢;have a2:=u.length_eq;have H:i64.wrap (j-1)=j-1:=wv (by omega);rw[H];have G:(j-1).toNat=j.toNat-1:=by omega
   rw[G];refine⟨fun F=>⟨by omega,by omega⟩,fun F=> ?_,trivial,fun _=>O _ _,fun _=>⟨fun c=> ?_,fun c=> ?_⟩⟩
   . have F:=qA F;exact⟨by omega,by omega⟩
   . rw[K7]at c;simp only[qC,rS]at c;obtain⟨a4,U⟩:=c;refine⟨⟨by omega,by omega⟩,⟨by omega,by omega⟩,⟨by omega,by omega⟩,⟨by omega,by rw[qM];omega⟩,⟨by omega,by omega, ?_, ?_, ?_, ?_⟩,by omega⟩
     . exact(A2t (d:=F2) (l:=y) (j:=j.toNat) (by omega)).trans u
     . exact(A2u (d:=F2) (l:=y) (by omega)).trans A
     . exact(A2s (d:=F2) (l:=y) (by omega)).trans B
     . exact A6u D (by omega) (by omega) (by omega) (N _ _ U)
   . rw[K7]at c;simp only[xG,rQ]at c;rw[wv (by omega)];refine⟨⟨by omega, .inl (by omega),u,A,B,fun s t n o r a3=> ?_⟩,by omega⟩;refine B2d D Q (by omega) (fun Y=> ?_) s t n o (by change t<(i+1).toNat at r;omega);rcases c with c|c
     . omega
     . exact c
 . have h:=qB h;refine⟨trivial,f,k,w, ?_⟩;unfold Yt;have:=YM (q:=fun x y=>¬g (y,x,())<0) (d:=F2) (l:=m) (a:=a.toNat) (b:=b.toNat) (by omega) fun s t n o r=>E s t n o (by omega) r
   exact this
def Hu (x:A2 H4.args) (O:awf H4.args x) (j:H4.pre x):Bb x:=by
 obtain⟨l,n,⟨G,c⟩,_⟩:=x;change List (Int×(Bool×List Int)×List Int)at l;change Int at n;obtain⟨u,N,J⟩:AO G c/\n=(l.length:Int)/\l.length<=20:=j;simp only[Bb,iB,jQ];refine⟨fun p=>(p.1=0/\p.2.1=20/\p.2.2.1=l)\/(p.1=20/\p.2.1=40/\n=20/\p.2.2.1.Perm l/\Yt c p.2.2.1),fun p=>(40-p.2.1).toNat, .inl ⟨rfl,rfl,rfl⟩, ?_⟩;rintro⟨b,r,m,_⟩ _ i;change Int at b r;change List (Int×(Bool×List Int)×List Int)at m;simp only at i⊢;refine⟨fun h=> ?_,fun h=> ?_⟩
 . have h:=qA h;obtain⟨rfl,rfl,rfl⟩:b=0/\r=20/\m=l:=by
    rcases i with s| ⟨_,s,_⟩
    . exact s
    . omega
   refine⟨trivial,trivial,⟨u,qI _,by omega,by omega,by omega⟩, ?_⟩;rintro H ⟨o,_⟩ _ _ _ ⟨d,f,k,a⟩;simp only at d f k a⊢;rw[wv (by omega)];refine⟨.inr ⟨by trivial,by trivial,by omega,d, ?_⟩,by simp⟩;have B:=d.length_eq;change Yt c ((o.drop 0).take (20-0))at a;rw[tW,qW (by omega)]at a;exact a
 . have h:=qB h;have A:0<=b/\b<=n/\m.Perm l/\(b=0\/b=n/\Yt c m):=by
    rcases i with⟨rfl,rfl,rfl⟩ | ⟨rfl,rfl,I,j,s⟩
    . exact⟨qI _,by omega,wS _, .inl rfl⟩
    . exact⟨by decide,by omega,j, .inr ⟨by omega,s⟩⟩
   obtain⟨E,F,z,g⟩:=A;have M:=z.length_eq;refine⟨trivial,trivial,⟨u,E,F,by omega,by omega⟩, ?_⟩;rintro H ⟨o,_⟩ _ _ _ ⟨d,f,k,a⟩;simp only at d f k a⊢;have B:=d.length_eq;have D:Yt c o:=by
    rcases g with g| ⟨g,s⟩
    . change Yt c ((o.drop b.toNat).take (n.toNat-b.toNat))at a;rw[g]at a;change Yt c ((o.drop 0).take (n.toNat-0))at a;rw[tW,qW (by omega)]at a;exact a
    . rw[qW (by omega),qW (by omega)]at f;rw[f];exact s
   refine⟨fun p=>p.1=20/\p.2.1.Perm l/\Yt c p.2.1,fun _=>0,⟨rfl,d.trans z,D⟩, ?_⟩;rintro⟨P,Q,_⟩ _ ⟨v,w,y⟩;simp only at v w y⊢;subst v;refine⟨fun t=> ?_,fun _=>⟨trivial,w,y⟩⟩;have t:=qA t;omega
def Ck (x:A2 E8.args) (a:awf E8.args x) (c:E8.pre x):Q5 x:=by
 obtain⟨l,⟨d,f⟩,_⟩:=x;obtain⟨b,a⟩:AO d f/\l.length<=20:=c;simp only[Q5];refine⟨trivial,trivial,⟨b,trivial,a⟩, ?_⟩;rintro r ⟨o,_⟩ _ _ _ h;exact⟨trivial,h⟩
def nU:AO (fun _=>True) (fun z=>K6 z.1.1 z.2.1.1):=by
 refine⟨fun _ _=>trivial,fun a b c=> ?_,fun a b=> ?_⟩
 . simp only[K6];split<;>split<;>split<;>(try split)<;>(try split)<;>(try split)<;>omega
 . simp only[K6];split<;>split<;>(try split)<;>(try split)<;>omega
def B0k {a b:Int} :¬K6 a b<0↔b<=a:=by
 unfold K6;split
 . omega
 . split<;>omega
def DI (x:A2 Av.args) (b:awf Av.args x) (a:Av.pre x):Qi x:=by
 obtain⟨l,_⟩:=x;have s:FV l:=LD b.1.2;change List D2 at l;have a:cL l:=a;simp only[Qi,iB,Bf,I6,Rq];refine⟨trivial, ?_⟩;rintro⟨l,_⟩ _ b;simp only at b⊢;subst b;refine⟨fun h=>⟨fun _=>by trivial,fun k=>absurd (qA h) k⟩,fun h=> ?_⟩;have r:=qB h;obtain⟨b,g⟩:=a.resolve_left r;refine⟨⟨by omega,by omega,by omega,by omega⟩,fun _=>True,fun z=>K6 z.1.1 z.2.1.1, ?_,⟨nU, ?_⟩, ?_⟩
 . rintro⟨a,d,_⟩ _ _;refine⟨trivial, ?_⟩;rintro⟨z,_⟩ _ g;exact⟨(by trivial),g⟩
 . rw[OH];exact b
 rintro l ⟨o,_⟩ _ _ _ ⟨j,f⟩;change List D2 at o;simp only[OH]at j f⊢;have b:=j.length_eq;have w:o.Pairwise fun a d=>a.1<=d.1:=f.imp fun {a d} b=>B0k.1 b
 have t:UM 65536 o:=fun e f=>g e (j.mem_iff.1 f)
 have l:FV o:=fun e f=>s e (j.mem_iff.1 f)
 refine⟨fun p=>NP o p.1 p.2.1 p.2.2.1,fun p=>((o.length:Int)-p.2.1).toNat,NP.init o, ?_⟩;rintro⟨n,i,c,_⟩ _ a;change Int at n i;change List D2 at c;simp only at a⊢;have v:=a.n0;have d:=a.ni;have k:=a.il;have d:=a.cl;have g:(c.length:Int)=(o.length:Int):=by rw[d]
 refine⟨fun d=> ?_,fun d=> ?_⟩
 . have d:=qA d;have k:c.getD i.toNat F2=o.getD i.toNat F2:=a.rest _ (qZ _);have s:0<=i/\i<(c.length:Int):=⟨by omega,by rw[g];exact d⟩;have u:i64.wrap (n-1)=n-1:=wv (by omega);rw[u,k];refine⟨fun p=>NP o p.1 (i+1) p.2.1,⟨s,fun b=> ?_,fun b=> ?_,fun b=> ?_⟩, ?_⟩
   . have b:=qA b;exact⟨by omega,by rw[g];omega⟩
   . rw[K7]at b;simp only[qC,rS]at b;obtain⟨s,u⟩:=b;have k:0<=n-1/\n-1<(c.length:Int):=⟨by omega,by rw[g];omega⟩;obtain⟨y,z,A⟩:=a.add t l d s u;refine⟨k,⟨V4 (G3 y (show 65537*i.toNat<=2199023255552 by omega)) (qZ _),V4 z (by decide)⟩, ?_⟩;rintro⟨q,_⟩ _ s;change D7 at q;simp only at s⊢;rw[s];exact⟨k,A⟩
   . have k:0<n->(c.getD (n-1).toNat F2).1≠(o.getD i.toNat F2).1:=fun hn f=>by
      rw[K7,rG hn,rG f]at b;cases b
     rw[wv (by omega)];exact⟨⟨by omega,by rw[g];omega⟩,a.push w t l d k⟩
   . rintro⟨l,k,_⟩ _ b;simp only;rw[wv (by omega)];exact⟨b,by omega⟩
 . have d:=qB d;have b:i=(o.length:Int):=by omega
   refine⟨⟨qI _,v,by rw[g];omega⟩,fun h=>absurd h r,fun _=> ?_⟩;have b:List.drop (Int.toNat 0) (List.take n.toNat c)=c.take n.toNat:=rfl;rw[b];refine⟨a.ord,fun b=> ?_, ?_,fun e f=>G3 (a.szs e f).1 (by omega)⟩
   . rw[a.cm,D4 (by omega)];exact VX j b
   . rw[qU];omega
def KP:An:= {loop:= [(5,⟨[1,6,14,15],[],[(16,false,vI)],[],[(0, .row tE 106)]⟩)]}
def Qh:A2 T5.args->Prop:=fun(x:List EE×List Int×Unit)=>let h:=(0:Int);let g:=(x.2.1.length:Int);let d:=(↑x.2.1.length:Int);let e:Prop:=(∀(j:Int),A5 x.1 j≠(0:Rat)->h<=j/\j<d);List.length x.2.1<=100000/\Rq fun r=>r.1=decide (L9 x.2.1 g)->(iB ((!r.1)) (L9 x.2.1 d->e->TG (fun(i:Int)=>if h<=i/\i<d then A5 x.1 (↑(List.idxOf i x.2.1):Int)else(0:Rat)) []/\false=true) (Pg x.1/\jQ fun n=>TG (A5 x.1) n.1->∃(I:bO->Prop),∃(μ: _->Nat),I (h,n)/\∀(p:bO),let l:Prop:=(p.1<(n.1.length:Int));let k:Prop:=(h<=p.1/\p.1<(p.2.1.length:Int));let c:=(List.getD p.2.1 p.1.toNat F2);let m:=(decide (g<=c.1));let f:=(i64.wrap (p.1+1),List.set p.2.1 p.1.toNat (gx h x.2.1 c.1,c.2),());(Ty.int i64).wf p.1/\SJ p.2.1/\True->I p->(iB (decide l) (k/\(iB (J9 (decide (c.1<h)) true m) (L9 x.2.1 d->e->TG (fun(i:Int)=>if h<=i/\i<d then A5 x.1 (↑(List.idxOf i x.2.1):Int)else(0:Rat)) []/\false=true) ((h<=c.1/\c.1<g)/\k/\I f/\μ f<μ p))) (List.length p.2.1<=100000/\∀(l':List EE),tE.sl.wf l'->l'.Perm p.2.1->List.Pairwise (fun(a b:Int×(Bool×List Int)×List Int)=>¬K6 b.1 a.1<h) l'->L9 x.2.1 d->e->TG (fun(i:Int)=>if h<=i/\i<d then A5 x.1 (↑(List.idxOf i x.2.1):Int)else(0:Rat)) l'/\true=true))))
abbrev R4:=List (Int×Bool)
def Q6 (es:R4):List Int:=es.map fun e=>e.1
def dS (k:Int) (v:Bool) (es:R4):(Q6 es).Nodup->(Q6 (Fy (.int .i64) k v es)).Nodup/\∀i,i∈Q6 (Fy (.int .i64) k v es)↔i=k\/i∈Q6 es:=by
 intro h;unfold Q6 at*;rw[OY];by_cases a:k∈es.map fun e=>e.1
 . rw[qQ a];exact⟨h,fun i=>⟨.inr,fun b=>b.elim (fun e=>e▸a) id⟩⟩
 . rw[qK a];refine⟨sW.2 ⟨h,by simp,fun f c g b d=> ?_⟩,fun i=> ?_⟩
   . rw[qO]at b;exact a (b▸d▸c)
   . rw[qY,qO];exact Or.comm
def dR (k:Int):∀(es:R4),(Q6 es).Nodup->(Q6 (Qq (.int .i64) k es)).Nodup/\∀i,i∈Q6 (Qq (.int .i64) k es)↔i≠k/\i∈Q6 es
 | [],h=>⟨h,fun i=>⟨fun a=>(by cases a),fun a=>(by cases a.2)⟩⟩
 |x::r,h=>by
  have d:=sB.1 (show(x.1::Q6 r).Nodup from h);have e:Qq (.int .i64) k (x::r)=if k=x.1 then r else x::Qq (.int .i64) k r:=by
   rw[Qq,Lr];by_cases b:k=x.1
   . rw[qQ b,rG b];rfl
   . rw[qK b,rH b];rfl
  rw[e];by_cases b:k=x.1
  . rw[qQ b];refine⟨d.2,fun i=>⟨fun a=>⟨fun e=>d.1 (by rw[<-b, <-e];exact a),qL _ a⟩,fun a=> ?_⟩⟩;exact(qG.1 (show i∈x.1::Q6 r from a.2)).resolve_left fun e=>a.1 (by rw[e,b])
  . rw[qK b];obtain⟨f,c⟩:=dR k r d.2;refine⟨sB.2 ⟨fun g=>d.1 ((c _).1 g).2,f⟩,fun i=> ?_⟩;constructor
    . intro a;rcases qG.1 (show i∈x.1::Q6 (Qq (.int .i64) k r)from a)with rfl|a
      . exact⟨fun e=>b e.symm,rB⟩
      . exact⟨((c i).1 a).1,qL _ ((c i).1 a).2⟩
    . rintro⟨b,a⟩;rcases qG.1 (show i∈x.1::Q6 r from a)with rfl|a
      . exact rB
      . exact qL _ ((c i).2 ⟨b,a⟩)
def Z4 (rows:List (List D2)) (i j:Nat):Rat:=A5 (rows.getD i []) (j:Int)
def C0b (n k:Nat) (p:Nat->Nat) (R:Nat->Nat->Rat) (j:Nat) (es:R4):Prop:=(Q6 es).Nodup/\∀i:Int,i∈Q6 es↔0<=i/\i<(n:Int)/\(∀a,a<k->i.toNat≠p a)/\R i.toNat j≠0
structure EI (n k:Nat) (S:Nat->Nat) (A:Nat->Nat->Rat) (rest P Q place:List Int) (rows lower:List (List D2)) (cols:List R4):Prop where
 elim:JZ n k A (ix P) (ix Q) (Z4 rows) (Z4 lower)
 lP:P.length=n
 lQ:Q.length=n
 lpl:place.length=n
 lrows:rows.length=n
 llow:lower.length=n
 lcols:cols.length=n
 P0:∀a,a<k->P.getD a 0=(ix P a:Int)
 Q0:∀a,a<k->Q.getD a 0=(ix Q a:Int)
 pl:∀a,a<k->place.getD (ix Q a) 0=(a:Int)
 rnd:rest.Nodup
 rmem:∀c:Int,c∈rest↔0<=c/\c<(n:Int)/\∀a,a<k->c.toNat≠ix Q a
 can:∀i,i<n->Z9 (rows.getD i [])/\(∀e∈rows.getD i [],0<=e.1/\e.1<(n:Int))/\∀j,qs (S k) (A5 (rows.getD i []) j)
 lcan:∀i,i<n->Z9 (lower.getD i [])/\(∀e∈lower.getD i [],0<=e.1/\e.1<(k:Int))
 lq:∀i,i<n->∀j,qs (S k) (A5 (lower.getD i []) j)
 fin:∀a,a<k->∀j,qs (S a) (A5 (rows.getD (ix P a) []) j)
 col:∀j:Int,j∈rest->C0b n k (ix P) (Z4 rows) j.toNat (cols.getD j.toNat [])
def Cf {P:List Int} {k m:Nat} {v:Int} (h:m≠k):ix (P.set k v) m=ix P m:=by
 unfold ix;rw[qF,tF (Ne.symm h), <-qF]
def D9 {a:Type} {l:List a} {d v:a} {k m:Nat} (h:m≠k):(l.set k v).getD m d=l.getD m d:=by
 rw[qF,tF (Ne.symm h), <-qF]
def B6 {a:Type} {l:List a} {d v:a} {k:Nat} (h:k<l.length):(l.set k v).getD k d=v:=by
 rw[qF,tB h];rfl
def Qp {P:List Int} {k:Nat} {v:Int} (h:k<P.length):ix (P.set k v) k=v.toNat:=by
 unfold ix;rw[B6 h]
variable {n k:Nat} {S:Nat->Nat} {A:Nat->Nat->Rat} {rest P Q place:List Int} {rows lower:List (List D2)} {cols:List R4}
def Xz (k:Nat) (p:Nat->Nat) (R:Nat->Nat->Rat) (r c i:Nat):Rat:=if i=r\/∃a,a<k/\i=p a then 0 else R i c/R r c
def B1e {p:Nat->Nat} {R:Nat->Nat->Rat} {r c:Nat} :Xz k p R r c r=0:=qQ (.inl rfl)
def B1d {p:Nat->Nat} {R:Nat->Nat->Rat} {r c a:Nat} (h:a<k):Xz k p R r c (p a)=0:=qQ (.inr ⟨a,h,rfl⟩)
def WL {p:Nat->Nat} {R:Nat->Nat->Rat} {r c i:Nat} (b:i≠r) (d:∀a,a<k->i≠p a):Xz k p R r c i=R i c/R r c:=qK fun f=>f.elim b fun⟨a,ha,e⟩=>d a ha e
def EI.step (h:EI n k S A rest P Q place rows lower cols) {r c:Int} (g:c∈rest) (l:r∈Q6 (cols.getD c.toNat [])) {a:List Int} {s f:List (List D2)} {d:List R4}
 (M:a.Nodup) (N:∀x,x∈a↔x∈rest/\x≠c) (G:s.length=n) (H:f.length=n) (I:d.length=n)
 (u:∀i,i<n->Z9 (s.getD i [])/\(∀e∈s.getD i [],0<=e.1/\e.1<(n:Int))/\(∀j,qs (S (k+1)) (A5 (s.getD i []) j))/\∀j,A5 (s.getD i []) j=A5 (rows.getD i []) j-Xz k (ix P) (Z4 rows) r.toNat c.toNat i*A5 (rows.getD r.toNat []) j)
 (y:∀i,i<n->f.getD i []=if Xz k (ix P) (Z4 rows) r.toNat c.toNat i=0 then lower.getD i []else lower.getD i []++ [((k:Int),rc (Xz k (ix P) (Z4 rows) r.toNat c.toNat i))])
 (F:S k<=S (k+1)) (R:∀i,i<n->qs (S (k+1)) (Xz k (ix P) (Z4 rows) r.toNat c.toNat i))
 (O:∀j:Int,j∈a->C0b n (k+1) (ix (P.set k r)) (Z4 s) j.toNat (d.getD j.toNat [])):
 EI n (k+1) S A a (P.set k r) (Q.set k c) (place.set c.toNat k) s f d:=by
 obtain⟨a,c1,w⟩:=(h.rmem c).1 g;obtain⟨d,a⟩:=h.col c g;obtain⟨d,g,B,D⟩:=(a r).1 l;have o:k<n:=by
  rcases sE k n with a|a
  . exact a
  . obtain⟨a,l,e⟩:=Gx (n:=n) (q:=ix Q) (fun a l=>h.elim.qlt a (by omega)) (fun a b l hb=>h.elim.qinj a b (by omega) (by omega)) (show c.toNat<n by omega);exact absurd e.symm (w a (by omega))
 have v:∀m,m<k->m≠k:=fun m g=>tT g
 have z:∀i,i<n->∀m:Nat,Z4 f i m=Z4 lower i m+if m=k then Xz k (ix P) (Z4 rows) r.toNat c.toNat i else 0:=fun i d m=>by
  show A5 (f.getD i []) (m:Int)=A5 (lower.getD i []) (m:Int)+ _;rw[y i d];by_cases t:Xz k (ix P) (Z4 rows) r.toNat c.toNat i=0
  . rw[qQ t,t];split<;>rw[rN]
  . rw[qK t,Gc];congr 1;by_cases g:m=k
    . subst g;rw[qQ rfl,qQ rfl]
    . rw[qK g,qK (by omega)]
 have J:∀i,i<n->Z4 lower i k=0:=fun i d=>D6 fun e f E=>by
  have:=(h.lcan i d).2 e f;omega
 refine⟨h.elim.step (r:=r.toNat) (c:=c.toNat) (fac:=Xz k (ix P) (Z4 rows) r.toNat c.toNat) o (by omega) (by omega) B w D (fun m g=>Cf (v m g)) (Qp (by rw[h.lP];exact o)) (fun m g=>Cf (v m g)) (Qp (by rw[h.lQ];exact o)) (fun i _ B D=>WL B D) B1e (fun a l=>B1d l) (fun i j d _=>(u i d).2.2.2 j) (fun i m d g=> ?_) (fun i d=> ?_), ?_, ?_, ?_,G,H,I,fun a l=> ?_,fun a l=> ?_,fun a l=> ?_,M,fun x=> ?_,fun i d=>⟨(u i d).1,(u i d).2.1,(u i d).2.2.1⟩,fun i d=> ?_,fun i d j=> ?_,fun a l j=> ?_,O⟩
 . rw[z i d,qK (v m g),rN]
 . rw[z i d,qQ rfl,J i d,tH]
 . rw[qM];exact h.lP
 . rw[qM];exact h.lQ
 . rw[qM];exact h.lpl
 . by_cases g:a=k
   . subst g;rw[B6 (by rw[h.lP];exact o),Qp (by rw[h.lP];exact o)];omega
   . rw[D9 g,Cf g];exact h.P0 a (by omega)
 . by_cases g:a=k
   . subst g;rw[B6 (by rw[h.lQ];exact o),Qp (by rw[h.lQ];exact o)];omega
   . rw[D9 g,Cf g];exact h.Q0 a (by omega)
 . by_cases g:a=k
   . subst g;rw[Qp (by rw[h.lQ];exact o),B6 (by rw[h.lpl];omega)]
   . rw[Cf g,D9 (fun e=>w a (by omega) e.symm)];exact h.pl a (by omega)
 . rw[N,h.rmem];constructor
   . rintro⟨⟨z,B,w⟩,D⟩;refine⟨z,B,fun a l=> ?_⟩;by_cases g:a=k
     . subst g;rw[Qp (by rw[h.lQ];exact o)];omega
     . rw[Cf g];exact w a (by omega)
   . rintro⟨z,B,w⟩;refine⟨⟨z,B,fun a l=>by have:=w a (by omega);rwa[Cf (v a l)]at this⟩,fun e=> ?_⟩;have:=w k (rW _);rw[Qp (by rw[h.lQ];exact o),e]at this;exact this rfl
 . rw[y i d];obtain⟨v,l⟩:=h.lcan i d;split
   . exact⟨v,fun e f=>by have:=l e f;omega⟩
   . rename_i t;refine⟨Mc v t fun e f=>(l e f).2,fun e f=> ?_⟩;rcases qY.1 f with f|f
     . have:=l e f;omega
     . rw[qO]at f;subst f;simp only;omega
 . rw[y i d];have t:=N7 (h.lq i d j) F;split
   . exact t
   . rw[Gc];by_cases l:(k:Int)=j
     . rw[qQ l,D6 fun e f E=>by have:=(h.lcan i d).2 e f;omega,tH];exact R i d
     . rw[qK l,rN];exact t
 . have f:∀i,i<n->Xz k (ix P) (Z4 rows) r.toNat c.toNat i=0->A5 (s.getD i []) j=A5 (rows.getD i []) j:=fun i d h0=>by
    rw[(u i d).2.2.2 j,h0,tK,tD,wR,rN]
   by_cases g:a=k
   . subst g;rw[Qp (by rw[h.lP];exact o),f _ (by omega) B1e];exact(h.can r.toNat (by omega)).2.2 j
   . rw[Cf g,f _ (h.elim.plt a (by omega)) (B1d (by omega))];exact h.fin a (by omega) j
def EI.stuck (h:EI n k S A rest P Q place rows lower cols) {c:Int} (a:c∈rest) (d:cols.getD c.toNat []= []):¬nonsing n A:=by
 obtain⟨f,c1,b⟩:=(h.rmem c).1 a;obtain⟨_,f⟩:=h.col c a;refine h.elim.stuck (c:=c.toNat) (by omega) b fun i g a=>qV fun b=> ?_
 have:=(f (i:Int)).2 ⟨qD _,by omega,a,b⟩;rw[d]at this;cases this
variable {n:Nat} {S:Nat->Nat} {A:Nat->Nat->Rat} {rest P Q place:List Int} {rows lower:List (List D2)} {cols:List R4}
def A2e {P:List Int} (h:P.length=n) (f:∀a,a<n->P.getD a 0=(ix P a:Int)) (k:∀a,a<n->ix P a<n) (g:∀a b,a<n->b<n->ix P a=ix P b->a=b):L9 P (n:Int):=by
 have d:∀a (c:a<P.length),P[a]=(ix P a:Int):=fun a c=>by
  rw[<-f a (by omega),qF,qP c];rfl
 refine⟨by rw[h],fun i l=> ?_,uA.2 fun i j f h o e=> ?_⟩
 . obtain⟨a,c,rfl⟩:=uB.1 l;have:=k a (by omega);rw[d a c];omega
 . rw[d i f,d j h]at e;have:=g i j (by omega) (by omega) (by omega);omega
def EI.places (h:EI n n S A rest P Q place rows lower cols):L9 place (n:Int)/\∀b,b<n->List.idxOf (b:Int) place=ix Q b:=by
 have d:∀j,j<n->∃b,b<n/\ix Q b=j/\place.getD j 0=(b:Int):=fun j a=>by
  obtain⟨b,c,e⟩:=Gx h.elim.qlt h.elim.qinj a;exact⟨b,c,e,by rw[<-e];exact h.pl b c⟩
 have l:∀j (a:j<place.length),place[j]=place.getD j 0:=fun j a=>by
  rw[qF,qP a];rfl
 refine⟨A2e h.lpl (fun j a=> ?_) (fun j a=> ?_) (fun i j f a e=> ?_),fun b c=> ?_⟩
 . obtain⟨b,c,_,e⟩:=d j a;unfold ix;rw[e];omega
 . obtain⟨b,c,_,e⟩:=d j a;unfold ix;rw[e];omega
 . obtain⟨b,c,g,k⟩:=d i f;obtain⟨f,s,o,r⟩:=d j a;unfold ix at e;rw[k,r]at e;have:b=f:=by omega
   rw[<-g, <-o,this]
 . have o:(b:Int)∈place:=by
    have a:=h.pl b c;have j:ix Q b<place.length:=by rw[h.lpl];exact h.elim.qlt b c
    rw[<-a, <-l _ j];exact wO j
   have a:=yP o;have c:place[List.idxOf (b:Int) place]=(b:Int):=g0x a;obtain⟨f,s,g,k⟩:=d (List.idxOf (b:Int) place) (by rw[<-h.lpl];exact a);rw[l _ a,k]at c;have:f=b:=by omega
   rw[<-g,this]
def EI.done (h:EI n n S A rest P Q place rows lower cols) (b:n<=16384) {L U:List (List D2)} (u:L.length=n) (v:U.length=n)
 (d:∀a,a<n->L.getD a []=lower.getD (ix P a) []++ [((a:Int),rc 1)])
 (o:∀a,a<n->TG (fun i=>if 0<=i/\i<(n:Int)then A5 (rows.getD (ix P a) []) ((List.idxOf i place:Nat):Int)else 0) (U.getD a [])):
 Da (P,Q,((n:Int),(n:Int),L),((n:Int),(n:Int),U)) (n:Int)/\∀i j,i<n->j<n->luM (P,Q,((n:Int),(n:Int),L),((n:Int),(n:Int),U)) n i j=A (ix P i) (ix Q j):=by
 obtain⟨_,l⟩:=h.places;have g:∀a m,a<n->el ((n:Int),(n:Int),L) a m=Z4 lower (ix P a) m+if m=a then 1 else 0:=fun a m c=>by
  show A5 (L.getD a []) (m:Int)=A5 (lower.getD (ix P a) []) (m:Int)+ _;rw[d a c,Gc];congr 1;by_cases f:m=a
  . rw[qQ f,qQ (by omega)]
  . rw[qK f,qK (by omega)]
 have k:∀a b,a<n->b<n->el ((n:Int),(n:Int),U) a b=Z4 rows (ix P a) (ix Q b):=fun a b c hb=>by
  show A5 (U.getD a []) (b:Int)=A5 (rows.getD (ix P a) []) _;rw[(o a c).2, <-l b hb];exact qQ ⟨qD _,by omega⟩
 have s:=h.elim.plt;have w:∀a,a<n->M0 (L.getD a []) (n:Int):=fun a c=>by
  rw[d a c];obtain⟨d,l⟩:=h.lcan _ (s a c);have t:∀e∈lower.getD (ix P a) [],e.1<(a:Int):=fun e b=>by
   refine qV fun r=>(d.2 e b).1 ?_
   have r:=l e b;have:=h.elim.low a e.1.toNat c (by omega) (by omega);unfold Z4 at this;rw[show((e.1.toNat:Nat):Int)=e.1 from by omega,Q7 d.1 b]at this;exact this
  have r:=Mc (q:=1) d (by decide) t;refine⟨r.1,fun e b=>⟨?_, ?_,(r.2 e b).1⟩⟩
  . rcases qY.1 b with b|b
    . exact(l e b).1
    . rw[qO]at b;subst b;exact qD _
  . rcases qY.1 b with b|b
    . exact(l e b).2
    . rw[qO]at b;subst b;simp only;omega
 have vU:∀a,a<n->M0 (U.getD a []) (n:Int):=fun a c=>by
  obtain⟨d,r⟩:=o a c;have l:∀e∈U.getD a [],0<=e.1/\e.1<(n:Int):=fun e b=>qV fun hh=>(d.2 e b).1 (by rw[<-Q7 d.1 b,r];exact qK hh)
  exact⟨d.1,fun e b=>⟨(l e b).1,(l e b).2,(d.2 e b).1⟩⟩
 refine⟨⟨A2e h.lP h.P0 h.elim.plt h.elim.pinj,A2e h.lQ h.Q0 h.elim.qlt h.elim.qinj,⟨rfl,rfl,qD _,by show(n:Int)<=16384;omega,qD _,by show(n:Int)<=16384;omega,by show(L.length:Int)=(n:Int);omega,fun b l=> ?_⟩,⟨rfl,rfl,qD _,by show(n:Int)<=16384;omega,qD _,by show(n:Int)<=16384;omega,by show(U.length:Int)=(n:Int);omega,fun b l=> ?_⟩,fun i j b d=> ?_⟩,fun i j b d=> ?_⟩
 . obtain⟨a,c,rfl⟩:=Bn [] l;exact w a (by rw[<-u];exact c)
 . obtain⟨a,c,rfl⟩:=Bn [] l;exact vU a (by rw[<-v];exact c)
 . have b:i<n:=by omega
   have d:j<n:=by omega
   refine⟨fun l=> ?_, ?_,fun l=> ?_, ?_⟩
   . show el ((n:Int),(n:Int),L) i j=0;rw[g i j b,h.elim.low i j b d (by omega),qK (by omega),rN]
   . show el ((n:Int),(n:Int),L) i i=1;rw[g i i b,h.elim.low i i b b (qZ _),qQ rfl,tH]
   . show el ((n:Int),(n:Int),U) i j=0;rw[k i j b d];exact h.elim.zero j (ix P i) d (s i b) fun a c e=>by have:=h.elim.pinj i a b (by omega) e;omega
   . show el ((n:Int),(n:Int),U) i i≠0;rw[k i i b b];exact h.elim.piv i b
 . rw[h.elim.prod b d];unfold luM;refine B8 fun m f=> ?_
   show el ((n:Int),(n:Int),L) i m*el ((n:Int),(n:Int),U) m j= _;rw[g i m b,k m j f d]
def EI.sizes (h:EI n n S A rest P Q place rows lower cols) (b:∀a,1<=S a) {L U:List (List D2)}
 (c:∀a,a<n->L.getD a []=lower.getD (ix P a) []++ [((a:Int),rc 1)])
 (d:∀a,a<n->TG (fun i=>if 0<=i/\i<(n:Int)then A5 (rows.getD (ix P a) []) ((List.idxOf i place:Nat):Int)else 0) (U.getD a [])) {R C:Int} {i:Nat} (hi:i<n) (j:Nat):qs (S n) (el (R,C,L) i j)/\qs (S i) (el (R,C,U) i j):=by
 constructor
 . show qs (S n) (A5 (L.getD i []) (j:Int));rw[c i hi,Gc];by_cases c:i=j
   . subst c;have c:A5 (lower.getD (ix P i) []) (i:Int)=0:=h.elim.low i i hi hi (qZ _);rw[qQ rfl,c,tH];exact YT (b n)
   . rw[qK (by omega),rN];exact h.lq _ (h.elim.plt i hi) _
 . show qs (S i) (A5 (U.getD i []) (j:Int));rw[(d i hi).2];dsimp only;split
   . exact h.fin i hi _
   . exact R5 (b i)
def EI.cans (h:EI n n S A rest P Q place rows lower cols) {L U:List (List D2)} (d:L.length=n) (k:U.length=n)
 (c:∀a,a<n->L.getD a []=lower.getD (ix P a) []++ [((a:Int),rc 1)])
 (j:∀a,a<n->TG (fun i=>if 0<=i/\i<(n:Int)then A5 (rows.getD (ix P a) []) ((List.idxOf i place:Nat):Int)else 0) (U.getD a [])):(∀v∈L,Z9 v)/\∀v∈U,Z9 v:=by
 constructor
 . intro v f;obtain⟨a,b,rfl⟩:=Bn [] f;have b:a<n:=by rw[<-d];exact b
   rw[c a b];obtain⟨c,g⟩:=h.lcan _ (h.elim.plt a b);refine Mc c (by decide) fun e d=>qV fun l=>(c.2 e d).1 ?_
   have l:=g e d;have:=h.elim.low a e.1.toNat b (by omega) (by omega);unfold Z4 at this;rw[show((e.1.toNat:Nat):Int)=e.1 from by omega,Q7 c.1 d]at this;exact this
 . intro v f;obtain⟨a,b,rfl⟩:=Bn [] f;exact(j a (by rw[<-k];exact b)).1
variable {n:Nat} {S:Nat->Nat} {rest P Q place:List Int} {rows lower:List (List D2)} {cols:List R4}
def gR (t:Int) (F:Nat->Int->Rat) (v:List D2) (j:Int) (es:R4):Prop:=(Q6 es).Nodup/\∀i:Int,i∈Q6 es↔(0<=i/\i<t/\F i.toNat j≠0)\/(i=t/\∃e∈v,e.1=j)
def B0r {t j:Int} {F:Nat->Int->Rat} {v:List D2} {es:R4} {b:Bool} {e:D2} (h:gR t F v j es) (d:e.1=j):gR t F (v++ [e]) j (Fy (.int .i64) t b es):=by
 obtain⟨a,c⟩:=dS t b es h.1;refine⟨a,fun i=> ?_⟩;rw[c,h.2];constructor
 . rintro(hh|hh| ⟨hh,x,a,c⟩)
   . exact .inr ⟨hh,e,by simp,d⟩
   . exact .inl hh
   . exact .inr ⟨hh,x,sJ _ a,c⟩
 . rintro(hh| ⟨hh,x,a,c⟩)
   . exact .inr (.inl hh)
   . exact .inl hh
def A6j {t j:Int} {F:Nat->Int->Rat} {v:List D2} {es:R4} {e:D2} (h:gR t F v j es) (b:e.1≠j):gR t F (v++ [e]) j es:=by
 refine⟨h.1,fun i=> ?_⟩;rw[h.2];refine g3k yN (g4z yN ⟨fun⟨x,a,hxj⟩=>⟨x,sJ _ a,hxj⟩,fun⟨x,a,hxj⟩=> ?_⟩);rcases qY.1 a with a|a
 . exact⟨x,a,hxj⟩
 . rw[qO]at a;subst a;exact absurd hxj b
def A6i {t j:Int} {F:Nat->Int->Rat} {v:List D2} {es:R4} {m:Int} (h:gR t F v j es) (k:0<=t) (f:M0 v m) (d:F t.toNat=A5 v):gR (t+1) F [] j es:=by
 refine⟨h.1,fun i=> ?_⟩;rw[h.2];constructor
 . rintro(⟨c,g,a⟩ | ⟨rfl,e,b,rfl⟩)
   . exact .inl ⟨c,by omega,a⟩
   . refine .inl ⟨k,by omega, ?_⟩;rw[d,Q7 f.1 b];exact(f.2 e b).2.2
 . rintro(⟨c,g,a⟩ | ⟨_,e,b,_⟩)
   . by_cases f:i=t
     . subst f;rw[d]at a;exact .inr ⟨rfl,DY a⟩
     . exact .inl ⟨c,by omega,a⟩
   . cases b
def EI.start {F:Nat->Int->Rat} {A:Nat->Nat->Rat} (f:∀i j,i<n->j<n->A i j=F i (j:Int)) (a:rest.length=n) (g:∀i,i<n->rest.getD i 0=(i:Int))
 (w:P.length=n) (x:Q.length=n) (y:place.length=n) (k:rows.length=n) (l:lower.length=n) (s:cols.length=n)
 (t:∀i,i<n->TG (F i) (rows.getD i [])) (z:∀i (j:Int),i<n->F i j≠0->0<=j/\j<(n:Int)) (v:∀i j,i<n->qs (S 0) (F i j)) (u:∀i,i<n->lower.getD i []= [])
 (B:∀j:Int,0<=j->j<(n:Int)->gR (n:Int) F [] j (cols.getD j.toNat [])):EI n 0 S A rest P Q place rows lower cols:=by
 have d:∀a,¬a<0:=fun a=>vB a
 have o:∀i (b:i<rest.length),rest[i]=(i:Int):=fun i b=>by
  rw[<-g i (by omega),qF,qP b];rfl
 refine⟨⟨rK _,fun a h=>absurd h (d a),fun a h=>absurd h (d a),fun a _ h=>absurd h (d a),fun a _ h=>absurd h (d a),fun i j b r=> ?_,fun a _ h=>absurd h (d a),fun a h=>absurd h (d a),fun a _ h=>absurd h (d a)⟩,w,x,y,k,l,s,fun a h=>absurd h (d a),fun a h=>absurd h (d a),fun a h=>absurd h (d a),uA.2 fun i j b r g e=> ?_,fun c=>⟨fun h=> ?_,fun h=> ?_⟩,fun i b=> ?_,fun i b=> ?_,fun i b j=> ?_,fun a l=>absurd l (d a),fun j r=> ?_⟩
 . rw[C7,tH,f i j b r];exact((t i b).2 _).symm
 . rw[o i b,o j r]at e;omega
 . obtain⟨i,b,rfl⟩:=uB.1 h;rw[o i b];exact⟨qD _,by omega,fun a l=>absurd l (d a)⟩
 . obtain⟨f,g,_⟩:=h;have h:c.toNat<rest.length:=by omega
   have:=o _ h;rw[show((c.toNat:Nat):Int)=c from by omega]at this;rw[<-this];exact wO h
 . obtain⟨k,s⟩:=t i b;exact⟨k,fun e h=>z i e.1 b (by rw[<-s,Q7 k.1 h];exact(k.2 e h).1),fun j=>by rw[s];exact v i j b⟩
 . rw[u i b];exact⟨Zt,fun e h=>by cases h⟩
 . rw[u i b,Sc];exact R5 (A2h (v i j b))
 . have u:0<=j/\j<(n:Int):=by
    obtain⟨i,b,rfl⟩:=uB.1 r;rw[o i b];omega
   obtain⟨k,s⟩:=B j u.1 u.2;refine⟨k,fun i=> ?_⟩;rw[s];have k:∀i:Int,0<=i->i<(n:Int)->Z4 rows i.toNat j.toNat=F i.toNat j:=fun i f g=>by
    show A5 (rows.getD i.toNat []) ((j.toNat:Nat):Int)= _;rw[(t i.toNat (by omega)).2,show((j.toNat:Nat):Int)=j from by omega]
   constructor
   . rintro(⟨f,g,b⟩ | ⟨_,e,h,_⟩)
     . exact⟨f,g,fun a l=>absurd l (d a),by rw[k i f g];exact b⟩
     . cases h
   . rintro⟨f,g,_,b⟩;exact .inl ⟨f,g,by rw[k i f g]at b;exact b⟩
def lX (Bs:Int->Int->Prop) (i:Int) (vs:List D2) (j:Int) (es:R4):Prop:=(Q6 es).Nodup/\∀x:Int,x∈Q6 es↔Bs j x/\¬(x=i/\∃e∈vs,e.1=j)
def lW (Bs:Int->Int->Prop) (i:Int) (vs:List D2) (j:Int) (es:R4):Prop:=(Q6 es).Nodup/\∀x:Int,x∈Q6 es↔Bs j x\/(x=i/\∃e∈vs,e.1=j)
variable {Bs:Int->Int->Prop} {i j:Int} {vs:List D2} {es:R4} {e:D2}
def lY (h:(Q6 es).Nodup/\∀x,x∈Q6 es↔Bs j x):lX Bs i [] j es:=⟨h.1,fun x=>by rw[h.2];exact⟨fun a=>⟨a,fun⟨_,e,he,_⟩=>by cases he⟩,fun a=>a.1⟩⟩
def B0o (h:(Q6 es).Nodup/\∀x,x∈Q6 es↔Bs j x):lW Bs i [] j es:=⟨h.1,fun x=>by rw[h.2];exact⟨.inl,fun a=>a.elim id fun⟨_,e,he,_⟩=>by cases he⟩⟩
def Vd (a:e.1=j):∃y∈vs++ [e],y.1=j:=⟨e,by simp,a⟩
def WK (b:e.1≠j):(∃y∈vs++ [e],y.1=j)↔∃y∈vs,y.1=j:=
 ⟨fun⟨y,a,hyj⟩=>by
  rcases qY.1 a with a|a
  . exact⟨y,a,hyj⟩
  . rw[qO]at a;subst a;exact absurd hyj b,fun⟨y,a,hyj⟩=>⟨y,sJ _ a,hyj⟩⟩
def B0q (h:lX Bs i vs j es) (c:e.1=j):lX Bs i (vs++ [e]) j (Qq (.int .i64) i es):=by
 obtain⟨a,b⟩:=dR i es h.1;refine⟨a,fun x=> ?_⟩;rw[b,h.2];exact⟨fun a=>⟨a.2.1,fun b=>a.1 b.1⟩,fun a=>⟨fun d=>a.2 ⟨d,Vd c⟩,a.1,fun b=>a.2 ⟨b.1,Vd c⟩⟩⟩
def A6h (h:lX Bs i vs j es) (a:e.1≠j):lX Bs i (vs++ [e]) j es:=⟨h.1,fun x=>by rw[h.2,WK a]⟩
def B0p {b:Bool} (h:lW Bs i vs j es) (d:e.1=j):lW Bs i (vs++ [e]) j (Fy (.int .i64) i b es):=by
 obtain⟨a,c⟩:=dS i b es h.1;refine⟨a,fun x=> ?_⟩;rw[c,h.2];exact⟨fun a=>a.elim (fun c=> .inr ⟨c,Vd d⟩) fun a=>a.elim .inl fun c=> .inr ⟨c.1,Vd d⟩,fun a=>a.elim (fun a=> .inr (.inl a)) fun c=> .inl c.1⟩
def A6g (h:lW Bs i vs j es) (a:e.1≠j):lW Bs i (vs++ [e]) j es:=⟨h.1,fun x=>by rw[h.2,WK a]⟩
def B0s {O N:Int->Prop} {pv nw:List D2} {a:R4} (b:lW (fun _ x=>Bs j x/\¬(x=i/\∃e∈pv,e.1=j)) i nw j a)
 (f:Bs j i↔O j) (g:(∃e∈pv,e.1=j)\/(O j↔N j)) (c:(∃e∈nw,e.1=j)↔N j):(Q6 a).Nodup/\∀x,x∈Q6 a↔(x≠i/\Bs j x)\/(x=i/\N j):=by
 refine⟨b.1,fun x=> ?_⟩;rw[b.2,c];by_cases c:x=i
 . subst c;rcases g with d|d
   . exact⟨fun b=>b.elim (fun a=>absurd ⟨rfl,d⟩ a.2) .inr,fun b=>b.elim (fun a=>absurd rfl a.1) .inr⟩
   . exact⟨fun b=>b.elim (fun a=> .inr ⟨rfl,d.1 (f.1 a.1)⟩) .inr,fun b=>b.elim (fun a=>absurd rfl a.1) .inr⟩
 . exact⟨fun b=>b.elim (fun a=> .inl ⟨c,a.1⟩) fun a=>absurd a.1 c,fun b=>b.elim (fun a=> .inl ⟨a.2,fun b=>c b.1⟩) fun a=>absurd a.1 c⟩
def EU {s:Nat} :∀ {a b:Nat},a<=b->sK s a<=sK s b
 |a,0,h=>by have:a=0:=by omega
            subst this;exact qZ _
 |a,b+1,h=>by
  by_cases c:a=b+1
  . subst c;exact qZ _
  . have:=EU (s:=s) (a:=a) (b:=b) (by omega);simp only[sK];omega
def C8w {s:Nat} (k:Nat):s<=sK s k:=EU (rK k)
def B8e {s:Nat} {x f r c:Rat} (h:qs s x) (d:qs s f) (g:qs s r) (b:qs s c):qs (4*s+1) (x-f/r*c):=by
 have a:=IZ h (PT (jP d g) b);rwa[show s+(s+s+s)+1=4*s+1 from by omega]at a
def inC (cols:List R4) (j x:Int):Prop:=x∈Q6 (cols.getD j.toNat [])
structure CI (n k s:Nat) (rest P:List Int) (rows0 lower0:List (List D2)) (r c:Int) (D:List Int) (rows lower:List (List D2)) (cols:List R4):Prop where
 lrows:rows.length=n
 llow:lower.length=n
 lcols:cols.length=n
 rd:∀i:Nat,i<n->(i:Int)∈D->Z9 (rows.getD i [])/\(∀e∈rows.getD i [],0<=e.1/\e.1<(n:Int))/\(∀j,qs (4*s+1) (A5 (rows.getD i []) j))/\∀j,A5 (rows.getD i []) j=A5 (rows0.getD i []) j-Xz k (ix P) (Z4 rows0) r.toNat c.toNat i*A5 (rows0.getD r.toNat []) j
 ru:∀i:Nat,i<n->(i:Int)∉D->rows.getD i []=rows0.getD i []
 lo:∀i:Nat,i<n->lower.getD i []=if(i:Int)∈D then lower0.getD i []++ [((k:Int),rc (Xz k (ix P) (Z4 rows0) r.toNat c.toNat i))]else lower0.getD i []
 col:∀j:Int,j∈rest->(Q6 (cols.getD j.toNat [])).Nodup/\∀x:Int,x∈Q6 (cols.getD j.toNat [])↔x≠r/\0<=x/\x<(n:Int)/\(∀a,a<k->x.toNat≠ix P a)/\Z4 rows x.toNat j.toNat≠0
variable {n k s:Nat} {S:Nat->Nat} {A:Nat->Nat->Rat} {rest P Q place:List Int} {rows lower rows1 lower1:List (List D2)} {cols cols1 cols2:List R4} {r c:Int}
def A3x {v:List D2} (h:Z9 v) (j:Int):(∃e∈v,e.1=j)↔A5 v j≠0:=
 ⟨fun⟨e,he,hj⟩=>by rw[<-hj,Q7 h.1 he];exact(h.2 e he).1,DY⟩
def EI.row (h:EI n k S A rest P Q place rows lower cols) (b:c∈rest) (d:r∈Q6 (cols.getD c.toNat [])):0<=r/\r<(n:Int)/\(∀a,a<k->r.toNat≠ix P a)/\Z4 rows r.toNat c.toNat≠0:=((h.col c b).2 r).1 d
def EI.crange (h:EI n k S A rest P Q place rows lower cols) (a:c∈rest):0<=c/\c<(n:Int):=⟨((h.rmem c).1 a).1,((h.rmem c).1 a).2.1⟩
def CI.init (h:EI n k S A rest P Q place rows lower cols) (a:c∈rest) (b:r∈Q6 (cols.getD c.toNat [])) (f:cols1.length=n)
 (d:∀j:Int,j∈rest->lX (inC cols) r (rows.getD r.toNat []) j (cols1.getD j.toNat [])):CI n k s rest P rows lower r c [] rows lower cols1:=by
 obtain⟨g,l,o,_⟩:=h.row a b;refine⟨h.lrows,h.llow,f,fun i _ a=>(by cases a),fun i _ _=>rfl,fun i _=>(qK (by simp)).symm,fun j hj=> ?_⟩;obtain⟨a,b⟩:=h.crange hj;obtain⟨a,b⟩:=d j hj;refine⟨a,fun x=> ?_⟩;rw[b];have a:=(h.col j hj).2 x;unfold inC;rw[a,A3x (h.can r.toNat (by omega)).1];constructor
 . rintro⟨⟨d,f,g,a⟩,b⟩;refine⟨fun e=>b ⟨e, ?_⟩,d,f,g,a⟩;subst e;unfold Z4 at a;rwa[show((j.toNat:Nat):Int)=j from by omega]at a
 . rintro⟨l,d,f,g,a⟩;exact⟨⟨d,f,g,a⟩,fun b=>l b.1⟩
def CI.next (h:EI n k S A rest P Q place rows lower cols) (hc:c∈rest) (hr:r∈Q6 (cols.getD c.toNat [])) {D:List Int} (g:CI n k (S k) rest P rows lower r c D rows1 lower1 cols1) {i:Int}
 (H:0<=i) (I:i<(n:Int)) (F:i≠r) (w:∀a,a<k->i.toNat≠ix P a) (z:i∉D) {nw:List D2} {q:Rat}
 (G:q=Z4 rows i.toNat c.toNat/Z4 rows r.toNat c.toNat)
 (t:TG (fun j=>A5 (rows.getD i.toNat []) j-q*A5 (rows.getD r.toNat []) j) nw) (l:cols2.length=n)
 (J:∀j:Int,j∈rest->lW (fun j x=>inC cols1 j x/\¬(x=i/\∃e∈rows.getD r.toNat [],e.1=j)) i nw j (cols2.getD j.toNat [])):
 CI n k (S k) rest P rows lower r c (D++ [i]) (rows1.set i.toNat nw) (lower1.set i.toNat (lower1.getD i.toNat []++ [((k:Int),rc q)])) cols2:=by
 obtain⟨b,d,f,o⟩:=h.row hc hr;obtain⟨b,c1⟩:=h.crange hc;have o:i.toNat<n:=by omega
 have E:((i.toNat:Nat):Int)=i:=by omega
 have B:Xz k (ix P) (Z4 rows) r.toNat c.toNat i.toNat=q:=by rw[WL (by omega) w,G]
 have s:∀x:Nat,(x:Int)∈D++ [i]↔(x:Int)∈D\/x=i.toNat:=fun x=>by
  rw[qY,qO];exact g3k yN (by omega)
 have u:∀j,A5 nw j=A5 (rows.getD i.toNat []) j-q*A5 (rows.getD r.toNat []) j:=t.2;have M:∀e∈nw,0<=e.1/\e.1<(n:Int):=fun e he=>qV fun b=>by
  refine(t.1.2 e he).1 ?_;rw[<-Q7 t.1.1 he,u,D6 (v:=rows.getD i.toNat []) fun y d f=>b (by rw[<-f];exact(h.can _ o).2.1 y d),D6 (v:=rows.getD r.toNat []) fun y d f=>b (by rw[<-f];exact(h.can r.toNat (by omega)).2.1 y d),uK,tD,wR,rN]
 refine⟨by rw[qM];exact g.lrows,by rw[qM];exact g.llow,l,fun x d f=> ?_,fun x d f=> ?_,fun x d=> ?_,fun j y=> ?_⟩
 . by_cases l:x=i.toNat
   . subst l;rw[B6 (by rw[g.lrows];exact o),B];refine⟨t.1,M,fun j=> ?_,u⟩;rw[u,G];have:=B8e ((h.can _ o).2.2 j) ((h.can _ o).2.2 (c.toNat:Int)) ((h.can r.toNat (by omega)).2.2 (c.toNat:Int)) ((h.can r.toNat (by omega)).2.2 j);exact this
   . rw[D9 l];exact g.rd x d (((s x).1 f).resolve_right l)
 . have l:x≠i.toNat:=fun e=>f ((s x).2 (.inr e))
   rw[D9 l];exact g.ru x d fun b=>f ((s x).2 (.inl b))
 . by_cases l:x=i.toNat
   . subst l;rw[B6 (by rw[g.llow];exact o),qQ ((s _).2 (.inr rfl)),g.lo _ o,qK (by rw[E];exact z),B]
   . rw[D9 l,g.lo x d];by_cases f:(x:Int)∈D
     . rw[qQ f,qQ ((s x).2 (.inl f))]
     . rw[qK f,qK fun b=>f (((s x).1 b).resolve_right l)]
 . obtain⟨f,l⟩:=h.crange y;obtain⟨l,f⟩:=g.col j y;have l:((j.toNat:Nat):Int)=j:=by omega
   have B:inC cols1 j i↔A5 (rows.getD i.toNat []) j≠0:=by
    unfold inC;rw[f];have s:Z4 rows1 i.toNat j.toNat=A5 (rows.getD i.toNat []) j:=by
     unfold Z4;rw[g.ru _ o (by rw[E];exact z),l]
    rw[s];exact⟨fun b=>b.2.2.2.2,fun b=>⟨F,H,I,w,b⟩⟩
   have s:=B0s (Bs:=inC cols1) (O:=fun j=>A5 (rows.getD i.toNat []) j≠0) (N:=fun j=>A5 nw j≠0) (pv:=rows.getD r.toNat []) (nw:=nw) (J j y) B ?_ (A3x t.1 j)
   . refine⟨s.1,fun x=> ?_⟩;rw[s.2];unfold inC;rw[f];by_cases d:x=i
     . subst d;have:Z4 (rows1.set x.toNat nw) x.toNat j.toNat=A5 nw j:=by
        unfold Z4;rw[B6 (by rw[g.lrows];exact o),l]
       rw[this];exact⟨fun b=>b.elim (fun f=>absurd rfl f.1) fun f=>⟨F,H,I,w,f.2⟩,fun b=> .inr ⟨rfl,b.2.2.2.2⟩⟩
     . constructor
       . rintro(⟨_,f,o,s,t,l⟩ | ⟨f,_⟩)
         . refine⟨f,o,s,t, ?_⟩;unfold Z4 at l⊢;rwa[D9 (by omega)]
         . exact absurd f d
       . rintro⟨f,o,s,t,l⟩;refine .inl ⟨d,f,o,s,t, ?_⟩;unfold Z4 at l⊢;rwa[D9 (by omega)]at l
   . by_cases d:∃e∈rows.getD r.toNat [],e.1=j
     . exact .inl d
     . refine .inr ?_;have f:A5 (rows.getD r.toNat []) j=0:=qV fun b=>d (DY b)
       show A5 _ j≠0↔A5 nw j≠0;rw[u,f,uK,tD,wR,rN]
def CI.done (h:EI n k S A rest P Q place rows lower cols) (f:c∈rest) (E:r∈Q6 (cols.getD c.toNat [])) {D:List Int} (g:CI n k (S k) rest P rows lower r c D rows1 lower1 cols1)
 (z:S (k+1)=4*S k+1) (o:∀x:Int,x∈D↔x≠r/\0<=x/\x<(n:Int)/\(∀a,a<k->x.toNat≠ix P a)/\Z4 rows x.toNat c.toNat≠0) {d:List Int} (G:d.Nodup) (F:∀x,x∈d↔x∈rest/\x≠c):
 EI n (k+1) S A d (P.set k r) (Q.set k c) (place.set c.toNat k) rows1 lower1 cols1:=by
 obtain⟨d,l,t,s⟩:=h.row f E;have y:k<P.length:=by
  rw[h.lP];refine Nat.lt_of_le_of_ne h.elim.kn fun y=> ?_
  obtain⟨l,c1,d⟩:=(h.rmem c).1 f;obtain⟨a,l,e⟩:=Gx (n:=n) (q:=ix Q) (fun a l=>h.elim.qlt a (by omega)) (fun a b l hb=>h.elim.qinj a b (by omega) (by omega)) (show c.toNat<n by omega);exact absurd e.symm (d a (by omega))
 have w:∀i:Nat,i<n->((i:Int)∈D↔Xz k (ix P) (Z4 rows) r.toNat c.toNat i≠0):=fun i d=>by
  rw[o,qJ];constructor
  . rintro⟨H,_,_,t,u⟩;rw[WL (by omega) t,xD];exact fun o=>(wZ.1 o).elim u fun o=>by
     have:=g1c _ s;rw[o,uK]at this;exact absurd this (by decide)
  . intro B;have v:¬(i=r.toNat\/∃a,a<k/\i=ix P a):=fun s=>B (qQ s)
    refine⟨fun e=>v (.inl (by omega)),by omega,by omega,fun a l e=>v (.inr ⟨a,l,e⟩),fun o=>B ?_⟩;unfold Xz;rw[qK v,o,xD,tK]
 refine h.step f E G F g.lrows g.llow g.lcols (fun i d=> ?_) (fun i d=> ?_) (by omega) (fun i d=> ?_) fun j E=> ?_
 . rw[z];by_cases f:(i:Int)∈D
   . exact g.rd i d f
   . have o:Xz k (ix P) (Z4 rows) r.toNat c.toNat i=0:=qV fun s=>f ((w i d).2 s)
     rw[g.ru i d f,o];obtain⟨o,v,B⟩:=h.can i d;exact⟨o,v,fun j=>N7 (B j) (by omega),fun j=>by rw[tK,tD,wR,rN]⟩
 . rw[g.lo i d];by_cases f:(i:Int)∈D
   . rw[qQ f,qK ((w i d).1 f)]
   . rw[qK f,qQ (qV fun s=>f ((w i d).2 s))]
 . have f:=(h.can i d).2.2 (c.toNat:Int);rw[z];unfold Xz;split
   . exact R5 (by have:=A2h f;omega)
   . exact N7 (jP f ((h.can r.toNat (by omega)).2.2 (c.toNat:Int))) (by omega)
 . obtain⟨o,v⟩:=g.col j ((F j).1 E).1;refine⟨o,fun x=> ?_⟩;rw[v];constructor
   . rintro⟨H,t,u,d,f⟩;refine⟨t,u,fun a l=> ?_,f⟩;by_cases o:a=k
     . subst o;rw[Qp y];omega
     . rw[Cf o];exact d a (by omega)
   . rintro⟨t,u,d,f⟩;refine⟨fun e=> ?_,t,u,fun a l=> ?_,f⟩
     . have:=d k (rW _);rw[Qp y,e]at this;exact this rfl
     . have:=d a (by omega);rwa[Cf (tT l)]at this
def EI.two (h:EI n k S A rest P Q place rows lower cols) {i j:Nat} (b:i<n) (c:j<n) (o:i≠j) (g:∀a,a<k->i≠ix P a) (l:∀a,a<k->j≠ix P a):k+2<=n:=by
 refine qV fun b=> ?_
 have b:=h.elim.kn;obtain⟨a,f,c,d,b⟩:=YN n (fun a=>if a<k then ix P a else if a=k then i else j) fun a _=>by
  split
  . rename_i c;exact h.elim.plt a c
  . split<;>assumption
 by_cases c:a<k
 . rw[qQ c]at b;by_cases d:f<k
   . rw[qQ d]at b;have:=h.elim.pinj a f c d b;omega
   . rw[qK d]at b;split at b
     . exact g a c b.symm
     . exact l a c b.symm
 . have d:¬f<k:=by omega
   rw[qK c,qK d]at b;have:a=k:=by omega
   rw[qQ this,qK (by omega)]at b;exact o b
def LX {a:Type} (l:List a) (i:Nat) (d:a):l.set i (l.getD i d)=l:=by
 refine g1n (by rw[qM]) fun j b a=> ?_
 rw[g4o];split
 . rename_i e;subst e;rw[H6 _ _ a]
 . rfl
def Ji {a:Type} {d:a} {l:List a} {t:Int} (b:0<=t) (c:t<(l.length:Int)):l.take (t+1).toNat=l.take t.toNat++ [gx d l t]:=by
 rw[show(t+1).toNat=t.toNat+1 from by omega,rP,H1 (d:=d) b c];rfl
def EP {l:List Int} {n:Nat} (h:l.Nodup) (f:∀x∈l,0<=x/\x<(n:Int)):l.length<=n:=by
 refine qV fun a=> ?_
 have b:∀a,a<n+1->a<l.length:=fun a ha=>by omega
 obtain⟨a,c,i,g,j⟩:=YN n (fun a=>(l.getD a 0).toNat) fun a ha=>by
  have:=f _ (C8 (d:=0) (b a ha));omega
 have i:=f _ (C8 (d:=0) (b a (by omega)));have i:=f _ (C8 (d:=0) (b c g));have f:l.getD a 0=l.getD c 0:=by omega
 rw[H6 _ _ (b a (by omega)),H6 _ _ (b c g)]at f;have:=(wN h).1 f;omega
def B2m (es:R4):(Q6 es).length=es.length:=sV ..
def nF {es:R4} {y:Int×Bool} (h:y∈es):y.1∈Q6 es:=vE (f:=fun e:Int×Bool=>e.1) h
def kJ (n:Nat) (dd:List Nat):Prop:=∀i,i<n->i∉dd
abbrev NB:=List R4×List Nat
abbrev NR:=List (List D2)×List Nat
variable {n k:Nat} {S:Nat->Nat} {A:Nat->Nat->Rat} {rest P Q place:List Int} {rows lower:List (List D2)} {cols:List R4}
def A3c {v:List D2} {m j:Int} (h:M0 v m) (b:A5 v j≠0):0<=j/\j<m:=qV fun a=>b (A8t h a)
def EI.more (h:EI n k S A rest P Q place rows lower cols) (a:k<n):0<rest.length:=by
 refine qV fun a=> ?_
 have d:rest= []:=qR (by omega);have g:∀c,c<n->∃a,a<k/\c=ix Q a:=fun c b=>qV fun hh=>by
  have:=(h.rmem (c:Int)).2 ⟨by omega,by omega,fun a ha e=>hh ⟨a,ha,by omega⟩⟩;rw[d]at this;cases this
 obtain⟨f,d⟩:∃f:Nat->Nat,∀c,c<n->f c<k/\c=ix Q (f c):=by
  refine⟨fun c=>if b:c<n then(g c b).choose else 0,fun c b=> ?_⟩;simp only[dif_pos b];exact(g c b).choose_spec
 obtain⟨a,b,i,j,g⟩:=YN k f fun a ha=>(d a (by omega)).1
 have f:=(d a (by omega)).2;have a:=(d b (by omega)).2;rw[g]at f;omega
def EI.okRow (h:EI n k S A rest P Q place rows lower cols) (d:S k<=K1) (a:n<=16384) {i:Nat} (f:i<n):ER K1 (rows.getD i []):=by
 obtain⟨a,b,c⟩:=h.can i f;have:=Gr (n:=(n:Int)) (v:=rows.getD i []) ⟨a.1,fun e he=>⟨(b e he).1,(b e he).2,(a.2 e he).1⟩⟩;exact⟨a.1,KT a fun j=>N7 (c j) d,by omega⟩
def EI.lowLen (h:EI n k S A rest P Q place rows lower cols) {i:Nat} (c:i<n):(lower.getD i []).length<=k:=by
 obtain⟨a,b⟩:=h.lcan i c;have:=Gr (n:=(k:Int)) (v:=lower.getD i []) ⟨a.1,fun e he=>⟨(b e he).1,(b e he).2,(a.2 e he).1⟩⟩;omega
def EI.colLen (h:EI n k S A rest P Q place rows lower cols) {c:Int} (b:c∈rest):(cols.getD c.toNat []).length<=n:=by
 obtain⟨d,a⟩:=h.col c b;rw[<-B2m];exact EP d fun x b=>⟨((a x).1 b).1,((a x).1 b).2.1⟩
def EI.pick (h:EI n k S A rest P Q place rows lower cols) {b:Nat} (a:b<rest.length):(rest.take b++rest.drop (b+1)).Nodup/\∀x,x∈rest.take b++rest.drop (b+1)↔x∈rest/\x≠rest.getD b 0:=by
 have f:rest=rest.take b++rest.getD b 0::rest.drop (b+1):=by
  rw[H6 _ _ a, <-xJ a,uJ]
 have d:=h.rnd;generalize rest.getD b 0=c at*;generalize rest.take b=g at*;generalize rest.drop (b+1)=g at*;subst f;rw[sW]at d;obtain⟨l,g,f⟩:=d;obtain⟨i,j⟩:=sB.1 g;refine⟨sW.2 ⟨l,j,fun d g b a=>f d g b (qL _ a)⟩,fun x=> ?_⟩;rw[qY,qY,qG];constructor
 . rintro(hx|hx)
   . exact⟨.inl hx,fun e=>f x hx c rB e⟩
   . exact⟨.inr (.inr hx),fun e=>i (e▸hx)⟩
 . rintro⟨hx|hx|hx,a⟩
   . exact .inl hx
   . exact absurd hx a
   . exact .inr hx
def IL (n:Nat) (rest:List Int) (Bs:Int->Int->Prop) (i:Int) (v:List D2) (p:Int×NB×Unit):Prop:=0<=p.1/\p.1<=(v.length:Int)/\p.2.1.1.length=n/\kJ n p.2.1.2/\∀j:Int,j∈rest->(0<=j/\j<(n:Int))/\lX Bs i (v.take p.1.toNat) j (p.2.1.1.getD j.toNat [])
def dN (n:Nat) (rest:List Int) (Bs:Int->Int->Prop) (i:Int) (v:List D2) (p:Int×NB×Unit):Prop:=0<=p.1/\p.1<=(v.length:Int)/\p.2.1.1.length=n/\kJ n p.2.1.2/\∀j:Int,j∈rest->(0<=j/\j<(n:Int))/\lW Bs i (v.take p.1.toNat) j (p.2.1.1.getD j.toNat [])
def QU (n:Nat) (F:Nat->Int->Rat) (i:Int) (v:List D2) (p:Int×NB×Unit):Prop:=0<=p.1/\p.1<=(v.length:Int)/\p.2.1.1.length=n/\kJ n p.2.1.2/\∀j:Int,0<=j->j<(n:Int)->gR i F (v.take p.1.toNat) j (p.2.1.1.getD j.toNat [])
variable {Bs:Int->Int->Prop} {i t:Int} {v:List D2} {dd:List Nat} {F:Nat->Int->Rat}
def IL.rng (h:IL n rest Bs i v (t,(cols,dd),())) (c:∀e∈v,0<=e.1/\e.1<(n:Int)) (b:t<(v.length:Int)):(0<=t/\t<(v.length:Int))/\(0<=(gx F2 v t).1/\(gx F2 v t).1<((cols.length:Nat):Int))/\(gx F2 v t).1.toNat∉dd:=by
 have a:=c (gx F2 v t) (I0 (d:=F2) (i:=t) h.1 b);have c:cols.length=n:=h.2.2.1;exact⟨⟨h.1,b⟩,⟨a.1,by rw[c];exact a.2⟩,h.2.2.2.1 _ (by omega)⟩
def IL.next (h:IL n rest Bs i v (t,(cols,dd),())) (hv:∀e∈v,0<=e.1/\e.1<(n:Int)) (ht:t<(v.length:Int)):IL n rest Bs i v (t+1,(cols.set (gx F2 v t).1.toNat (Qq (.int .i64) i (cols.getD (gx F2 v t).1.toNat [])),dd),()):=by
 obtain⟨b,_,c,f,g⟩:=h;simp only at b c f g;refine⟨by simp only;omega,by simp only;omega,by simp only;rw[qM];exact c,f,fun j a=> ?_⟩;obtain⟨⟨f,k⟩,c⟩:=g j a;refine⟨⟨f,k⟩, ?_⟩;have f:=hv _ (I0 (d:=F2) b ht);simp only;rw[Ji (d:=F2) b ht];generalize gx F2 v t=e at*;by_cases a:e.1=j
 . subst a;rw[B6 (by omega)];exact B0q c rfl
 . rw[D9 (by omega)];exact A6h c a
def dN.rng (h:dN n rest Bs i v (t,(cols,dd),())) (c:∀e∈v,0<=e.1/\e.1<(n:Int)) (b:t<(v.length:Int)):(0<=t/\t<(v.length:Int))/\(0<=(gx F2 v t).1/\(gx F2 v t).1<((cols.length:Nat):Int))/\(gx F2 v t).1.toNat∉dd:=by
 have a:=c (gx F2 v t) (I0 (d:=F2) (i:=t) h.1 b);have c:cols.length=n:=h.2.2.1;exact⟨⟨h.1,b⟩,⟨a.1,by rw[c];exact a.2⟩,h.2.2.2.1 _ (by omega)⟩
def dN.next {b:Bool} (h:dN n rest Bs i v (t,(cols,dd),())) (hv:∀e∈v,0<=e.1/\e.1<(n:Int)) (ht:t<(v.length:Int)):dN n rest Bs i v (t+1,(cols.set (gx F2 v t).1.toNat (Fy (.int .i64) i b (cols.getD (gx F2 v t).1.toNat [])),dd),()):=by
 obtain⟨c,_,f,g,k⟩:=h;simp only at c f g k;refine⟨by simp only;omega,by simp only;omega,by simp only;rw[qM];exact f,g,fun j a=> ?_⟩;obtain⟨⟨g,l⟩,f⟩:=k j a;refine⟨⟨g,l⟩, ?_⟩;have g:=hv _ (I0 (d:=F2) c ht);simp only;rw[Ji (d:=F2) c ht];generalize gx F2 v t=e at*;by_cases a:e.1=j
 . subst a;rw[B6 (by omega)];exact B0p f rfl
 . rw[D9 (by omega)];exact A6g f a
def QU.rng (h:QU n F i v (t,(cols,dd),())) (c:∀e∈v,0<=e.1/\e.1<(n:Int)) (b:t<(v.length:Int)):(0<=t/\t<(v.length:Int))/\(0<=(gx F2 v t).1/\(gx F2 v t).1<((cols.length:Nat):Int))/\(gx F2 v t).1.toNat∉dd:=by
 have a:=c (gx F2 v t) (I0 (d:=F2) (i:=t) h.1 b);have c:cols.length=n:=h.2.2.1;exact⟨⟨h.1,b⟩,⟨a.1,by rw[c];exact a.2⟩,h.2.2.2.1 _ (by omega)⟩
def QU.next {b:Bool} (h:QU n F i v (t,(cols,dd),())) (hv:∀e∈v,0<=e.1/\e.1<(n:Int)) (ht:t<(v.length:Int)):QU n F i v (t+1,(cols.set (gx F2 v t).1.toNat (Fy (.int .i64) i b (cols.getD (gx F2 v t).1.toNat [])),dd),()):=by
 obtain⟨a,_,c,f,g⟩:=h;simp only at a c f g;refine⟨by simp only;omega,by simp only;omega,by simp only;rw[qM];exact c,f,fun j k l=> ?_⟩;have c:=hv _ (I0 (d:=F2) a ht);simp only;rw[Ji (d:=F2) a ht];have a:=g j k l;generalize gx F2 v t=e at*;by_cases c:e.1=j
 . subst c;rw[B6 (by omega)];exact B0r a rfl
 . rw[D9 (by omega)];exact A6j a c
def LF (n:Nat) (p:Int×NB×List Int×Unit):Prop:=0<=p.1/\p.1<=(n:Int)/\p.2.1.1.length=n/\(∀j,p.2.1.1.getD j []= [])/\(∀i∈p.2.1.2,p.1<=(i:Int))/\p.2.2.1.length=n/\∀i:Nat,(i:Int)<p.1->p.2.2.1.getD i 0=(i:Int)
def LF.init:LF n (0,(List.replicate n [],Qs (Ty.mp false (Ty.int i64) false Ty.bool) n),List.replicate n 0,()):=by
 refine⟨by simp only;omega,by simp only;omega,by simp only;rw[rI],fun j=> ?_,fun i _=>qD i,by simp only;rw[rI],fun i a=> ?_⟩
 . simp only;rw[qF,uV];split<;>rfl
 . simp only at a;omega
def LF.next {left:List Int} (h:LF n (t,(cols,dd),left,())) (ht:t<(n:Int)):LF n (t+1,(cols.set t.toNat [],QG t.toNat dd),left.set t.toNat t,()):=by
 obtain⟨b,_,a,c,d,f,g⟩:=h;simp only at b a c d f g;refine⟨by simp only;omega,by simp only;omega,by simp only;rw[qM];exact a,fun j=> ?_,fun i b=> ?_,by simp only;rw[qM];exact f,fun i b=> ?_⟩
 . simp only;by_cases a:j=t.toNat
   . subst a;rw[B6 (by omega)]
   . rw[D9 a];exact c j
 . simp only at b⊢;obtain⟨c,f⟩:=ZL.1 b;have:=d i c;omega
 . simp only at b⊢;by_cases a:i=t.toNat
   . subst a;rw[B6 (by omega)];omega
   . rw[D9 a];exact g i (by omega)
def HD (n:Nat) (D:List (List D2)) (p:Int×List (List D2)×NB×Unit):Prop:=0<=p.1/\p.1<=(n:Int)/\p.2.1.length=n/\(∀i:Nat,(i:Int)<p.1->TG (A5 (D.getD i [])) (p.2.1.getD i []))/\p.2.2.1.1.length=n/\kJ n p.2.2.1.2/\∀j:Int,0<=j->j<(n:Int)->gR p.1 (fun i=>A5 (D.getD i [])) [] j (p.2.2.1.1.getD j.toNat [])
def HD.init {left:List Int} {D:List (List D2)} (h:LF n (t,(cols,dd),left,())) (a:(n:Int)<=t):HD n D (0,List.replicate n [],(cols,dd),()):=by
 obtain⟨d,_,a,b,c,f,g⟩:=h;simp only at d a b c f g;refine⟨by simp only;omega,by simp only;omega,by simp only;rw[rI],fun i d=>by simp only at d;omega,a,fun i d f=>by have:=c i f;omega,fun j a c=> ?_⟩;simp only;rw[b];refine⟨xX,fun x=>⟨fun a=>(by cases a),fun a=> ?_⟩⟩;rcases a with⟨c,d,_⟩ | ⟨_,e,b,_⟩
 . omega
 . cases b
def HD.row {D:List (List D2)} {rs:List (List D2)} (h:HD n D (t,rs,(cols,dd),())):QU n (fun i=>A5 (D.getD i [])) t (D.getD t.toNat []) (0,(cols,dd),()):=by
 obtain⟨d,_,f,g,a,b,c⟩:=h;exact⟨qI _,qD _,a,b,fun j d f=>c j d f⟩
def HD.next {D:List (List D2)} {rs:List (List D2)} {cols2:List R4} {dd2:List Nat} {u:Int} {w:List D2} (h:HD n D (t,rs,(cols,dd),())) (ht:t<(n:Int)) {m:Int} (hv:M0 (D.getD t.toNat []) m) (hw:TG (A5 (D.getD t.toNat [])) w) (hf:QU n (fun i=>A5 (D.getD i [])) t (D.getD t.toNat []) (u,(cols2,dd2),())) (hu:((D.getD t.toNat []).length:Int)<=u):HD n D (t+1,rs.set t.toNat w,(cols2,dd2),()):=by
 obtain⟨d,_,f,g,l,o,r⟩:=h;obtain⟨k,_,a,b,c⟩:=hf;simp only at d f g l o r k a b c;refine⟨by simp only;omega,by simp only;omega,by simp only;rw[qM];exact f,fun i k=> ?_,a,b,fun j f l=> ?_⟩
 . simp only at k⊢;by_cases a:i=t.toNat
   . subst a;rw[B6 (by omega)];exact hw
   . rw[D9 a];exact g i (by omega)
 . simp only;have a:=c j f l;rw[D4 hu]at a;exact A6i a d hv rfl
def B8a (n:Nat) (M:Dx) (p:Int×List Int×List Int×List Int×List Int×List (List D2)×NR×NB×Unit):Prop:=0<=p.1/\p.1<=(n:Int)/\(∀s,1<=s->Ef s M->EI n p.1.toNat (sK s) (el M) p.2.1 p.2.2.1 p.2.2.2.1 p.2.2.2.2.1 p.2.2.2.2.2.1 p.2.2.2.2.2.2.1.1 p.2.2.2.2.2.2.2.1.1)/\kJ n p.2.2.2.2.2.2.1.2/\kJ n p.2.2.2.2.2.2.2.1.2
def B8a.init {M:Dx} {left:List Int} {cols2:List R4} {b:List Nat} {rs:List (List D2)} {u:Int} (f:F1 M) (H:A1i M) (G:M.1=(n:Int)) (E:M.2.1=(n:Int)) (h:LF n (t,(cols2,b),left,())) (c:(n:Int)<=t) (g:HD n M.2.2 (u,rs,(cols,dd),())) (a:(n:Int)<=u):B8a n M (0,left,List.replicate n 0,List.replicate n 0,List.replicate n 0,rs,(List.replicate n [],Qs (Ty.sl (.pair (.int .i64) (.pair (.pair .bool (.sl (.int .u32))) (.sl (.int .u32))))) n),(cols,dd),()):=by
 obtain⟨y,z,A,B,D,v,w⟩:=h;obtain⟨b,x,k,l,o,c,r⟩:=g;simp only at y z A B D v w b x k l o c r;have a:u=(n:Int):=by omega
 subst a;refine⟨qI _,qD _,fun s y x=> ?_,fun i a b=>(by cases b),c⟩;have c:(M.2.2.length:Int)=(n:Int):=by rw[f.2.2.2.2.1,G]
 have c:∀i,i<n->M0 (M.2.2.getD i []) (n:Int)/\ER s (M.2.2.getD i [])/\FV (M.2.2.getD i []):=fun i a=>by
  have b:=C8 (d:=([]:List D2)) (show i<M.2.2.length by omega);exact⟨E▸f.2.2.2.2.2 _ b,jX f x b,H _ b⟩
 exact EI.start (F:=fun i=>A5 (M.2.2.getD i [])) (fun i j _ _=>rfl) v (fun i a=>w i (by omega)) rI rI rI k rI o (fun i a=>l i (by omega)) (fun i j a b=>A3c (c i a).1 b) (fun i j a=>KU (c i a).1.1 (c i a).2.2 (c i a).2.1.2.1 y j) (fun i a=>by rw[qF,uV,qQ a];rfl) r
def Rw:An:= {loop:= [(5,⟨[1,5,14,15],[],[(16,false,vI)],[],[(0, .row .bool 4)]⟩)]}
def UV:An:= {plan:= [(3,[0,1,2],[5],true,(.q 0 (.q 1 (.q 2 (.e 3 (.e 4 (.e 5 .done)))))))]}
def Uw:An:= {}
def Gh:A2 M6.args->Prop:=fun(x:MD)=>let b:=(x.1.length:Int);let a:=(0:Int);(iB (decide (b≠x.2.1)) (false=decide (L9 x.1 x.2.1)) ((a<=x.2.1/\x.2.1<=x.2.1/\(↑(1:Nat):Int)*x.2.1<=281474976710656/\x.2.1<=9223372036854775807)/\∃(I:B9h->Prop),∃(d: _->Nat),I (a,List.replicate x.2.1.toNat false,())/\∀(p:B9h),let h:=(decide (gx a x.1 p.1<a));let g:=(p.2.1.length:Int);let f:=(decide (x.2.1<=gx a x.1 p.1));let e:=(List.getD p.2.1 (gx a x.1 p.1).toNat false);let i:=(J9 h true f);let c:=(i64.wrap (p.1+1),List.set p.2.1 (gx a x.1 p.1).toNat true,());(Ty.int i64).wf p.1/\(List.length p.2.1<=9223372036854775807/\∀(x:Bool),x∈p.2.1->True)/\True->I p->(iB (decide (p.1<b)) ((a<=p.1/\p.1<b)/\(J9 h true f=false->a<=gx a x.1 p.1/\gx a x.1 p.1<g)/\(iB (J9 i true e) (false=decide (L9 x.1 x.2.1)) ((a<=gx a x.1 p.1/\gx a x.1 p.1<g)/\I c/\d c<d p))) (true=decide (L9 x.1 x.2.1)))))
def BU:A2 Ew.args->Prop:=fun(x:A8r)=>let a:=(rv x.1-rv x.2.1*rv x.2.2.1);True/\Bf fun r=>r.1=(rv x.2.2.1).num.sign->(iB (decide (r.1=0)) ((rv x.2.2.1=(0:Rat)->x.1=x.1)/\(rv x.2.2.1≠(0:Rat)->x.1=rc a)) ((E6 x.2.1/\E6 x.2.2.1)/\I6 fun r=>r.1=rc (rv x.2.1*rv x.2.2.1)->(E6 x.1/\E6 r.1)/\I6 fun b=>b.1=rc (rv x.1-rv r.1)->(rv x.2.2.1=(0:Rat)->b.1=x.1)/\(rv x.2.2.1≠(0:Rat)->b.1=rc a)))
def Hr:A2 N8.args->Prop:=fun(x:A2z)=>let b:=(decide (x.1.1=x.2.1));let a:=(decide (x.1.2.1=x.2.1));(J9 b a false=true->True)/\∀(r:Y5),(J9 b a false=true->(True/\True)/\r.1=decide (F1 x.1))->J9 (J9 b a false) r.1 false=decide (sqr x.1 x.2.1)
def PI (l:List Int) (n t:Int) (s:List Bool):Prop:=0<=t/\t<=(l.length:Int)/\(s.length:Int)=n/\(∀i∈l.take t.toNat,0<=i/\i<n)/\(l.take t.toNat).Nodup/\∀k:Nat,(k:Int)<n->(s.getD k false=true↔(k:Int)∈l.take t.toNat)
def PI0 {l:List Int} {n:Int} (a:0<=n):PI l n 0 (List.replicate n.toNat false):=by
 refine⟨qI _,qD _,by rw[rI];omega,fun i a=>(by cases a),xX,fun k _=> ?_⟩;rw[qF,uV];constructor
 . intro h;split at h<;>cases h
 . intro h;cases h
def UN {l:List Int} {t:Int} (a:0<=t) (b:t<(l.length:Int)):l.take (t+1).toNat=l.take t.toNat++ [gx 0 l t]:=by
 rw[show(t+1).toNat=t.toNat+1 from by omega,rP,H1 (d:=(0:Int)) a b];rfl
def A9l {l:List Int} {n t:Int} {s:List Bool} (h:PI l n t s) (b:t<(l.length:Int)) (hb:gx 0 l t<0\/n<=gx 0 l t\/s.getD (gx 0 l t).toNat false=true):¬L9 l n:=by
 rintro⟨_,a,f⟩;obtain⟨c,_,_,_,_,i⟩:=h;have g:=I0 (d:=(0:Int)) c b;obtain⟨j,k⟩:=a _ g;rcases hb with hb|hb|hb
 . omega
 . omega
 . have:=(i (gx 0 l t).toNat (by omega)).1 hb;rw[show(((gx 0 l t).toNat:Nat):Int)=gx 0 l t from by omega]at this;have a:(l.take (t+1).toNat).Nodup:=f.take;rw[UN c b,sW]at a;exact a.2.2 _ this _ (qO.2 rfl) rfl
def A3k {l:List Int} {n t:Int} {s:List Bool} (h:PI l n t s) (b:t<(l.length:Int)) (f:0<=gx 0 l t) (g:gx 0 l t<n) (a:s.getD (gx 0 l t).toNat false=false):PI l n (t+1) (s.set (gx 0 l t).toNat true):=by
 obtain⟨c,r,j,u,o,d⟩:=h;have r:gx 0 l t∉l.take t.toNat:=fun hm=>by
  have:=(d (gx 0 l t).toNat (by omega)).2 (by rw[show(((gx 0 l t).toNat:Nat):Int)=gx 0 l t from by omega];exact hm);rw[a]at this;cases this
 refine⟨by omega,by omega,by rw[qM];exact j,fun i a=> ?_, ?_,fun k j=> ?_⟩
 . rw[UN c b,qY,qO]at a;rcases a with a|rfl
   . exact u i a
   . exact⟨f,g⟩
 . rw[UN c b,sW];refine⟨o,by simp,fun u f v a g=> ?_⟩;rw[qO]at a;subst a g;exact r f
 . rw[UN c b,qY,qO, <-d k j];by_cases a:(gx 0 l t).toNat=k
   . rw[a,qF,tB (by omega)];exact⟨fun _=> .inr (by omega),fun _=>rfl⟩
   . rw[qF,tF a, <-qF];exact⟨.inl,fun h=>h.resolve_right (by omega)⟩
def Ny (x:A2 M6.args) (b:awf M6.args x) (a:M6.pre x):Gh x:=by
 obtain⟨l,n,_⟩:=x;change List Int at l;change Int at n;obtain⟨b,c⟩:0<=n/\n<=16384:=a;simp only[Gh,iB];refine⟨fun h=> ?_,fun h=>⟨⟨b,qI _,by omega,by omega⟩, ?_⟩⟩
 . have h:=qA h;exact(rH fun a=>h a.1).symm
 . have h:=uQ.1 (qB h);refine⟨fun p=>PI l n p.1 p.2.1,fun p=>((l.length:Int)-p.1).toNat,PI0 b, ?_⟩;rintro⟨t,s,_⟩ _ c;change Int at t;change List Bool at s;simp only at c⊢;obtain⟨d,f,b,_⟩:=id c;refine⟨fun b=> ?_,fun b=> ?_⟩
   . have b:=qA b;rw[I9,I9];refine⟨⟨d,b⟩,fun a=> ?_,fun a=> ?_,fun a=> ?_⟩
     . simp only[rJ,rQ]at a;omega
     . simp only[uD,rS]at a;exact(rH (A9l c b (by rcases a with(a|a) |a;exact .inl a;exact .inr (.inl a);exact .inr (.inr a)))).symm
     . simp only[rJ,rQ]at a;rw[wv (by omega)];exact⟨by omega,A3k c b (by omega) (by omega) a.2,by omega⟩
   . have b:=qB b;obtain⟨_,_,_,a,b,_⟩:=c;rw[D4 (by omega)]at a b;exact(rG ⟨h,a,b⟩).symm
def Oi (x:A2 M8.args) (b:awf M8.args x) (a:M8.pre x):Gj x:=by
 obtain⟨l,_⟩:=x;change List Int at l;have b:l.length<=100000:=a;simp only[Gj,iB];refine⟨⟨qD _,qI _,by omega,by omega⟩,fun p=>PI l (l.length:Int) p.1 p.2.1,fun p=>((l.length:Int)-p.1).toNat,PI0 (qD _), ?_⟩;rintro⟨t,s,_⟩ _ c;change Int at t;change List Bool at s;simp only at c⊢;obtain⟨d,b,a,_⟩:=id c;refine⟨fun b=> ?_,fun b=> ?_⟩
 . have b:=qA b;rw[I9,I9];refine⟨⟨d,b⟩,fun a=> ?_,fun a=> ?_,fun a=> ?_⟩
   . simp only[rJ,rQ]at a;omega
   . simp only[uD,rS]at a;exact(rH (A9l c b (by rcases a with(a|a) |a;exact .inl a;exact .inr (.inl a);exact .inr (.inr a)))).symm
   . simp only[rJ,rQ]at a;rw[wv (by omega)];exact⟨by omega,A3k c b (by omega) (by omega) a.2,by omega⟩
 . have b:=qB b;obtain⟨_,_,_,a,b,_⟩:=c;rw[D4 (by omega)]at a b;exact(rG ⟨rfl,a,b⟩).symm
def MF (x:A2 Ew.args) (a:awf Ew.args x) (h:Ew.pre x):BU x:=by
 obtain⟨b,c,d,_⟩:=x;obtain⟨i,g,f⟩:sz K1 b/\sz K1 c/\sz K1 d:=h;have k:=Fs a.2.1;have j:=Fs a.2.2.1;simp only[BU,iB,Bf,I6];refine⟨trivial, ?_⟩;rintro⟨r,_⟩ _ b;change Int at r;simp only at b⊢;refine⟨fun h=> ?_,fun h=>⟨⟨V4 g (by decide),V4 f (by decide)⟩, ?_⟩⟩
 . have h:=qA h;rw[b,C0h]at h;exact⟨fun _=>by trivial,fun a=>absurd h a⟩
 . have c:rv d≠0:=fun c=>qB h (by rw[b,C0h];exact c)
   rintro⟨p,_⟩ _ b;simp only at b⊢;subst b;refine⟨⟨V4 i (by decide),R6 (PT (Hi k g (by decide)) (Hi j f (by decide))) (by decide)⟩, ?_⟩;rintro⟨q,_⟩ _ a;simp only at a⊢;refine⟨fun b=>absurd b c,fun _=> ?_⟩;rw[a,E4]
def mvE (p:List Int) (e:D2):D2:=(p.getD e.1.toNat 0,e.2)
def A4x {p:List Int} (h:L9 p (p.length:Int)) {a i:Int} (b:0<=a) (f:a<(p.length:Int)) (g:0<=i) (j:i<(p.length:Int)):p.getD a.toNat 0=i↔a=((List.idxOf i p:Nat):Int):=by
 have b:a.toNat<p.length:=by omega
 constructor
 . intro g;have l:i∈p:=g▸C8 b;have j:=yP l;have k:p[List.idxOf i p]=i:=g0x j;rw[H6 _ _ b, <-k]at g;have:=(wN h.2.2).1 g;omega
 . intro g;have l:i∈p:=by
    obtain⟨b,f,r⟩:=Gx (n:=p.length) (q:=fun b=>(p.getD b 0).toNat) (fun b f=>by have:=h.2.1 _ (C8 (d:=0) f);omega) (fun b c f s o=>by
     have t:=h.2.1 _ (C8 (d:=0) f);have u:=h.2.1 _ (C8 (d:=0) s);have o:(p.getD b 0).toNat=(p.getD c 0).toNat:=o;have e:p.getD b 0=p.getD c 0:=by omega
     rw[H6 _ _ f,H6 _ _ s]at e;exact(wN h.2.2).1 e) (show i.toNat<p.length by omega)
    have t:=h.2.1 _ (C8 (d:=0) f);have r:(p.getD b 0).toNat=i.toNat:=r;rw[show i=p.getD b 0 from by omega];exact C8 f
   have j:=yP l;have k:p[List.idxOf i p]=i:=g0x j;rw[g,qJ,H6 _ _ j,k]
def A3v {p:List Int} (h:L9 p (p.length:Int)):∀ {c:List D2},(∀e∈c,0<=e.1/\e.1<(p.length:Int))->∀i,A5 (c.map (mvE p)) i=if 0<=i/\i<(p.length:Int)then A5 c ((List.idxOf i p:Nat):Int)else 0
 | [],_,i=>by split<;>rfl
 |e::c,a,i=>by
  obtain⟨f,g⟩:=a e (rB ..);have b:=A3v h (fun x hx=>a x (qL _ hx)) i;rw[sA,A5,A5,b];have k:=h.2.1 _ (C8 (d:=0) (show e.1.toNat<p.length by omega));by_cases a:0<=i/\i<(p.length:Int)
  . rw[qQ a,qQ a];congr 1;show(if p.getD e.1.toNat 0=i then rv e.2 else 0)= _;by_cases b:p.getD e.1.toNat 0=i
    . rw[qQ b,qQ ((A4x h f g a.1 a.2).1 b)]
    . rw[qK b,qK fun j=>b ((A4x h f g a.1 a.2).2 j)]
  . rw[qK a,qK a,rN];exact qK fun b=>a (by rw[<-b];exact k)
def DG (x:A2 T5.args) (a:awf T5.args x) (b:T5.pre x):Qh x:=by
 obtain⟨v,p,_⟩:=x;change List D2 at v;change List Int at p;have a:ER K1 v/\p.length<=100000:=b;obtain⟨a,b⟩:=a;simp only[Qh,iB,Rq,jQ];refine⟨b, ?_⟩;rintro⟨r,_⟩ _ b;change Bool at r;simp only at b⊢;refine⟨fun h n=> ?_,fun h=>⟨.inl a, ?_⟩⟩
 . rw[b,rG n]at h;cases h
 have n:L9 p (p.length:Int):=by
  refine qV fun a=> ?_
  rw[b,rH a]at h;cases h
 rintro⟨c,_⟩ ⟨⟨a,_⟩,_⟩ b;change List D2 at c;simp only at b a⊢;have a:c.length<=9223372036854775807:=a;refine⟨fun q=>0<=q.1/\q.1<=(c.length:Int)/\q.2.1=(c.take q.1.toNat).map (mvE p)++c.drop q.1.toNat/\∀e∈c.take q.1.toNat,0<=e.1/\e.1<(p.length:Int),fun q=>((c.length:Int)-q.1).toNat,⟨qI _,qD _,rfl,fun e a=>(by cases a)⟩, ?_⟩;rintro⟨i,g,_⟩ _ ⟨k,h,f,d⟩;change Int at i;change List D2 at g;simp only at k h f d⊢;refine⟨fun h=> ?_,fun h=> ?_⟩
 . have h:=qA h;have l:i.toNat<c.length:=by omega
   have y:g.length=c.length:=by rw[f,rL,sV,qU,sL];omega
   have u:((c.take i.toNat).map (mvE p)).length=i.toNat:=by rw[sV,qU];omega
   have t:c.drop i.toNat=c.getD i.toNat F2::c.drop (i.toNat+1):=by rw[H6 _ _ l];exact xJ l
   have w:g.getD i.toNat F2=c.getD i.toNat F2:=by
    rw[f,t,qF,tX (by omega),u,xQ];rfl
   have o:c.getD i.toNat F2∈c:=C8 l;have s:0<=i/\i<(g.length:Int):=⟨k,by rw[y];exact h⟩;rw[w];refine⟨s,fun g _ k=> ?_,fun g=> ?_⟩
   . exfalso;rw[I9]at g;simp only[uD,rS]at g;have:=k (c.getD i.toNat F2).1 (by rw[<-b.2,Q7 b.1.1 o];exact(b.1.2 _ o).1);omega
   . rw[I9]at g;simp only[rJ,rQ]at g;have k:0<=(c.getD i.toNat F2).1/\(c.getD i.toNat F2).1<(p.length:Int):=⟨by omega,by omega⟩;rw[wv (by omega),G5 k.1 k.2];have o:c.take (i+1).toNat=c.take i.toNat++ [c.getD i.toNat F2]:=by
      rw[show(i+1).toNat=i.toNat+1 from by omega];rw[rP,qP l,H6 _ _ l];rfl
     refine⟨k,s,⟨by omega,by omega, ?_,fun e a=> ?_⟩,by omega⟩
     . rw[o,f,t,uF,uE,g2p _ _ (by omega),u,xQ,show(i+1).toNat=i.toNat+1 from by omega];rfl
     . rw[o]at a;rcases qY.1 a with a|a
       . exact d e a
       . rw[qO]at a;subst a;exact k
 . have h:=qB h;rw[D4 (by omega)]at f d;rw[sD (by omega),vV]at f;subst f;have f:M0 c (p.length:Int):=⟨b.1.1,fun e a=>⟨(d e a).1,(d e a).2,(b.1.2 e a).1⟩⟩;refine⟨?_,fun h _ l u _ _=>⟨⟨⟨?_,fun e a=> ?_⟩,fun j=> ?_⟩,by trivial⟩⟩
   . have:=Gr f;have f:∀z:Nat,z=c.length->z<=100000:=fun z f=>by omega
     exact f _ (sV ..)
   . have k:(h.map fun e:D2=>e.1).Nodup:=by
      rw[(l.map fun e:D2=>e.1).nodup_iff,List.map_map];have f:(c.map fun e:D2=>e.1).Nodup:=by
       unfold List.Nodup;rw[vP];exact b.1.1.imp fun g=>by omega
      unfold List.Nodup at f⊢;rw[vP]at f⊢;refine List.Pairwise.imp_of_mem (fun {g h} o t s a=>s ?_) f;obtain⟨s,w⟩:=d g o;obtain⟨o,s⟩:=d h t;have a:p.getD g.1.toNat 0=p.getD h.1.toNat 0:=a;rw[H6 _ _ (by omega),H6 _ _ (by omega)]at a;have:=(wN n.2.2).1 a;omega
     unfold List.Nodup at k;rw[vP]at k;refine g3r ?_ u k;intro g h f k;have:g.1<=h.1:=by
      unfold K6 at f;split at f
      . omega
      . split at f<;>omega
     omega
   . obtain⟨y,f,rfl⟩:=sQ.1 (l.mem_iff.1 a);exact b.1.2 y f
   . rw[VX l,A3v n d];simp only[b.2]
def Zj:An:= {loop:= [(8,⟨[2,6,36],[0,2],[(37,false,vI)],[],[]⟩)],plan:= [(10,[2,5,8,11],[],true,(.p 0 (.p 1 (.q 2 (.p 3 (.p 4 (.q 5 (.p 6 (.p 7 (.q 8 (.p 9 (.p 10 (.q 11 (.p 12 (.p 13 .done))))))))))))))),(11,[10,21,22],[],true,(pZ9 0 10 (.q 10 (pZ9 11 10 (.q 21 (.q 22 (.e 23 (.p 24 (.p 25 .done)))))))))]}
abbrev C6c:=(List Int×List Int×MM×Int×Int×List (List EE))×Int×Unit
def Ke:A2 R0.args->Prop:=fun(x:C6c)=>let h:=(1:Int);let e:Prop:=(false=true↔Da x.1 x.2.1);let d:=(0:Int);(d<=x.2.1/\x.2.1<=16384)/\Rq fun r=>r.1=decide (L9 x.1.1 x.2.1)->((!r.1)=false->d<=x.2.1/\x.2.1<=16384)/\∀(q:Y5),((!r.1)=false->(True/\True)/\q.1=decide (L9 x.1.2.1 x.2.1))->(iB ((J9 (!r.1) true !q.1)) (e) (True/\Rq fun n=>n.1=decide (sqr x.1.2.2.1 x.2.1)->((!n.1)=false->True)/\∀(s:Y5),((!n.1)=false->(True/\True)/\s.1=decide (sqr x.1.2.2.2 x.2.1))->(iB ((J9 (!n.1) true !s.1)) (e) (True/\I6 fun r=>r.1=ri h->∃(I:C6->Prop),∃(t: _->Nat),I (d,())/\∀(p:C6),let l:=(i64.wrap (p.1+h),());let j:=(gx [] x.1.2.2.1.2.2 p.1);let c:=(gx [] x.1.2.2.2.2.2 p.1);let k:=(decide ((gx F2 c d).1≠p.1));let i:=(↑c.length:Int);let a:=(↑j.length:Int);let g:=(decide (a=d));let b:=(gx F2 j (i64.wrap (a-h)));let f:=(decide (b.1≠p.1));(Ty.int i64).wf p.1/\True->I p->(iB (decide (p.1<x.2.1)) ((d<=p.1/\p.1<(x.1.2.2.1.2.2.length:Int))/\(d<=p.1/\p.1<(x.1.2.2.2.2.2.length:Int))/\(decide (a=d)=false->d<=i64.wrap (a-h)/\i64.wrap (a-h)<a)/\(J9 g true f=false->d<=i64.wrap (a-h)/\i64.wrap (a-h)<a)/\(J9 g true f=false->E6 b.2/\E6 r.1)/\∀(o:C6),let m:=(decide (o.1≠d));(J9 g true f=false->(K4 o.1/\True)/\o.1=Zw (rv b.2) (rv r.1))->(iB (J9 (J9 g true f) true m) (e) ((decide (i=d)=false->d<=d/\d<i)/\(iB (J9 (decide (i=d)) true k) (e) (I l/\t l<t p))))) ((true=true↔Da x.1 x.2.1)))))))
def Ow (x:A2 N8.args) (a:awf N8.args x) (_:N8.pre x):Hr x:=by
 obtain⟨m,n,_⟩:=x;change Dx at m;change Int at n;simp only[Hr,K7];refine⟨fun _=>trivial, ?_⟩;rintro⟨r,_⟩ c;change Bool at r;simp only at c⊢;by_cases a:m.1=n
 . by_cases b:m.2.1=n
   . rw[(c (by rw[rG a,rG b];rfl)).2,rG a,rG b,g0e,g0e];exact wP.2 ⟨fun h=>⟨a,b,h⟩,fun h=>h.2.2⟩
   . rw[rH b,Bool.and_false,g0s];exact(rH fun h=>b h.2.1).symm
 . rw[rH a,g0s,g0s];exact(rH fun h=>a h.1).symm
def nI {v:List D2} (h:Hx v) (a:v≠ []):gx F2 v ((v.length:Int)-1)∈v/\∀x∈v,x.1<=(gx F2 v ((v.length:Int)-1)).1:=by
 have b:0<v.length:=vD.2 a;have a:=H1 (d:=F2) (l:=v) (i:=(v.length:Int)-1) (by omega) (by omega);refine⟨I0 (by omega) (by omega),fun x b=> ?_⟩;obtain⟨k,c,rfl⟩:=uB.1 b;rw[show((v.length:Int)-1).toNat=v.length-1 from by omega]at a;have b:v[v.length-1]'(by omega)=gx F2 v ((v.length:Int)-1):=by
  rw[qP (by omega)]at a;exact wY a
 rw[<-b];by_cases a:k=v.length-1
 . subst a;exact qI _
 . exact xM (uA.1 h k (v.length-1) c (by omega) (by omega))
def A4m {v:List D2} {n:Int} (h:M0 v n) {i:Nat} (a:(i:Int)<n):(v≠ []/\(gx F2 v ((v.length:Int)-1)).1=(i:Int)/\rv (gx F2 v ((v.length:Int)-1)).2=1)↔(∀j:Nat,(j:Int)<n->i<j->A5 v (j:Int)=0)/\A5 v (i:Int)=1:=by
 constructor
 . rintro⟨c,f,a⟩;obtain⟨b,g⟩:=nI h.1 c;refine⟨fun j _ d=>D6 fun e d k=> ?_, ?_⟩
   . have:=g e d;omega
   . rw[<-f,Q7 h.1 b,a]
 . rintro⟨f,a⟩;have c:v≠ []:=fun e=>by subst e;rw[Sc]at a;exact absurd a (by decide)
   obtain⟨b,g⟩:=nI h.1 c;obtain⟨x,k,l⟩:=DY (show A5 v (i:Int)≠0 from by rw[a];decide);have l:=g x k;obtain⟨k,l,g⟩:=h.2 _ b;have d:(gx F2 v ((v.length:Int)-1)).1=(i:Int):=by
    refine qV fun k=>g ?_
    have:=f (gx F2 v ((v.length:Int)-1)).1.toNat (by omega) (by omega);rw[show(((gx F2 v ((v.length:Int)-1)).1.toNat:Nat):Int)=(gx F2 v ((v.length:Int)-1)).1 from by omega,Q7 h.1 b]at this;exact this
   refine⟨c,d, ?_⟩;rw[<-Q7 h.1 b,d,a]
def B5k {v:List D2} {n:Int} (h:M0 v n) {i:Nat} :(v≠ []/\(gx F2 v 0).1=(i:Int))↔(∀j:Nat,j<i->A5 v (j:Int)=0)/\A5 v (i:Int)≠0:=by
 cases v with
 |nil=>exact⟨fun a=>absurd rfl a.1,fun a=>absurd (Sc _) a.2⟩
 |cons e r=>
  have a:gx F2 (e::r) 0=e:=rfl;rw[a];have c:=(h.2 e rB);constructor
  . rintro⟨_,a⟩;exact⟨fun j b=>DX h.1 (by omega),by rw[<-a,M9 h.1];exact c.2.2⟩
  . rintro⟨a,d⟩;refine⟨by simp,qV fun f=> ?_⟩;rcases Int.lt_or_gt_of_ne f with b|b
    . refine c.2.2 ?_;rw[<-M9 h.1];have:=a e.1.toNat (by omega);rwa[show((e.1.toNat:Nat):Int)=e.1 from by omega]at this
    . exact d (DX h.1 b)
def oI (L U:Dx) (n:Int) (i:Nat):Prop:=(∀j:Nat,(j:Int)<n->i<j->el L i j=0)/\el L i i=1/\(∀j:Nat,j<i->el U i j=0)/\el U i i≠0
def A7g {P Q:List Int} {L U:Dx} {n:Int} (d:L9 P n) (f:L9 Q n) (g:sqr L n) (k:sqr U n):Da (P,Q,L,U) n↔∀i:Nat,(i:Int)<n->oI L U n i:=by
 constructor
 . rintro⟨_,_,_,_,h⟩ i a;exact⟨fun j b c=>(h i j a b).1 c,(h i i a a).2.1,fun j b=>(h i j a (by omega)).2.2.1 b,(h i i a a).2.2.2⟩
 . intro h;exact⟨d,f,g,k,fun i j a b=>⟨fun c=>(h i a).1 j b c,(h i a).2.1,fun b=>(h i a).2.2.1 j b,(h i a).2.2.2⟩⟩
def A3u {p q:Rat} :Zw p q=0↔p=q:=by
 unfold Zw;by_cases a:p<q
 . rw[qQ a];exact⟨fun h=>by omega,fun h=>by subst h;exact absurd a (yJ)⟩
 . rw[qK a];by_cases b:q<p
   . rw[qQ b];exact⟨fun h=>by omega,fun h=>by subst h;exact absurd b (yJ)⟩
   . rw[qK b];exact⟨fun _=>Rat.le_antisymm (g3w.1 b) (g3w.1 a),fun _=>rfl⟩
def PF {p:Prop} (h:¬p):(false=true↔p):=⟨fun a=>(by cases a),fun hp=>absurd hp h⟩
def Ub (x:A2 R0.args) (b:awf R0.args x) (f:R0.pre x):Ke x:=by
 obtain⟨⟨P,Q,L,U⟩,n,_⟩:=x;change Dx at L;change Dx at U;change Int at n;obtain⟨r,b,u,g⟩:0<=n/\n<=16384/\Ef K1 L/\Ef K1 U:=f;simp only[Ke,iB,I6,Rq,I9];refine⟨⟨r,b⟩, ?_⟩;rintro⟨g,_⟩ _ f;change Bool at g;simp only at f⊢;refine⟨fun _=>⟨r,b⟩, ?_⟩;rintro⟨g,_⟩ b;change Bool at g;simp only at b⊢;by_cases g:L9 P n
 case neg=>
  rw[f,rH g];exact⟨fun _=>PF fun h=>g h.1,fun h=>by simp at h⟩
 have b:=(b (by rw[f,rG g];rfl)).2;by_cases o:L9 Q n
 case neg=>
  rw[b,rH o];exact⟨fun _=>PF fun h=>o h.2.1,fun h=>by simp at h⟩
 rw[f,b,rG g,rG o];refine⟨fun h=>by simp at h,fun _=>⟨trivial, ?_⟩⟩;rintro⟨b,_⟩ _ l;change Bool at b;simp only at l⊢;refine⟨fun _=>trivial, ?_⟩;rintro⟨b,_⟩ f;change Bool at b;simp only at f⊢;by_cases b:sqr L n
 case neg=>
  rw[l,rH b];exact⟨fun _=>PF fun h=>b h.2.2.1,fun h=>by simp at h⟩
 have f:=(f (by rw[l,rG b];rfl)).2;by_cases k:sqr U n
 case neg=>
  rw[f,rH k];exact⟨fun _=>PF fun h=>k h.2.2.2.1,fun h=>by simp at h⟩
 rw[l,f,rG b,rG k];refine⟨fun h=>by simp at h,fun _=>⟨trivial, ?_⟩⟩;rintro⟨one,_⟩ _ f;change D7 at one;simp only at f⊢;have B:=A7g g o b k;obtain⟨g,w,l⟩:=b;obtain⟨b,z,s⟩:=k;have k:(L.2.2.length:Int)=n:=l.2.2.2.2.1.trans g;have g:(U.2.2.length:Int)=n:=s.2.2.2.2.1.trans b;have D:rv one=1:=by rw[f];exact C5s 1
 have y:E6 one:=by rw[f, <-jR];exact R6 (B4h (by decide)) (by decide)
 refine⟨fun p=>0<=p.1/\p.1<=n/\∀i:Nat,(i:Int)<p.1->oI L U n i,fun p=>(n-p.1).toNat,⟨qI _,r,fun i A=>by omega⟩, ?_⟩;rintro⟨t,_⟩ _ k;change Int at t;simp only at k⊢;obtain⟨b,f,k⟩:=k;refine⟨fun o=> ?_,fun o=> ?_⟩
 . have o:=qA o;have g:M0 (gx [] L.2.2 t) n:=by have:=l.2.2.2.2.2 _ (I0 (d:= []) b (show t<(L.2.2.length:Int)by omega));rwa[w]at this
   have w:M0 (gx [] U.2.2 t) n:=by have:=s.2.2.2.2.2 _ (I0 (d:= []) b (show t<(U.2.2.length:Int)by omega));rwa[z]at this
   have z:=u _ (I0 (d:= []) b (show t<(L.2.2.length:Int)by omega));have f:((t.toNat:Nat):Int)=t:=by omega
   have l:=A4m g (i:=t.toNat) (by omega);have r:=B5k w (i:=t.toNat);rw[f]at l r;have w:oI L U n t.toNat↔((∀j:Nat,(j:Int)<n->t.toNat<j->A5 (gx [] L.2.2 t) (j:Int)=0)/\A5 (gx [] L.2.2 t) t=1)/\(∀j:Nat,j<t.toNat->A5 (gx [] U.2.2 t) (j:Int)=0)/\A5 (gx [] U.2.2 t) t≠0:=by
    unfold oI el;rw[f];exact(and_assoc (a:=∀j:Nat,(j:Int)<n->t.toNat<j->A5 (L.2.2.getD t.toNat []) (j:Int)=0)).symm
   rw[<-l, <-r]at w;have s:¬oI L U n t.toNat->¬Da (P,Q,L,U) n:=fun h hh=>h (B.1 hh t.toNat (by omega))
   have f:∀ {v:List D2},((v.length:Int)=0)↔v= []:=fun {v} =>⟨fun h=>qR (by omega),fun h=>by rw[h];rfl⟩
   have l:=Gr g;have r:(gx [] L.2.2 t)≠ []->i64.wrap (((gx [] L.2.2 t).length:Int)-1)=((gx [] L.2.2 t).length:Int)-1:=fun h=>by
    have:=vD.2 h;exact wv (by omega)
   refine⟨⟨b,by omega⟩,⟨b,by omega⟩,fun h=> ?_,fun h=> ?_,fun h=> ?_, ?_⟩
   . have h:=mt f.2 (qB h);have:=vD.2 h;rw[r h];omega
   . simp only[rJ]at h;have h:=mt f.2 (qB h.1);have:=vD.2 h;rw[r h];omega
   . simp only[rJ]at h;have h:=mt f.2 (qB h.1);have b:=vD.2 h;rw[r h];exact⟨V4 (z _ (I0 (by omega) (by omega))) (by decide),y⟩
   rintro⟨c,_⟩ b;change Int at c;simp only at b⊢;refine⟨fun h=>PF (s fun l=> ?_),fun h=>⟨fun g=>⟨qI _, ?_⟩,fun g=>PF (s fun l=> ?_),fun g=> ?_⟩⟩
   . obtain⟨⟨u,z,E⟩,_⟩:=w.1 l;rw[r u]at b h;have s:decide (((gx [] L.2.2 t).length:Int)=0)=false:=rH (mt f.1 u);have y:decide ((gx F2 (gx [] L.2.2 t) (((gx [] L.2.2 t).length:Int)-1)).1≠t)=false:=rH (by rw[uQ];exact z);rw[s,y]at b h;have b:=(b rfl).2;rw[D,E]at b;rw[b,A3u.2 rfl]at h;simp at h
   . have:=mt f.2 (qB g);have:=vD.2 this;omega
   . obtain⟨_,u,z⟩:=w.1 l;rw[rH (mt f.1 u),rH (by rw[uQ];exact z)]at g;simp at g
   . simp only[rJ]at h g;have s:=mt f.2 (qB h.1.1);rw[r s]at b h;have y:=uQ.1 (qB h.1.2);have r:=uQ.1 (qB h.2);have b:=(b (by rw[h.1.1,h.1.2];rfl)).2;rw[r,D]at b;have h:=mt f.2 (qB g.1);have f:=uQ.1 (qB g.2);have l:=w.2 ⟨⟨s,y,A3u.1 b.symm⟩,h,f⟩;rw[wv (by omega)];refine⟨⟨by omega,by omega,fun i A=> ?_⟩,by omega⟩;by_cases b:i=t.toNat
     . subst b;exact l
     . exact k i (by omega)
 . have o:=qB o;exact⟨fun _=>B.2 fun i A=>k i (by omega),fun _=>trivial⟩
noncomputable def GC:H2:= [(72,Ci)]
def FF:An:= {loop:= [(3,⟨[1,3,24],[0,1,2,3,4,5,6,7,8,9,10,13],[(25,false,vI)],[],[(11, .nest (.mp false (.int .i64) false .bool) 174 4),(12, .row (.int .i64) 3)]⟩),(13,⟨[3,5,44,45,46,59,60],[0,1,2,3,4,5,6,7,9,10,12,13],[(61,false,vI)],[],[(11, .nest (.mp false (.int .i64) false .bool) 174 4)]⟩),(9,⟨[3,44,45],[0,1,2,3,4,5,6,7,10,12,13],[(46,false,vI)],[],[(9, .row (.sl tE) 79),(11, .nest (.mp false (.int .i64) false .bool) 174 4)]⟩)],plan:= [(1,[1,4,7,10],[],true,(.p 0 (.q 1 (.p 3 (.q 4 (.p 6 (.q 7 (.p 9 (.q 10 (.al [2,5,8,11] [12] (.e 13 (.p 14 .done)))))))))))),(11,[3],[8],true,(pZ9 0 3 (.q 3 (.p 4 (.p 5 (.e 6 (.p 7 (.e 8 .done)))))))),(15,[3,5],[9],false,(pZ9 0 3 (.q 3 (.p 4 (.q 5 (.p 6 (.p 8 (.e 7 (.e 9 .done)))))))))]}
noncomputable def Vz:H2:= []
def Ur:An:= {plan:= [(1,[0,3,4,7,10],[],false,(.q 0 (.p 1 (.p 2 (.q 3 (.q 4 (.p 5 (.p 6 (.q 7 (.p 8 (.p 9 (.q 10 (.p 11 (.e 12 (.e 13 (.p 14 .done))))))))))))))))]}
noncomputable def Wa:H2:= []
def Us:An:= {plan:= [(1,[0,3,4,7,10],[],false,(.q 0 (.p 1 (.p 2 (.q 3 (.q 4 (.p 5 (.p 6 (.q 7 (.p 8 (.p 9 (.q 10 (.p 11 (.e 12 (.e 13 (.p 14 .done))))))))))))))))]}
noncomputable def Wb:H2:= []
def Ut:An:= {plan:= [(1,[0,3,4,7,10],[],false,(.q 0 (.p 1 (.p 2 (.q 3 (.q 4 (.p 5 (.p 6 (.q 7 (.p 8 (.p 9 (.q 10 (.p 11 (.e 12 (.e 13 (.p 14 .done))))))))))))))))]}
noncomputable def Wc:H2:= []
def Uu:An:= {plan:= [(1,[0,3,4,7,10],[],false,(.q 0 (.p 1 (.p 2 (.q 3 (.q 4 (.p 5 (.p 6 (.q 7 (.p 8 (.p 9 (.q 10 (.p 11 (.e 12 (.e 13 (.p 14 .done))))))))))))))))]}
noncomputable def GD:H2:= [(158,Gy (RA ⟨prog,TR⟩ [(20,Vz,Ur),(23,Wa,Us),(28,Wb,Ut),(33,Wc,Uu)] f158.results.toList (f158.body.getD .skip) f158.ntmps))]
def FG:An:= {join:= [(8,⟨[1,6,14,15],[1,2,3,4,5,6,7,9,10,13,14,15],[(5,false,vI)],[],[(11, .nest (.mp false (.int .i64) false .bool) 174 4)]⟩),(10,⟨[1,6],[1,2,3,4,5,6,7,9,10,13,14,15],[(5,false,vI)],[],[(11, .nest (.mp false (.int .i64) false .bool) 174 4)]⟩),(14,⟨[1,3],[1,2,3,4,5,6,7,15],[],[(13,155,[.fix 9, .fix 10, .fix 11, .own (.int .i64) 3])],[(9, .row (.sl tE) 79),(10, .nest (.sl tE) 79 106),(11, .nest (.mp false (.int .i64) false .bool) 174 4)]⟩),(20,⟨[3],[1,2,3,4,5,6,7,9,10,13,17],[(2,false,vI)],[],[(11, .nest (.mp false (.int .i64) false .bool) 174 4)]⟩)],loop:= [(4,⟨[1,6,14],[1,2,3,4,5,6,7,9,10,13,14,15],[(5,false,vI),(15,false,vI)],[],[(11, .nest (.mp false (.int .i64) false .bool) 174 4)]⟩),(16,⟨[1,3,66],[1,2,3,4,5,6,7,9,10,11,13,15,17],[(2,false,vI)],[],[(19, .itM false (.int .i64) false .bool 18)]⟩)],plan:= [(13,[1,4,7,10],[14,17],false,(.q 1 (.p 2 (.p 3 (.q 4 (.p 5 (.p 6 (.q 7 (.p 8 (.p 9 (.q 10 (pZ9 11 3 (.or 0 (.e 14 (.p 15 (.p 16 (.e 17 .done)))) (.e 14 (.e 0 (.p 15 (.p 16 (.e 17 .done)))))))))))))))))),(18,[3,6,9,11,14,17,22,25,28,30,33,36],[],true,(pZ9 0 3 (.q 3 (.p 4 (.p 5 (.q 6 (.p 7 (.p 8 (.q 9 (.p 10 (.q 11 (.p 12 (.p 13 (.q 14 (.p 15 (.p 16 (.q 17 (pZ9 18 4 (.q 22 (.p 23 (.p 24 (.q 25 (.p 26 (.p 27 (.q 28 (.p 29 (.q 30 (.p 31 (.p 32 (.q 33 (.p 34 (.p 35 (.q 36 (pZ9 37 8 .done))))))))))))))))))))))))))))))))))]}
noncomputable def Wd:H2:= []
def Uv:An:= {loop:= [(1,⟨[0,2,6,7],[1,2,3,4,5,6,7,9,10,13,15,16,17],[(8,false,vI)],[],[(11, .nest (.mp false (.int .i64) false .bool) 174 4)]⟩)],plan:= [(3,[0,3,5],[9],false,(.q 0 (.p 1 (.p 2 (.q 3 (.p 4 (.q 5 (.p 6 (.p 8 (.e 7 (.e 9 .done)))))))))))]}
noncomputable def Tw:H2:= []
def Ru:An:= {loop:= [(1,⟨[0,2,6,7],[1,2,3,4,5,6,7,9,10,13,15,16,17,18,19],[(8,false,vI)],[],[(11, .nest (.mp false (.int .i64) false .bool) 174 4)]⟩)],plan:= [(3,[0,3,5],[9],false,(.q 0 (.p 1 (.p 2 (.q 3 (.p 4 (.q 5 (.p 6 (.p 8 (.e 7 (.e 9 .done)))))))))))]}
noncomputable def GE:H2:= [(45,Ej),(67,U8),(71,Ao),(160,Am),(161,O3),(159,Gy (RA ⟨prog,TR⟩ [(29,Wd,Uv),(107,Tw,Ru)] f159.results.toList (f159.body.getD .skip) f159.ntmps))]
def FH:An:= {join:= [(10,⟨[1,3,4,8,9,10],[1,2,3,4,5,6,7,9,10,13,15,16,17,18],[(12,false,[.own (.int .i64) 3])],[],[(11, .nest (.mp false (.int .i64) false .bool) 174 4)]⟩),(14,⟨[1,3,4,8,9,10,15,53,54,55],[1,2,3,4,5,6,7,9,10,11,13,15,16,17,18,19],[(16,false,[.fixB 20])],[(20,43,[.val .bool, .val (.sl (.int .u32)), .val (.sl (.int .u32))])],[]⟩),(15,⟨[1,3,4,8,9,10,15,16,53,54,55],[1,2,3,4,5,6,7,9,11,13,15,16,17,18,19,20],[],[],[(10, .nest (.sl tE) 79 106)]⟩)],loop:= [(7,⟨[1,3,4,8,9,10,44],[1,2,3,4,5,6,7,9,10,11,13,15,16,17,18],[(12,false,[.own (.int .i64) 3])],[],[(20, .itM false (.int .i64) false .bool 19)]⟩),(18,⟨[1,3,4,8,9,10,15,53,54,55,114,115],[1,2,3,4,5,6,7,9,10,13,15,16,17,18,19],[(116,false,vI)],[],[(11, .nest (.mp false (.int .i64) false .bool) 174 4)]⟩),(11,⟨[1,3,4,8,9,10,53,54],[1,2,3,4,5,6,7,13,15,16,17,18,19],[(55,false,vI)],[],[(9, .row (.sl tE) 79),(10, .nest (.sl tE) 79 106),(11, .nest (.mp false (.int .i64) false .bool) 174 4)]⟩)],plan:= [(13,[0,3,6,9],[12],true,(.q 0 (.p 1 (.p 2 (.q 3 (.p 4 (.p 5 (.q 6 (.p 7 (.q 9 (.or 8 (.or 10 (.e 11 (.e 12 .done)) (.e 11 (.e 10 (.e 12 .done)))) (.e 11 (.e 8 (.e 10 (.e 12 .done))))))))))))))),(14,[5,8,13],[16,18],false,(.p 4 (.q 5 (.p 6 (.p 7 (.q 8 (.p 9 (.p 10 (.p 12 (.q 13 (.p 14 (.or 0 (.p 1 (.p 2 (.or 3 (.or 11 (.e 15 (.e 16 (.p 17 (.e 18 .done)))) (.e 15 (.e 11 (.e 16 (.p 17 (.e 18 .done)))))) (.or 11 (.or 3 (.e 15 (.e 16 (.p 17 (.e 18 .done)))) (.e 15 (.or 3 (.e 16 (.p 17 (.e 18 .done))) (.e 16 (.e 3 (.p 17 (.e 18 .done))))))) (.e 15 (.or 3 (.e 11 (.e 16 (.p 17 (.e 18 .done)))) (.e 11 (.or 3 (.e 16 (.p 17 (.e 18 .done))) (.e 16 (.e 3 (.p 17 (.e 18 .done)))))))))))) (.or 11 (.or 0 (.p 1 (.p 2 (.or 3 (.e 15 (.e 16 (.p 17 (.e 18 .done)))) (.e 15 (.or 3 (.e 16 (.p 17 (.e 18 .done))) (.e 16 (.e 3 (.p 17 (.e 18 .done))))))))) (.e 15 (.or 0 (.p 1 (.p 2 (.or 3 (.e 16 (.p 17 (.e 18 .done))) (.e 16 (.e 3 (.p 17 (.e 18 .done))))))) (.e 16 (.e 0 (.p 1 (.p 2 (.e 3 (.p 17 (.e 18 .done)))))))))) (.e 15 (.or 0 (.p 1 (.p 2 (.or 3 (.e 11 (.e 16 (.p 17 (.e 18 .done)))) (.e 11 (.or 3 (.e 16 (.p 17 (.e 18 .done))) (.e 16 (.e 3 (.p 17 (.e 18 .done))))))))) (.e 11 (.or 0 (.p 1 (.p 2 (.or 3 (.e 16 (.p 17 (.e 18 .done))) (.e 16 (.e 3 (.p 17 (.e 18 .done))))))) (.e 16 (.e 0 (.p 1 (.p 2 (.e 3 (.p 17 (.e 18 .done)))))))))))))))))))))))),(15,[0,3,5,8,11,12,14],[17],true,(.q 0 (.p 1 (.p 2 (.q 3 (.p 4 (.q 5 (.p 6 (.p 7 (.q 8 (.p 9 (.p 10 (.q 11 (.q 12 (.q 14 (.e 13 (.e 15 (.p 16 (.e 17 .done))))))))))))))))))),(20,[0,3,5],[9],false,(.q 0 (.p 1 (.p 2 (.q 3 (.p 4 (.q 5 (.p 6 (.p 8 (.e 7 (.e 9 .done)))))))))))]}
def Rt:An:= {join:= [(13,⟨[2,5,6,7,8,45,46],[1,2,3,4,5,6,7],[(9,false,vI),(10,false,vI),(11,false,[.val .bool])],[(13,155,[.fix 9, .fix 10, .fix 11, .own (.int .i64) 3])],[(9, .row (.sl tE) 79),(10, .nest (.sl tE) 79 106),(11, .nest (.mp false (.int .i64) false .bool) 174 4)]⟩),(16,⟨[2,5,6,7,8,9,10,45,46],[1,4,5,6,9,10,11,13,15],[],[],[(2, .row (.int .i64) 3),(3, .row (.int .i64) 3),(7, .row (.int .i64) 3)]⟩),(22,⟨[2,5,6,7,12,13,79,80,81],[1,2,3,5,6,9,11,13,14],[],[],[(4, .row (.sl tE) 79),(10, .nest (.sl tE) 79 106)]⟩)],loop:= [(10,⟨[2,5,6,7,45],[1,4,5,6],[(46,false,vI)],[(13,155,[.fix 9, .fix 10, .fix 11, .own (.int .i64) 3])],[(2, .row (.int .i64) 3),(3, .row (.int .i64) 3),(7, .row (.int .i64) 3),(9, .row (.sl tE) 79),(10, .nest (.sl tE) 79 106),(11, .nest (.mp false (.int .i64) false .bool) 174 4)]⟩),(19,⟨[2,5,7,79,80],[1,2,3,6,9,11,13,14],[(6,false,[.val (.sl (.int .i64))]),(81,false,vI)],[],[(4, .row (.sl tE) 79),(5, .row (.sl tE) 79),(10, .nest (.sl tE) 79 106)]⟩)],plan:= [(6,[],[16],true,(.p 0 (.p 2 (pZ9 4 3 (pZ9 9 3 (.al [1,3,7,12,15] [8,13,14] (.e 16 .done))))))),(15,[1],[12,14,16],false,(.p 0 (.q 1 (.p 2 (.p 3 (pZ9 5 7 (.or 4 (.e 12 (.p 13 (.e 14 (.p 15 (.e 16 .done))))) (.e 12 (.e 4 (.p 13 (.e 14 (.p 15 (.e 16 .done))))))))))))),(21,[7],[15,17],false,(.p 0 (.p 1 (pZ9 3 4 (.q 7 (.p 8 (.p 9 (.p 11 (.or 2 (.or 10 (.e 12 (.p 13 (.e 14 (.e 15 (.p 16 (.e 17 .done)))))) (.e 12 (.p 13 (.or 10 (.e 14 (.e 15 (.p 16 (.e 17 .done)))) (.e 14 (.e 10 (.e 15 (.p 16 (.e 17 .done))))))))) (.or 10 (.or 2 (.e 12 (.p 13 (.e 14 (.e 15 (.p 16 (.e 17 .done)))))) (.e 12 (.p 13 (.or 2 (.e 14 (.e 15 (.p 16 (.e 17 .done)))) (.e 14 (.or 2 (.e 15 (.p 16 (.e 17 .done))) (.e 15 (.e 2 (.p 16 (.e 17 .done)))))))))) (.e 12 (.p 13 (.or 2 (.or 10 (.e 14 (.e 15 (.p 16 (.e 17 .done)))) (.e 14 (.e 10 (.e 15 (.p 16 (.e 17 .done)))))) (.or 10 (.or 2 (.e 14 (.e 15 (.p 16 (.e 17 .done)))) (.e 14 (.or 2 (.e 15 (.p 16 (.e 17 .done))) (.e 15 (.e 2 (.p 16 (.e 17 .done))))))) (.e 14 (.or 2 (.e 10 (.e 15 (.p 16 (.e 17 .done)))) (.e 10 (.or 2 (.e 15 (.p 16 (.e 17 .done))) (.e 15 (.e 2 (.p 16 (.e 17 .done)))))))))))))))))))))),(22,[2,7,10],[17],true,(.p 0 (.p 1 (.q 2 (pZ9 3 4 (.q 7 (.p 8 (.p 9 (.q 10 (.p 11 (.e 12 (pZ9 13 4 (.e 17 .done)))))))))))))]}
noncomputable def Tv:H2:= [(79,L3),(85,U5),(125,T5),(122,Gy (RA ⟨prog,TR⟩ [(44,GC,FF)] f122.results.toList (f122.body.getD .skip) f122.ntmps)),(123,Gy (RA ⟨prog,TR⟩ [(51,GD,FG)] f123.results.toList (f123.body.getD .skip) f123.ntmps)),(124,Gy (RA ⟨prog,TR⟩ [(76,GE,FH)] f124.results.toList (f124.body.getD .skip) f124.ntmps))]
abbrev C5x:=(List (List EE)×List Nat)×Unit
abbrev C6j:=Int×(List (Int×Bool)×List (Int×Bool))×Unit
abbrev C6l:=Int×(List (List (Int×Bool))×List Nat)×List Int×Unit
abbrev MC:=Int×(List (List (Int×Bool))×List Nat)×Unit
abbrev C6m:=Int×Int×(List (List (Int×Bool))×List Nat)×Unit
abbrev C6n:=Int×Int×Bool×List Int×List (List EE)×(List (List EE)×List Nat)×(List (List (Int×Bool))×List Nat)×Unit
abbrev C6r:=Int×List (List EE)×(List (List (Int×Bool))×List Nat)×Unit
abbrev C6s:=Int×List (List EE)×(List (List EE)×List Nat)×(List (List (Int×Bool))×List Nat)×Unit
abbrev C6v:=Int×List Int×List Int×List Int×List Int×List (List EE)×(List (List EE)×List Nat)×(List (List (Int×Bool))×List Nat)×Unit
abbrev C6y:=List (List EE)×(List (List EE)×List Nat)×Unit
abbrev C7b:=List Int×(List (Int×Bool)×List (Int×Bool))×Unit
abbrev C7c:=List Int×(List (List (Int×Bool))×List Nat)×Unit
abbrev C7e:=List Int×Int×List (List EE)×List (List EE)×(List (List EE)×List Nat)×Unit
abbrev C7f:=List Int×List (List EE)×(List (List EE)×List Nat)×(List (List (Int×Bool))×List Nat)×Unit
abbrev C7g:=List Int×List Int×List Int×Unit
def Jj:A2 N3.args->Prop:=fun(x:A3a)=>let a7:=(64:Nat);let b:=(281474976710656:Int);let f:=x.1.2.1.toNat;let a3:=(6:Int);let a2:=(4:Int);let a:=(9223372036854775807:Int);let h:=(x.1.2.2.length:Int);let a4:=x.1.1.toNat;let X:=(140737488355328:Nat);let R:Prop:=(∀(v:List EE),v∈ []->Z9 v);let E:=(1:Int);let d:=(0:Int);let V:Prop:=(d<=x.1.2.1/\x.1.2.1<=x.1.2.1/\(↑(8:Nat):Int)*x.1.2.1<=b/\x.1.2.1<=a);let G:Prop:=(d<=x.1.1/\x.1.1<=x.1.1/\(↑(8:Nat):Int)*x.1.1<=b/\x.1.1<=a);let D:Prop:=(∀(s:Nat),(1:Nat)<=s->Ef s x.1->∀(i j:Nat),i<x.1.1.toNat->qs (sK s x.1.1.toNat) (el (d,d,[]) i j)/\qs (sK s i) (el (d,d,[]) i j));let u:Prop:=(d<=x.1.1/\x.1.1<=x.1.1/\(↑(24:Nat):Int)*x.1.1<=b/\x.1.1<=a);True/\∀(r:Y5),True/\True->r.1=decide (F1 x.1)->((!r.1)=true->(¬F1 x.1->([],[],(d,d,[]),d,d,[])=kM/\E=E)/\(F1 x.1->(x.1.1≠x.1.2.1->([],[],(d,d,[]),d,d,[])=kM/\E=a2)/\(x.1.1=x.1.2.1->(¬nonsing x.1.1.toNat (el x.1)->([],[],(d,d,[]),d,d,[])=kM/\E=a3)/\(nonsing x.1.1.toNat (el x.1)->Da ([],[],(d,d,[]),d,d,[]) x.1.1/\E=d/\R/\R/\D/\∀(i j:Nat),i<x.1.1.toNat->j<x.1.1.toNat->luM ([],[],(d,d,[]),d,d,[]) x.1.1.toNat i j=el x.1 (ix [] i) (ix [] j)))))/\((!r.1)=false->(decide (x.1.1≠x.1.2.1)=true->(¬F1 x.1->([],[],(d,d,[]),d,d,[])=kM/\a2=E)/\(F1 x.1->(x.1.1≠x.1.2.1->([],[],(d,d,[]),d,d,[])=kM/\a2=a2)/\(x.1.1=x.1.2.1->(¬nonsing x.1.1.toNat (el x.1)->([],[],(d,d,[]),d,d,[])=kM/\a2=a3)/\(nonsing x.1.1.toNat (el x.1)->Da ([],[],(d,d,[]),d,d,[]) x.1.1/\a2=d/\R/\R/\D/\∀(i j:Nat),i<x.1.1.toNat->j<x.1.1.toNat->luM ([],[],(d,d,[]),d,d,[]) x.1.1.toNat i j=el x.1 (ix [] i) (ix [] j)))))/\(decide (x.1.1≠x.1.2.1)=false->G/\G/\u/\u/\G/\u/\u/\V/\V/\∃(I:C6l->Prop),∃(l: _->Nat),I (d,(List.replicate f [],Qs (Ty.mp false (Ty.int i64) false Ty.bool) f),List.replicate f d,())/\∀(p:C6l),let b:=p.1.toNat;(Ty.int i64).wf p.1/\p.2.1.1.length.le 9223372036854775807/\SK p.2.2.1/\True->I p->(decide (p.1<x.1.2.1)=true->(d<=p.1/\p.1<(↑p.2.1.1.length:Int))/\(d<=p.1/\p.1<(p.2.2.1.length:Int))/\I (i64.wrap (p.1+E),(p.2.1.1.set b [],QG b p.2.1.2),List.set p.2.2.1 b p.1,())/\l (i64.wrap (p.1+E),(p.2.1.1.set b [],QG b p.2.1.2),List.set p.2.2.1 b p.1,())<l p)/\(decide (p.1<x.1.2.1)=false->∃(I:C6r->Prop),∃(l: _->Nat),I (d,List.replicate a4 [],p.2.1,())/\∀(a:C6r),let F:=(gx [] x.1.2.2 a.1);let u:=(↑F.length:Int);(Ty.int i64).wf a.1/\Rs a.2.1/\a.2.2.1.1.length.le 9223372036854775807/\True->I a->(decide (a.1<h)=true->(d<=a.1/\a.1<h)/\Pg F/\∀(r:BQ),SJ r.1/\True->TG (A5 F) r.1->(d<=a.1/\a.1<(a.2.1.length:Int))/\∃(I_1:MC->Prop),∃(f: _->Nat),I_1 (d,a.2.2.1,())/\∀(p:MC),let g:=(gx F2 F p.1);let al:=g.1.toNat;let w:=(i64.wrap (a.1+E),List.set a.2.1 a.1.toNat r.1,p.2.1,());(Ty.int i64).wf p.1/\p.2.1.1.length.le 9223372036854775807/\True->I_1 p->(decide (p.1<u)=true->(d<=p.1/\p.1<u)/\(d<=g.1/\g.1<(↑p.2.1.1.length:Int))/\¬Int.toNat g.1∈p.2.1.2/\I_1 (i64.wrap (p.1+E),(p.2.1.1.set al (Fy (Ty.int i64) a.1 true (p.2.1.1.getD al [])),p.2.1.2),())/\f (i64.wrap (p.1+E),(p.2.1.1.set al (Fy (Ty.int i64) a.1 true (p.2.1.1.getD al [])),p.2.1.2),())<f p)/\(decide (p.1<u)=false->I w/\l w<l a))/\(decide (a.1<h)=false->∃(I:C6v->Prop),∃(l: _->Nat),I (d,p.2.2.1,List.replicate a4 d,List.replicate a4 d,List.replicate a4 d,a.2.1,(List.replicate a4 [],Qs tE.sl a4),a.2.2.1,())/\∀(b:C6v),let a9:Prop:=(d<=b.1/\b.1<(b.2.2.2.1.length:Int));let a8:=(b.2.2.1.length:Int);let w:=(↑b.2.1.length:Int);(Ty.int i64).wf b.1/\(Ty.int i64).sl.wf b.2.1/\SK b.2.2.1/\SK b.2.2.2.1/\SK b.2.2.2.2.1/\Rs b.2.2.2.2.2.1/\b.2.2.2.2.2.2.1.1.length.le 9223372036854775807/\b.2.2.2.2.2.2.2.1.1.length.le 9223372036854775807/\True->I b->(decide (b.1<x.1.1)=true->∃(J:C6n->Prop),(∃(J_1:MC->Prop),(∃(I:C6m->Prop),∃(l: _->Nat),I (d,d,b.2.2.2.2.2.2.2.1,())/\∀(a:C6m),let g:=(↑a.2.2.1.1.length:Int);let Z:=a.1.toNat;let z:=a.2.1.toNat;let K:Prop:=((↑(a.2.2.1.1.getD (b.2.1.getD z d).toNat []).length:Int)<(↑((a.2.2.1.1.set (b.2.1.getD z d).toNat (a.2.2.1.1.getD (b.2.1.getD z d).toNat [])).getD (b.2.1.getD Z d).toNat []).length:Int));(Ty.int i64).wf a.1/\(Ty.int i64).wf a.2.1/\a.2.2.1.1.length.le 9223372036854775807/\True->I a->(decide (a.2.1<w)=true->∃(J:MC->Prop),((d<=a.2.1/\a.2.1<w)/\(d<=b.2.1.getD z d/\b.2.1.getD z d<g)/\¬(b.2.1.getD z d).toNat∈a.2.2.1.2/\(a.2.2.1.1.getD (b.2.1.getD z d).toNat []).length<=9223372036854775807/\(d<=a.1/\a.1<w)/\(d<=b.2.1.getD Z d/\b.2.1.getD Z d<g)/\¬(b.2.1.getD Z d).toNat∈a.2.2.1.2/\((a.2.2.1.1.set (b.2.1.getD z d).toNat (a.2.2.1.1.getD (b.2.1.getD z d).toNat [])).getD (b.2.1.getD Z d).toNat []).length<=9223372036854775807/\(decide K=true->J (a.2.1,((a.2.2.1.1.set (b.2.1.getD z d).toNat (a.2.2.1.1.getD (b.2.1.getD z d).toNat [])).set (b.2.1.getD Z d).toNat ((a.2.2.1.1.set (b.2.1.getD z d).toNat (a.2.2.1.1.getD (b.2.1.getD z d).toNat [])).getD (b.2.1.getD Z d).toNat []),a.2.2.1.2),()))/\(decide K=false->J (a.1,((a.2.2.1.1.set (b.2.1.getD z d).toNat (a.2.2.1.1.getD (b.2.1.getD z d).toNat [])).set (b.2.1.getD Z d).toNat ((a.2.2.1.1.set (b.2.1.getD z d).toNat (a.2.2.1.1.getD (b.2.1.getD z d).toNat [])).getD (b.2.1.getD Z d).toNat []),a.2.2.1.2),())))/\∀(h:MC),let Q:=h.1.toNat;let u:Prop:=((↑(h.2.1.1.getD (b.2.1.getD Q d).toNat []).length:Int)<=E);(Ty.int i64).wf h.1/\h.2.1.1.length.le 9223372036854775807/\True->J h->(d<=h.1/\h.1<w)/\(d<=b.2.1.getD Q d/\b.2.1.getD Q d<(↑h.2.1.1.length:Int))/\¬(b.2.1.getD Q d).toNat∈h.2.1.2/\(h.2.1.1.getD (b.2.1.getD Q d).toNat []).length<=9223372036854775807/\(decide u=true->J_1 (h.1,(h.2.1.1.set (b.2.1.getD Q d).toNat (h.2.1.1.getD (b.2.1.getD Q d).toNat []),h.2.1.2),()))/\(decide u=false->I (h.1,i64.wrap (a.2.1+E),(h.2.1.1.set (b.2.1.getD Q d).toNat (h.2.1.1.getD (b.2.1.getD Q d).toNat []),h.2.1.2),())/\l (h.1,i64.wrap (a.2.1+E),(h.2.1.1.set (b.2.1.getD Q d).toNat (h.2.1.1.getD (b.2.1.getD Q d).toNat []),h.2.1.2),())<l a))/\(decide (a.2.1<w)=false->J_1 (a.1,a.2.2.1,())))/\∀(a:MC),let g:=(i64.wrap (a.1+E));let H:Prop:=((Int.toNat a.1+(List.drop g.toNat (List.take w.toNat b.2.1)).length)*(8:Nat)<=X/\Int.toNat a.1+(List.drop g.toNat (List.take w.toNat b.2.1)).length<=9223372036854775807);let B:=a.1.toNat;let u:=(↑(a.2.1.1.getD (b.2.1.getD B d).toNat []).length:Int);(Ty.int i64).wf a.1/\a.2.1.1.length.le 9223372036854775807/\True->J_1 a->(d<=a.1/\a.1<w)/\(d<=b.2.1.getD B d/\b.2.1.getD B d<(↑a.2.1.1.length:Int))/\¬(b.2.1.getD B d).toNat∈a.2.1.2/\(a.2.1.1.getD (b.2.1.getD B d).toNat []).length<=9223372036854775807/\(decide (u=d)=true->J (d,d,false,b.2.1,b.2.2.2.2.2.1,b.2.2.2.2.2.2.1,(a.2.1.1.set (b.2.1.getD B d).toNat (a.2.1.1.getD (b.2.1.getD B d).toNat []),a.2.1.2),()))/\(decide (u=d)=false->(d<=a.1/\a.1<w)/\∃(J_2:C7f->Prop),((d<=d/\d<=a.1/\a.1<=w)/\(d<=i64.wrap (a.1+E)/\i64.wrap (a.1+E)<=w/\w<=w)/\(H/\J_2 (List.take B b.2.1++List.drop g.toNat (List.take w.toNat b.2.1),b.2.2.2.2.2.1,b.2.2.2.2.2.2.1,(a.2.1.1.set (b.2.1.getD B d).toNat (a.2.1.1.getD (b.2.1.getD B d).toNat []),a.2.1.2),()))/\H/\J_2 (List.take B b.2.1++List.drop g.toNat (List.take w.toNat b.2.1),b.2.2.2.2.2.1,b.2.2.2.2.2.2.1,(a.2.1.1.set (b.2.1.getD B d).toNat (a.2.1.1.getD (b.2.1.getD B d).toNat []),a.2.1.2),()))/\∀(h:C7f),let z:=(h.2.1.length:Int);(Ty.int i64).sl.wf h.1/\Rs h.2.1/\h.2.2.1.1.length.le 9223372036854775807/\h.2.2.2.1.1.length.le 9223372036854775807/\True->J_2 h->∃(J_3:MC->Prop),((d<=b.2.1.getD B d/\b.2.1.getD B d<(↑h.2.2.2.1.1.length:Int))/\¬(b.2.1.getD B d).toNat∈h.2.2.2.1.2/\∃(I:C6j->Prop),∃(l: _->Nat),I ((-1:Int),(h.2.2.2.1.1.getD (b.2.1.getD B d).toNat [],h.2.2.2.1.1.getD (b.2.1.getD B d).toNat []),())/\∀(g:C6j),let w:=(decide (g.1<d));let a5:=(↑(List.getD h.2.1 g.1.toNat []).length:Int);(Ty.int i64).wf g.1/\(∀(x:Int×Bool),x∈g.2.1.2->K4 x.1/\True)/\True->I g->(g.2.1.2= []->(false=true->False)/\(false=false->J_3 (g.1,(h.2.2.2.1.1.set (b.2.1.getD B d).toNat g.2.1.1,h.2.2.2.1.2),())))/\∀(u:List (Int×Bool)) (y:Int×Bool) (a0:List (Int×Bool)),let a6:=(↑(List.getD h.2.1 y.1.toNat []).length:Int);let a1:=(g.2.1.1,u++a0);let U:=(J9 (decide (a6=a5)) (decide (y.1<g.1)) false);let A:=(decide (a6<a5));g.2.1.2=u++y::a0->(true=true->(decide (g.1<d)=false->d<=y.1/\y.1<z)/\(decide (g.1<d)=false->d<=g.1/\g.1<z)/\(J9 w true A=false->d<=y.1/\y.1<z)/\(J9 w true A=false->d<=g.1/\g.1<z)/\(J9 (J9 w true A) true U=true->I (y.1,a1,())/\l (y.1,a1,())<l g)/\(J9 (J9 w true A) true U=false->I (g.1,a1,())/\l (g.1,a1,())<l g))/\(true=false->J_3 (g.1,(h.2.2.2.1.1,(b.2.1.getD B d).toNat::h.2.2.2.1.2),())))/\∀(p:MC),(Ty.int i64).wf p.1/\p.2.1.1.length.le 9223372036854775807/\True->J_3 p->J (p.1,b.2.1.getD B d,true,h.1,h.2.1,h.2.2.1,p.2.1,())))/\∀(a:C6n),let aa:=a.2.1.toNat;let w:Prop:=(d<=a.2.1/\a.2.1<(b.2.2.2.2.1.length:Int));let S:=(List.set b.2.2.1 b.1.toNat a.1,List.set b.2.2.2.1 b.1.toNat a.2.1,List.set b.2.2.2.2.1 aa b.1,());let a5:=(List.getD a.2.2.2.2.1 a.1.toNat []);let a6:=(↑a5.length:Int);(Ty.int i64).wf a.1/\(Ty.int i64).wf a.2.1/\Ty.bool.wf a.2.2.1/\(Ty.int i64).sl.wf a.2.2.2.1/\Rs a.2.2.2.2.1/\a.2.2.2.2.2.1.1.length.le 9223372036854775807/\a.2.2.2.2.2.2.1.1.length.le 9223372036854775807/\True->J a->((!a.2.2.1)=true->(¬F1 x.1->([],[],(d,d,[]),d,d,[])=kM/\a3=E)/\(F1 x.1->(x.1.1≠x.1.2.1->([],[],(d,d,[]),d,d,[])=kM/\a3=a2)/\(x.1.1=x.1.2.1->(¬nonsing x.1.1.toNat (el x.1)->([],[],(d,d,[]),d,d,[])=kM/\a3=a3)/\(nonsing x.1.1.toNat (el x.1)->Da ([],[],(d,d,[]),d,d,[]) x.1.1/\a3=d/\R/\R/\D/\∀(i j:Nat),i<x.1.1.toNat->j<x.1.1.toNat->luM ([],[],(d,d,[]),d,d,[]) x.1.1.toNat i j=el x.1 (ix [] i) (ix [] j)))))/\((!a.2.2.1)=false->∃(J:C7g->Prop),((d<=b.1/\b.1<a8)/\(a9/\w/\J S)/\a9/\w/\J S)/\∀(h:C7g),SK h.1/\SK h.2.1/\SK h.2.2.1/\True->J h->(d<=a.1/\a.1<(a.2.2.2.2.1.length:Int))/\∃(I_1:MC->Prop),∃(f: _->Nat),I_1 (d,a.2.2.2.2.2.2.1,())/\∀(g:MC),let ac:=(↑g.2.1.1.length:Int);let a9:=(gx F2 a5 g.1);let a1:=a9.1.toNat;(Ty.int i64).wf g.1/\g.2.1.1.length.le 9223372036854775807/\True->I_1 g->(decide (g.1<a6)=true->(d<=g.1/\g.1<a6)/\(d<=a9.1/\a9.1<ac)/\¬Int.toNat a9.1∈g.2.1.2/\I_1 (i64.wrap (g.1+E),(g.2.1.1.set a1 (Qq (Ty.int i64) a.1 (g.2.1.1.getD a1 [])),g.2.1.2),())/\f (i64.wrap (g.1+E),(g.2.1.1.set a1 (Qq (Ty.int i64) a.1 (g.2.1.1.getD a1 [])),g.2.1.2),())<f g)/\(decide (g.1<a6)=false->ER K1 a5/\∀(z:D5),FD z.1/\True->z.1=rc (A5 a5 a.2.1)->E6 z.1/\∀(w:B9m),FD w.1/\True/\True->(rv z.1=(0:Rat)->w.2.1=false)/\(rv z.1≠(0:Rat)->w.1=rc (rv z.1)⁻¹/\w.2.1=true)->∃(J:C7c->Prop),((d<=a.2.1/\a.2.1<ac)/\¬Int.toNat a.2.1∈g.2.1.2/\∃(I:C7b->Prop),∃(l: _->Nat),I ([],(g.2.1.1.getD aa [],g.2.1.1.getD aa []),())/\∀(p:C7b),(Ty.int i64).sl.wf p.1/\(∀(x:Int×Bool),x∈p.2.1.2->K4 x.1/\True)/\True->I p->(p.2.1.2= []->(false=true->False)/\(false=false->J (p.1,(g.2.1.1.set aa p.2.1.1,g.2.1.2),())))/\∀(u:List (Int×Bool)) (y:Int×Bool) (a0:List (Int×Bool)),let ab:=(p.1++ [y.1],(p.2.1.1,u++a0),());p.2.1.2=u++y::a0->(true=true->((p.1.length+ [y.1].length)*(8:Nat)<=X/\p.1.length+ [y.1].length<=9223372036854775807)/\I ab/\l ab<l p)/\(true=false->J (p.1,(g.2.1.1,Int.toNat a.2.1::g.2.1.2),())))/\∀(f:C7c),let aa:=(↑f.1.length:Int);(Ty.int i64).sl.wf f.1/\f.2.1.1.length.le 9223372036854775807/\True->J f->∃(I_2:C6s->Prop),∃(ad: _->Nat),I_2 (d,a.2.2.2.2.1,a.2.2.2.2.2.1,f.2.1,())/\∀(g:C6s),let Y:=(i64.wrap (b.1+E),a.2.2.2.1,h.1,h.2.1,h.2.2.1,g.2.1,g.2.2.1,g.2.2.2.1,());let e:=g.1.toNat;let W:Prop:=(d<=f.1.getD e d/\f.1.getD e d<(g.2.1.length:Int));let L:=(List.getD g.2.1 (f.1.getD e d).toNat []);let y:Prop:=(d<=f.1.getD e d/\f.1.getD e d<(↑g.2.2.1.1.length:Int));(Ty.int i64).wf g.1/\Rs g.2.1/\g.2.2.1.1.length.le 9223372036854775807/\g.2.2.2.1.1.length.le 9223372036854775807/\True->I_2 g->(decide (g.1<aa)=true->(d<=g.1/\g.1<aa)/\∃(J:MB->Prop),(W/\(ER K1 L/\∀(r:D5),FD r.1/\True->r.1=rc (A5 L a.2.1)->((E6 r.1/\E6 w.1)/\∀(u:D5),FD u.1/\True->u.1=rc (rv r.1*rv w.1)->J (u.1.1.1,u.1.1.2,u.1.2,()))/\(E6 r.1/\E6 w.1)/\∀(u:D5),FD u.1/\True->u.1=rc (rv r.1*rv w.1)->J (u.1.1.1,u.1.1.2,u.1.2,()))/\ER K1 L/\∀(r:D5),FD r.1/\True->r.1=rc (A5 L a.2.1)->(E6 r.1/\E6 w.1)/\∀(u:D5),FD u.1/\True->u.1=rc (rv r.1*rv w.1)->J (u.1.1.1,u.1.1.2,u.1.2,()))/\∀(a1:MB),let ab:=(a1.1,a1.2.1);let w:=(b.1,ab,a1.2.2.1);let a0:Prop:=(((g.2.2.1.1.getD (f.1.getD e d).toNat []).length+ [w].length)*a7<=X/\(g.2.2.1.1.getD (f.1.getD e d).toNat []).length+ [w].length<=9223372036854775807);Ty.bool.wf a1.1/\(Ty.int u32).sl.wf a1.2.1/\(Ty.int u32).sl.wf a1.2.2.1/\True->J a1->∃(J:C5x->Prop),let n:Prop:=(¬(f.1.getD e d).toNat∈g.2.2.1.2/\a0/\y/\(f.1.getD e d).toNat=(f.1.getD e d).toNat/\J ((g.2.2.1.1.set (f.1.getD e d).toNat (g.2.2.1.1.getD (f.1.getD e d).toNat []++ [w]),g.2.2.1.2),()));let c:Prop:=(a0/\y/\(f.1.getD e d).toNat=(f.1.getD e d).toNat/\J ((g.2.2.1.1.set (f.1.getD e d).toNat (g.2.2.1.1.getD (f.1.getD e d).toNat []++ [w]),g.2.2.1.2),()));let P:Prop:=(c/\a0/\y/\(f.1.getD e d).toNat=(f.1.getD e d).toNat/\J ((g.2.2.1.1.set (f.1.getD e d).toNat (g.2.2.1.1.getD (f.1.getD e d).toNat []++ [w]),g.2.2.1.2),()));(y/\((n/\¬(f.1.getD e d).toNat∈g.2.2.1.2/\a0/\y/\(f.1.getD e d).toNat=(f.1.getD e d).toNat/\J ((g.2.2.1.1.set (f.1.getD e d).toNat (g.2.2.1.1.getD (f.1.getD e d).toNat []++ [w]),g.2.2.1.2),()))/\(¬(f.1.getD e d).toNat∈g.2.2.1.2/\c/\c/\a0/\y/\(f.1.getD e d).toNat=(f.1.getD e d).toNat/\J ((g.2.2.1.1.set (f.1.getD e d).toNat (g.2.2.1.1.getD (f.1.getD e d).toNat []++ [w]),g.2.2.1.2),()))/\n/\¬(f.1.getD e d).toNat∈g.2.2.1.2/\c/\a0/\y/\(f.1.getD e d).toNat=(f.1.getD e d).toNat/\J ((g.2.2.1.1.set (f.1.getD e d).toNat (g.2.2.1.1.getD (f.1.getD e d).toNat []++ [w]),g.2.2.1.2),()))/\(¬(f.1.getD e d).toNat∈g.2.2.1.2/\(c/\c/\a0/\y/\(f.1.getD e d).toNat=(f.1.getD e d).toNat/\J ((g.2.2.1.1.set (f.1.getD e d).toNat (g.2.2.1.1.getD (f.1.getD e d).toNat []++ [w]),g.2.2.1.2),()))/\P/\a0/\y/\(f.1.getD e d).toNat=(f.1.getD e d).toNat/\J ((g.2.2.1.1.set (f.1.getD e d).toNat (g.2.2.1.1.getD (f.1.getD e d).toNat []++ [w]),g.2.2.1.2),()))/\(n/\¬(f.1.getD e d).toNat∈g.2.2.1.2/\c/\a0/\y/\(f.1.getD e d).toNat=(f.1.getD e d).toNat/\J ((g.2.2.1.1.set (f.1.getD e d).toNat (g.2.2.1.1.getD (f.1.getD e d).toNat []++ [w]),g.2.2.1.2),()))/\¬(f.1.getD e d).toNat∈g.2.2.1.2/\P/\a0/\y/\(f.1.getD e d).toNat=(f.1.getD e d).toNat/\J ((g.2.2.1.1.set (f.1.getD e d).toNat (g.2.2.1.1.getD (f.1.getD e d).toNat []++ [w]),g.2.2.1.2),()))/\∀(ac:C5x),ac.1.1.length.le 9223372036854775807/\True->J ac->W/\E6 (ab,a1.2.2.1)/\∀(u:D5),FD u.1/\True->u.1=rc (-rv (ab,a1.2.2.1))->(ER K1 L/\sz K1 u.1/\ER K1 a5)/\∀(a9:BQ),let O:=(List.set g.2.1 (f.1.getD e d).toNat a9.1);let a1:=(↑(O.getD (f.1.getD e d).toNat []).length:Int);SJ a9.1/\True->TG (fun(i:Int)=>A5 L i+rv u.1*A5 a5 i) a9.1->W/\∃(I:MC->Prop),∃(l: _->Nat),I (d,g.2.2.2.1,())/\∀(w:MC),let a0:=(gx F2 a5 w.1);let y:=a0.1.toNat;(Ty.int i64).wf w.1/\w.2.1.1.length.le 9223372036854775807/\True->I w->(decide (w.1<a6)=true->(d<=w.1/\w.1<a6)/\(d<=a0.1/\a0.1<(↑w.2.1.1.length:Int))/\¬Int.toNat a0.1∈w.2.1.2/\I (i64.wrap (w.1+E),(w.2.1.1.set y (Qq (Ty.int i64) (f.1.getD e d) (w.2.1.1.getD y [])),w.2.1.2),())/\l (i64.wrap (w.1+E),(w.2.1.1.set y (Qq (Ty.int i64) (f.1.getD e d) (w.2.1.1.getD y [])),w.2.1.2),())<l w)/\(decide (w.1<a6)=false->(d<=f.1.getD e d/\f.1.getD e d<(↑O.length:Int))/\∃(I:MC->Prop),∃(l: _->Nat),I (d,w.2.1,())/\∀(u:MC),let a5:=(i64.wrap (g.1+E),List.set g.2.1 (f.1.getD e d).toNat a9.1,ac.1,u.2.1,());let m:=(gx F2 (O.getD (f.1.getD e d).toNat []) u.1);let w:=m.1.toNat;(Ty.int i64).wf u.1/\u.2.1.1.length.le 9223372036854775807/\True->I u->(decide (u.1<a1)=true->(d<=u.1/\u.1<a1)/\(d<=m.1/\m.1<(↑u.2.1.1.length:Int))/\¬Int.toNat m.1∈u.2.1.2/\I (i64.wrap (u.1+E),(u.2.1.1.set w (Fy (Ty.int i64) (f.1.getD e d) true (u.2.1.1.getD w [])),u.2.1.2),())/\l (i64.wrap (u.1+E),(u.2.1.1.set w (Fy (Ty.int i64) (f.1.getD e d) true (u.2.1.1.getD w [])),u.2.1.2),())<l u)/\(decide (u.1<a1)=false->I_2 a5/\ad a5<ad g)))/\(decide (g.1<aa)=false->I Y/\l Y<l b))))/\(decide (b.1<x.1.1)=false->∃(I:C7e->Prop),∃(l: _->Nat),I (b.2.2.2.2.1,d,List.replicate a4 [],List.replicate a4 [],b.2.2.2.2.2.2.1,())/\∀(a:C7e),let a6:=(x.1.1,x.1.1,a.2.2.1);let w:=(a.1.length:Int);let t:=a.2.1.toNat;let o:=(b.2.2.1,b.2.2.2.1,a6,x.1.1,x.1.1,a.2.2.2.1);let k:Prop:=(d<=a.2.1/\a.2.1<(a.2.2.1.length:Int));let f:=(List.getD b.2.2.1 t d);let y:=(List.getD b.2.2.2.2.2.1 f.toNat []);(Ty.int i64).sl.wf a.1/\(Ty.int i64).wf a.2.1/\Rs a.2.2.1/\Rs a.2.2.2.1/\a.2.2.2.2.1.1.length.le 9223372036854775807/\True->I a->(decide (a.2.1<a8)=true->(d<=a.2.1/\a.2.1<a8)/\∃(J:C6y->Prop),((d<=List.getD b.2.2.1 t d/\List.getD b.2.2.1 t d<(↑a.2.2.2.2.1.1.length:Int))/\((¬f.toNat∈a.2.2.2.2.1.2/\True/\∀(r:D5),let u:=(a.2.1,r.1);FD r.1/\True->r.1=ri E->(((a.2.2.2.2.1.1.getD f.toNat []).length+ [u].length)*a7<=X/\(a.2.2.2.2.1.1.getD f.toNat []).length+ [u].length<=9223372036854775807)/\k/\J (List.set a.2.2.1 t (a.2.2.2.2.1.1.getD f.toNat []++ [u]),(a.2.2.2.2.1.1,f.toNat::a.2.2.2.2.1.2),()))/\True/\∀(r:D5),let g:=(a.2.1,r.1);let M:Prop:=(((a.2.2.2.2.1.1.getD f.toNat []).length+ [g].length)*a7<=X/\(a.2.2.2.2.1.1.getD f.toNat []).length+ [g].length<=9223372036854775807);FD r.1/\True->r.1=ri E->(¬f.toNat∈a.2.2.2.2.1.2/\M/\k/\J (List.set a.2.2.1 t (a.2.2.2.2.1.1.getD f.toNat []++ [g]),(a.2.2.2.2.1.1,f.toNat::a.2.2.2.2.1.2),()))/\¬f.toNat∈a.2.2.2.2.1.2/\M/\k/\J (List.set a.2.2.1 t (a.2.2.2.2.1.1.getD f.toNat []++ [g]),(a.2.2.2.2.1.1,f.toNat::a.2.2.2.2.1.2),()))/\(¬f.toNat∈a.2.2.2.2.1.2/\(True/\∀(r:D5),let a0:=(a.2.1,r.1);FD r.1/\True->r.1=ri E->(((a.2.2.2.2.1.1.getD f.toNat []).length+ [a0].length)*a7<=X/\(a.2.2.2.2.1.1.getD f.toNat []).length+ [a0].length<=9223372036854775807)/\k/\J (List.set a.2.2.1 t (a.2.2.2.2.1.1.getD f.toNat []++ [a0]),(a.2.2.2.2.1.1,f.toNat::a.2.2.2.2.1.2),()))/\True/\∀(r:D5),let u:=(a.2.1,r.1);let q:Prop:=(((a.2.2.2.2.1.1.getD f.toNat []).length+ [u].length)*a7<=X/\(a.2.2.2.2.1.1.getD f.toNat []).length+ [u].length<=9223372036854775807);let T:Prop:=(q/\k/\J (List.set a.2.2.1 t (a.2.2.2.2.1.1.getD f.toNat []++ [u]),(a.2.2.2.2.1.1,f.toNat::a.2.2.2.2.1.2),()));FD r.1/\True->r.1=ri E->T/\T/\q/\k/\J (List.set a.2.2.1 t (a.2.2.2.2.1.1.getD f.toNat []++ [u]),(a.2.2.2.2.1.1,f.toNat::a.2.2.2.2.1.2),()))/\True/\∀(r:D5),let g:=(a.2.1,r.1);let u:Prop:=(((a.2.2.2.2.1.1.getD f.toNat []).length+ [g].length)*a7<=X/\(a.2.2.2.2.1.1.getD f.toNat []).length+ [g].length<=9223372036854775807);let N:Prop:=(¬f.toNat∈a.2.2.2.2.1.2/\u/\k/\J (List.set a.2.2.1 t (a.2.2.2.2.1.1.getD f.toNat []++ [g]),(a.2.2.2.2.1.1,f.toNat::a.2.2.2.2.1.2),()));let C:Prop:=(u/\k/\J (List.set a.2.2.1 t (a.2.2.2.2.1.1.getD f.toNat []++ [g]),(a.2.2.2.2.1.1,f.toNat::a.2.2.2.2.1.2),()));FD r.1/\True->r.1=ri E->(N/\¬f.toNat∈a.2.2.2.2.1.2/\u/\k/\J (List.set a.2.2.1 t (a.2.2.2.2.1.1.getD f.toNat []++ [g]),(a.2.2.2.2.1.1,f.toNat::a.2.2.2.2.1.2),()))/\(¬f.toNat∈a.2.2.2.2.1.2/\C/\C/\u/\k/\J (List.set a.2.2.1 t (a.2.2.2.2.1.1.getD f.toNat []++ [g]),(a.2.2.2.2.1.1,f.toNat::a.2.2.2.2.1.2),()))/\N/\¬f.toNat∈a.2.2.2.2.1.2/\C/\u/\k/\J (List.set a.2.2.1 t (a.2.2.2.2.1.1.getD f.toNat []++ [g]),(a.2.2.2.2.1.1,f.toNat::a.2.2.2.2.1.2),()))/\∀(h:C6y),Rs h.1/\h.2.1.1.length.le 9223372036854775807/\True->J h->(d<=List.getD b.2.2.1 t d/\List.getD b.2.2.1 t d<(b.2.2.2.2.2.1.length:Int))/\(ER K1 y/\List.length a.1<=100000)/\∀(z:List EE×Bool×Unit),let a0:=(a.1,i64.wrap (a.2.1+E),h.1,List.set a.2.2.2.1 t z.1,h.2.1,());SJ z.1/\True/\True->(L9 a.1 w->(∀(j:Int),A5 y j≠(0:Rat)->d<=j/\j<w)->TG (fun(i:Int)=>if d<=i/\i<w then A5 y (↑(List.idxOf i a.1):Int)else(0:Rat)) z.1/\z.2.1=true)->(d<=a.2.1/\a.2.1<(a.2.2.2.1.length:Int))/\I a0/\l a0<l a)/\(decide (a.2.1<a8)=false->(¬F1 x.1->o=kM/\d=E)/\(F1 x.1->(x.1.1≠x.1.2.1->o=kM/\d=a2)/\(x.1.1=x.1.2.1->(¬nonsing x.1.1.toNat (el x.1)->o=kM/\d=a3)/\(nonsing x.1.1.toNat (el x.1)->Da o x.1.1/\d=d/\(∀(v:List EE),v∈a.2.2.1->Z9 v)/\(∀(v:List EE),v∈a.2.2.2.1->Z9 v)/\(∀(s:Nat),(1:Nat)<=s->Ef s x.1->∀(i j:Nat),i<x.1.1.toNat->qs (sK s x.1.1.toNat) (el a6 i j)/\qs (sK s i) (el (x.1.1,x.1.1,a.2.2.2.1) i j))/\∀(i j:Nat),i<x.1.1.toNat->j<x.1.1.toNat->luM o x.1.1.toNat i j=el x.1 (ix b.2.2.1 i) (ix b.2.2.2.1 j))))))))))
def GI (x:A2 N3.args):B8r prog TR Tv Rt N3 f78 x=Jj x:=by kernel_rfl
def C8j (n:Nat) (M:Dx) (rest:List Int) (rows lower:List (List D2)) (cols:List R4) (q:Int×Int×Bool×List Int×List (List D2)×NR×NB×Unit):Prop:=q.2.2.2.2.1=rows/\q.2.2.2.2.2.1.1=lower/\kJ n q.2.2.2.2.2.1.2/\q.2.2.2.2.2.2.1.1=cols/\kJ n q.2.2.2.2.2.2.1.2/\(q.2.2.1=false->¬nonsing n (el M))/\(q.2.2.1=true->q.2.1∈rest/\q.1∈Q6 (cols.getD q.2.1.toNat [])/\q.2.2.2.1.Nodup/\∀x,x∈q.2.2.2.1↔x∈rest/\x≠q.2.1)
def C0a (n:Nat) (rest:List Int) (cols:List R4) (q:Int×NB×Unit):Prop:=0<=q.1/\q.1<(rest.length:Int)/\q.2.1.1=cols/\kJ n q.2.1.2
def C4p (n:Nat) (rest:List Int) (cols:List R4) (q:Int×Int×NB×Unit):Prop:=0<=q.1/\q.1<(rest.length:Int)/\0<=q.2.1/\q.2.1<=(rest.length:Int)/\q.2.2.1.1=cols/\kJ n q.2.2.1.2
def C8k (n:Nat) (rest:List Int) (b:Nat) (rows lower:List (List D2)) (cols:List R4) (q:List Int×List (List D2)×NR×NB×Unit):Prop:=q.1=rest.take b++rest.drop (b+1)/\q.2.1=rows/\q.2.2.1.1=lower/\kJ n q.2.2.1.2/\q.2.2.2.1.1=cols/\kJ n q.2.2.2.1.2
def C8u (es:R4) (q:Int×(R4×R4)×Unit):Prop:=q.2.1.1=es/\(∀y∈q.2.1.2,y∈es)/\((q.1<0/\q.2.1.2.length=es.length)\/q.1∈Q6 es)
def C8v (n:Nat) (cols:List R4) (c:Int) (q:Int×NB×Unit):Prop:=q.1∈Q6 (cols.getD c.toNat [])/\q.2.1.1=cols/\kJ n q.2.1.2
def C8s (es:R4) (q:List Int×(R4×R4)×Unit):Prop:=q.2.1.1=es/\(q.1++Q6 q.2.1.2).Perm (Q6 es)
def C8t (n:Nat) (cols:List R4) (c:Int) (q:List Int×NB×Unit):Prop:=q.1.Perm (Q6 (cols.getD c.toNat []))/\q.2.1.1=cols/\kJ n q.2.1.2
def I5 (n:Nat) (M:Dx) (k:Nat) (rest P:List Int) (rows lower:List (List D2)) (r c:Int) (a:List Int) (q:Int×List (List D2)×NR×NB×Unit):Prop:=0<=q.1/\q.1<=(a.length:Int)/\(∀s,1<=s->Ef s M->CI n k (sK s k) rest P rows lower r c (a.take q.1.toNat) q.2.1 q.2.2.1.1 q.2.2.2.1.1)/\kJ n q.2.2.1.2/\kJ n q.2.2.2.1.2
def C4u (x:Rat) (q:Bool×List Int×List Int×Unit):Prop:=((q.1,q.2.1),q.2.2.1)=rc x
def C8l (n:Nat) (P place:List Int) (rows lower:List (List D2)) (q:List Int×Int×List (List D2)×List (List D2)×NR×Unit):Prop:=q.1=place/\0<=q.2.1/\q.2.1<=(n:Int)/\q.2.2.1.length=n/\q.2.2.2.1.length=n/\q.2.2.2.2.1.1=lower/\(∀m∈q.2.2.2.2.1.2,n<=m\/∃a:Nat,(a:Int)<q.2.1/\m=ix P a)/\(∀a:Nat,(a:Int)<q.2.1->q.2.2.1.getD a []=lower.getD (ix P a) []++ [((a:Int),rc 1)])/\∀a:Nat,(a:Int)<q.2.1->TG (fun i=>if 0<=i/\i<(n:Int)then A5 (rows.getD (ix P a) []) ((List.idxOf i place:Nat):Int)else 0) (q.2.2.2.1.getD a [])
def EI.okFin {n k:Nat} {S:Nat->Nat} {A:Nat->Nat->Rat} {rest P Q place:List Int} {rows lower:List (List D2)} {cols:List R4} (h:EI n k S A rest P Q place rows lower cols) (b:n<=16384) {a:Nat} (d:a<k) (f:S a<=K1):ER K1 (rows.getD (ix P a) []):=by
 obtain⟨b,c,_⟩:=h.can _ (h.elim.plt a d);have:=Gr (n:=(n:Int)) (v:=rows.getD (ix P a) []) ⟨b.1,fun e he=>⟨(c e he).1,(c e he).2,(b.2 e he).1⟩⟩;exact⟨b.1,KT b fun j=>N7 (h.fin a d j) f,by omega⟩
def EI.cnt {n k:Nat} {S:Nat->Nat} {A:Nat->Nat->Rat} {rest P Q place:List Int} {rows lower:List (List D2)} {cols:List R4} (h:EI n k S A rest P Q place rows lower cols) (a:n<=16384) {i:Int} (b:0<=i) (c:i<(rest.length:Int)):(0<=rest.getD i.toNat 0/\rest.getD i.toNat 0<((cols.length:Nat):Int))/\(rest.getD i.toNat 0).toNat<n/\(cols.getD (rest.getD i.toNat 0).toNat []).length<=9223372036854775807/\rest.getD i.toNat 0∈rest:=by
 have a:rest.getD i.toNat 0∈rest:=C8 (by omega);obtain⟨b,c1⟩:=h.crange a;have:=h.colLen a;rw[h.lcols];exact⟨⟨b,c1⟩,by omega,by omega,a⟩
set_option maxHeartbeats 4000000
def GJ (x:A2 N3.args) (bw:awf N3.args x) (f6:N3.pre x):Jj x:=by
 obtain⟨⟨R,C,D⟩,_⟩:=x;have ey:A1i (R,C,D):=LB bw.1.2.2.2;change Int at R C;change List (List D2)at D;obtain⟨a0,cn,bv,ff,b6⟩:=f6;simp only[Jj];refine⟨trivial, ?_⟩;rintro⟨r,_⟩ _ M;simp only at M⊢;by_cases a5:F1 (R,C,D)
 case neg=>
  have M:r=false:=by rw[M];exact rH a5
  rw[M];exact⟨fun _=>⟨fun _=>⟨rfl,trivial⟩,fun h=>absurd h a5⟩,fun h=>(by cases h)⟩
 have M:r=true:=by rw[M];exact rG a5
 rw[M];obtain⟨g1,g2,g3,g4,ec,ed⟩:=id a5;simp only at g1 g2 g3 g4 ec ed;refine⟨fun h=>(by cases h),fun _=>⟨fun bq=> ?_,fun cc=> ?_⟩⟩
 . have bq:=qA bq;exact⟨fun h=>absurd a5 h,fun _=>⟨fun _=>⟨rfl,trivial⟩,fun h=>absurd h bq⟩⟩
 have cc:R=C:=qV (qB cc);subst cc;obtain⟨n,rfl⟩:∃n:Nat,R=(n:Int):=⟨R.toNat,by omega⟩;have b6:sK a0 (n-1)<=K1:=b6 a5 rfl;simp only[qJ];have ay:0<=(n:Int)/\(n:Int)<=(n:Int)/\8*(n:Int)<=281474976710656/\(n:Int)<=9223372036854775807:=⟨by omega,qI _,by omega,by omega⟩;have be:0<=(n:Int)/\(n:Int)<=(n:Int)/\24*(n:Int)<=281474976710656/\(n:Int)<=9223372036854775807:=⟨by omega,qI _,by omega,by omega⟩;refine⟨ay,ay,be,be,ay,be,be,ay,ay,LF n,fun p=>((n:Int)-p.1).toNat,LF.init, ?_⟩;rintro⟨t,⟨cols,dd⟩,left,_⟩ _ J;change Int at t;change List R4 at cols;simp only;have bp:=J.1;have dn:=J.2.1;have ez:cols.length=n:=J.2.2.1;have f0:left.length=n:=J.2.2.2.2.2.1;simp only at bp dn;refine⟨fun g=> ?_,fun g=> ?_⟩
 . have g:=qA g;rw[wv (by omega)];exact⟨⟨bp,by omega⟩,⟨bp,by omega⟩,J.next g,by omega⟩
 have g:=qB g;have cj:(n:Int)<=t:=by omega
 have gk:(D.length:Int)=(n:Int):=ec;refine⟨HD n D,fun p=>((n:Int)-p.1).toNat,HD.init J cj, ?_⟩;rintro⟨V,ea,⟨cols1,cz⟩,_⟩ _ aj;change Int at V;change List (List D2)at ea;change List R4 at cols1;simp only;have aq:=aj.1;have dw:=aj.2.1;have fc:ea.length=n:=aj.2.2.1;simp only at aq dw;refine⟨fun A=> ?_,fun A=> ?_⟩
 . have A:=qA A;have fg:V<(n:Int):=by omega
   have ci:=I0 (d:=([]:List D2)) aq A;rw[iE aq A]at ci⊢;have cq:=ed _ ci;have a4:=jX a5 bv ci;refine⟨⟨aq,A⟩, .inl ⟨a4.1,fun e W=>G3 (a4.2.1 e W) ff,a4.2.2⟩, ?_⟩;rintro⟨au,_⟩ _ bw;change List D2 at au;simp only at bw⊢;refine⟨⟨aq,by omega⟩,QU n (fun i=>A5 (D.getD i [])) V (D.getD V.toNat []),fun p=>(((D.getD V.toNat []).length:Int)-p.1).toNat,aj.row, ?_⟩;rintro⟨bx,⟨cols2,d0⟩,_⟩ _ b5;change Int at bx;change List R4 at cols2;simp only;have er:=b5.1;have et:=b5.2.1;simp only at er et;have dz:∀e∈D.getD V.toNat [],0<=e.1/\e.1<(n:Int):=fun e W=>⟨(cq.2 e W).1,(cq.2 e W).2.1⟩
   have f4:=a4.2.2;refine⟨fun H=> ?_,fun H=> ?_⟩
   . have H:=qA H;rw[wv (by omega)];obtain⟨u,y,a7⟩:=b5.rng dz H;exact⟨u,y,a7,b5.next dz H,by omega⟩
   . have H:=qB H;rw[wv (by omega)];exact⟨aj.next fg cq bw b5 (by omega),by omega⟩
 have A:=qB A;have dp:(n:Int)<=V:=by omega
 refine⟨B8a n ((n:Int),(n:Int),D),fun p=>((n:Int)-p.1).toNat,B8a.init a5 ey rfl rfl J cj aj dp, ?_⟩;clear J bp dn ez f0 aj aq dw fc g cj A dp;rintro⟨k,rest,P,Q,place,rows,⟨lower,ge⟩,⟨cols,dd⟩,_⟩ _ ⟨ct,fj,ah,b0,d1⟩;change Int at k;change List Int at rest P Q place;change List (List D2)at rows lower;change List R4 at cols;simp only at ct fj ah b0 d1⊢;have a:=ah a0 cn bv;refine⟨fun b7=> ?_,fun b7=> ?_⟩
 . have b7:=qA b7;have ch:k.toNat<n:=by omega
   have b3:sK a0 k.toNat<=K1:=qX (EU (by omega)) b6;have gr:=a.more ch;have b9:=a.lrows;have dj:=a.llow;have di:=a.lcols;have gs:rest.length<=n:=EP a.rnd fun x hx=>a.crange hx
   refine⟨C8j n ((n:Int),(n:Int),D) rest rows lower cols,⟨C0a n rest cols,⟨C4p n rest cols,fun q=>((rest.length:Int)-q.2.1).toNat,⟨qI _,by simp only;omega,qI _,by simp only;omega,rfl,d1⟩, ?_⟩, ?_⟩, ?_⟩
   . rintro⟨b,j,⟨az,cy⟩,_⟩ _ ⟨Z,a1,a9,cs,rfl,O⟩;change Int at b j;simp only at Z a1 a9 cs O⊢;refine⟨fun l=> ?_,fun l=>⟨Z,a1,rfl,O⟩⟩;have l:=qA l;obtain⟨c0,bc,c2,av⟩:=a.cnt (by omega) a9 l;obtain⟨ef,eg,eh,g8⟩:=a.cnt (by omega) Z a1;simp only[LX];refine⟨C0a n rest az,⟨⟨a9,l⟩,c0,O _ bc,c2,⟨Z,a1⟩,ef,O _ eg,eh,fun _=>⟨a9,l,rfl,O⟩,fun _=>⟨Z,a1,rfl,O⟩⟩, ?_⟩;rintro⟨ee,⟨cols2,d0⟩,_⟩ _ ⟨aw,ax,rfl,ae⟩;change Int at ee;simp only at aw ax ae⊢;obtain⟨bf,bg,bh,gi⟩:=a.cnt (by omega) aw ax;rw[wv (by omega)];exact⟨⟨aw,ax⟩,bf,ae _ bg,bh,fun _=>⟨aw,ax,rfl,ae⟩,fun _=>⟨⟨aw,ax,by simp only;omega,by simp only;omega,rfl,ae⟩,by omega⟩⟩
   . rintro⟨b,⟨az,cy⟩,_⟩ _ ⟨Z,a1,rfl,O⟩;change Int at b;simp only at Z a1 O⊢;obtain⟨c0,bc,c2,av⟩:=a.cnt (by omega) Z a1;simp only[LX];refine⟨⟨Z,a1⟩,c0,O _ bc,c2,fun ag=> ?_,fun ag=> ?_⟩
     . have ag:=qA ag;exact⟨rfl,rfl,b0,rfl,O,fun _=>a.stuck av (qR (g3l.1 ag)),fun h=>(by cases h)⟩
     have ag:=qB ag;rw[wv (by omega)];simp only[qJ,uW];rw[show(b+1).toNat=b.toNat+1 from by omega];have b8:b.toNat+(List.drop (b.toNat+1) rest).length<=n:=by rw[sL];omega
     generalize aa:rest.getD b.toNat 0=c at*;obtain⟨bd,c1⟩:=a.crange av;have ck:=a.pick (b:=b.toNat) (by omega);rw[aa]at ck;refine⟨⟨Z,a1⟩,C8k n rest b.toNat rows lower az,⟨⟨qI _,Z,by omega⟩,⟨by omega,by omega,qI _⟩,⟨⟨by omega,by omega⟩,rfl,rfl,rfl,b0,rfl,O⟩,⟨by omega,by omega⟩,rfl,rfl,rfl,b0,rfl,O⟩, ?_⟩;rintro⟨fr,e9,⟨gu,gf⟩,⟨cols2,d0⟩,_⟩ _ ⟨af,rfl,rfl,b1,rfl,an⟩;change List Int at fr;simp only at af b1 an⊢;obtain⟨gn,d8⟩:=a.col c av;have fd:∀B:Int×Bool,B∈cols2.getD c.toNat []->0<=B.1/\B.1<(e9.length:Int):=fun B a6=>by
      obtain⟨c7,g5,_⟩:=(d8 B.1).1 (nF a6);rw[b9];exact⟨c7,g5⟩
     have bq:0<(cols2.getD c.toNat []).length:=by
      rcases vH (cols2.getD c.toNat []).length with N|N
      . exact absurd (g3l.2 N) ag
      . exact N
     have ca:c<(cols2.length:Int):=by rw[di];exact c1
     refine⟨C8v n cols2 c,⟨⟨bd,ca⟩,an _ bc,C8u (cols2.getD c.toNat []),fun q=>q.2.1.2.length,⟨rfl,fun B a6=>a6, .inl ⟨by show(-1:Int)<0;decide,rfl⟩⟩, ?_⟩, ?_⟩
     . rintro⟨i,⟨es,left⟩,_⟩ _ ⟨rfl,ac,G⟩;change Int at i;change R4 at left;simp only at ac G⊢;refine⟨fun a2=>⟨fun h=>(by cases h),fun _=>⟨?_,LX _ _ _,an⟩⟩,fun l1 B l2 a2=>⟨fun _=> ?_,fun h=>(by cases h)⟩⟩
       . rcases G with⟨_,G⟩ |G
         . rw[a2]at G;simp only[xL]at G;omega
         . exact G
       have a6:=fd B (ac B (by rw[a2];simp));have fi:B.1∈Q6 (cols2.getD c.toNat []):=nF (ac B (by rw[a2];simp));have dx:∀z∈l1++l2,z∈cols2.getD c.toNat []:=fun z N=>ac z (by
        rw[a2];rcases qY.1 N with N|N
        . exact sJ _ N
        . exact tI _ (qL _ N))
       have bn:(l1++l2).length<left.length:=by rw[a2,rL,rL,rE];omega
       have ab:¬i<0->i∈Q6 (cols2.getD c.toNat [])/\0<=i/\i<(e9.length:Int):=fun h=>by
        rcases G with⟨H,_⟩ |H
        . exact absurd H h
        . obtain⟨c7,g5,_⟩:=(d8 i).1 H;rw[b9];exact⟨H,c7,g5⟩
       have f1:∀ {q:Bool},J9 (decide (i<0)) true q=false->¬i<0:=fun {q} h H=>by
        rw[rG H]at h;cases h
       refine⟨fun _=>a6,fun h=>(ab (qB h)).2,fun _=>a6,fun h=>(ab (f1 h)).2,fun _=>⟨⟨rfl,dx, .inr fi⟩,bn⟩,fun h=>⟨⟨rfl,dx, .inr (ab ?_).1⟩,bn⟩⟩;intro H;rw[rG H]at h;cases h
     . rintro⟨i,⟨g6,gb⟩,_⟩ _ ⟨ac,rfl,bb⟩;exact⟨rfl,rfl,b1,rfl,bb,fun h=>(by cases h),fun _=>⟨av,ac,af▸ck.1,af▸ck.2⟩⟩
   . rintro⟨r,c,e4,fq,o,⟨X,c5⟩,⟨az,cy⟩,_⟩ _ ⟨rfl,rfl,O,rfl,ae,e2,e3⟩;change Int at r c;change Bool at e4;change List Int at fq;simp only at O ae e2 e3⊢;cases e4 with
     |false=>exact⟨fun _=>⟨fun h=>absurd a5 h,fun _=>⟨fun h=>absurd rfl h,fun _=>⟨fun _=>⟨rfl,trivial⟩,fun h=>absurd h (e2 rfl)⟩⟩⟩,fun h=>(by cases h)⟩
     |true=>
     obtain⟨aa,M,fa,fb⟩:=e3 rfl;obtain⟨bd,c1⟩:=a.crange aa;obtain⟨fm,fo,fp,e8⟩:=a.row aa M;have ek:=a.lP;have gl:=a.lQ;have bu:=a.lpl;refine⟨fun h=>(by cases h),fun _=> ?_⟩;have fl:0<=k/\k<(P.length:Int):=⟨ct,by omega⟩;have e5:0<=k/\k<(Q.length:Int):=⟨ct,by omega⟩;have e6:0<=c/\c<(place.length:Int):=⟨bd,by omega⟩;refine⟨fun q=>q.1=P.set k.toNat r/\q.2.1=Q.set k.toNat c/\q.2.2.1=place.set c.toNat k,⟨fl,⟨e5,e6,rfl,rfl,rfl⟩,e5,e6,rfl,rfl,rfl⟩, ?_⟩;rintro⟨P',Q',e7,_⟩ _ ⟨bf,bg,bh⟩;simp only at bf bg bh⊢;have cm:ER K1 (o.getD r.toNat []):=a.okRow b3 (by omega) (by omega);have ba:∀e∈o.getD r.toNat [],0<=e.1/\e.1<(n:Int):=(a.can r.toNat (by omega)).2.1;have f8:=(a.can r.toNat (by omega)).2.2;have dt:Z4 o r.toNat c.toNat=A5 (o.getD r.toNat []) c:=by unfold Z4;rw[show((c.toNat:Nat):Int)=c from by omega]
     rw[dt]at e8;generalize cl:o.getD r.toNat []=w at*;have gq:=cm.2.2;refine⟨⟨fm,by rw[b9];exact fo⟩,IL n rest (inC az) r w,fun p=>((w.length:Int)-p.1).toNat,⟨qI _,qD _,di,ae,fun j l=>⟨a.crange l,lY ⟨(a.col j l).1,fun x=>yN⟩⟩⟩, ?_⟩;rintro⟨t,⟨cols1,cz⟩,_⟩ _ E;change Int at t;change List R4 at cols1;simp only;have fs:=E.1;have fu:=E.2.1;simp only at fs fu;refine⟨fun g=> ?_,fun g=> ?_⟩
     . have g:=qA g;rw[wv (by omega)];obtain⟨u,y,a7⟩:=E.rng ba g;exact⟨u,y,a7,E.next ba g,by omega⟩
     have g:=qB g;have ce:∀s,1<=s->Ef s ((n:Int),(n:Int),D)->CI n k.toNat (sK s k.toNat) rest P o X r c [] o X cols1:=fun s u y=>CI.init (ah s u y) aa M E.2.2.1 fun j l=>by
      have c7:=(E.2.2.2.2 j l).2;simp only at c7;rw[D4 (show(w.length:Int)<=t by omega)]at c7;rw[cl];exact c7
     have d2:kJ n cz:=E.2.2.2.1;have ex:cols1.length=n:=E.2.2.1;clear E;obtain⟨cg,bm⟩:=(ce a0 cn bv).col c aa;have df:∀x∈Q6 (cols1.getD c.toNat []),0<=x/\x<(n:Int):=fun x hx=>⟨((bm x).1 hx).2.1,((bm x).1 hx).2.2.1⟩
     have de:(Q6 (cols1.getD c.toNat [])).length<=n:=EP cg df;refine⟨cm, ?_⟩;rintro⟨v,_⟩ _ co;change D7 at v;simp only at co⊢;have cp:qs (sK a0 k.toNat) (A5 w c):=f8 c;refine⟨by rw[co];exact R6 (N7 cp b3) (by decide), ?_⟩;rintro⟨cr,gy,_⟩ _ ap;change D7 at cr;simp only at ap⊢;rw[co,E4]at ap;obtain⟨ap,_⟩:=ap.2 e8;have ca:c<(cols1.length:Int):=by rw[ex];exact c1
     refine⟨C8t n cols1 c,⟨⟨bd,ca⟩,d2 _ (by omega),C8s (cols1.getD c.toNat []),fun q=>q.2.1.2.length,⟨rfl,wS _⟩, ?_⟩, ?_⟩
     . rintro⟨c3,⟨es,left⟩,_⟩ _ ⟨rfl,G⟩;change List Int at c3;change R4 at left;simp only at G⊢;refine⟨fun a2=>⟨fun h=>(by cases h),fun _=>⟨?_,LX _ _ _,d2⟩⟩,fun l1 B l2 a2=>⟨fun _=> ?_,fun h=>(by cases h)⟩⟩
       . subst a2;rw[show Q6 []= []from rfl,vV]at G;exact G
       subst a2;have ds:(c3++ [B.1]++Q6 (l1++l2)).Perm (Q6 (cols1.getD c.toNat [])):=by
        refine List.Perm.trans ?_ G;rw[uE];refine g2n c3 ?_;unfold Q6;rw[uF,uF,sA,List.singleton_append];exact List.perm_middle.symm
       have em:=ds.length_eq;rw[rL,rL,rA]at em;have bn:(l1++l2).length<(l1++B::l2).length:=by rw[rL,rL,rE];omega
       exact⟨⟨by rw[rA];omega,by rw[rA];omega⟩,⟨rfl,ds⟩,bn⟩
     rintro⟨Y,⟨g7,gc⟩,_⟩ _ ⟨b2,rfl,d3⟩;change List Int at Y;simp only at b2 d3⊢;have f5:Y.Nodup:=b2.nodup_iff.2 cg;have dq:∀x,x∈Y↔x≠r/\0<=x/\x<(n:Int)/\(∀f,f<k.toNat->x.toNat≠ix P f)/\Z4 o x.toNat c.toNat≠0:=fun x=>by rw[b2.mem_iff];exact bm x
     have f4:Y.length<=n:=by
      rw[b2.length_eq];exact de
     refine⟨I5 n ((n:Int),(n:Int),D) k.toNat rest P o X r c Y,fun q=>((Y.length:Int)-q.1).toNat,⟨qI _,qD _,ce,O,d3⟩, ?_⟩;clear ce cg bm df de b2;rintro⟨V,cv,⟨cu,ei⟩,⟨c4,gd⟩,_⟩ _ ⟨bz,g0,bj,bi,c6⟩;change Int at V;simp only at bz g0 bj bi c6⊢;have ai:=bj a0 cn bv;refine⟨fun A=> ?_,fun A=> ?_⟩
     . have A:=qA A;have ew:Y.getD V.toNat 0∈Y:=C8 (by omega);have cf:Y.getD V.toNat 0∉Y.take V.toNat:=fun hh=>by
        obtain⟨f,T,ao⟩:=uB.1 hh;rw[qU]at T;rw[g1i,H6 _ _ (show V.toNat<Y.length by omega)]at ao;have:=(wN f5).1 ao;omega
       have dy:=Ji (d:=(0:Int)) bz A;rw[G5 bz A]at dy;obtain⟨ac,G,bb,e1,gt⟩:=(dq _).1 ew;generalize Y.getD V.toNat 0=i at*;have a8:i.toNat<n:=by omega
       have db:((i.toNat:Nat):Int)=i:=by omega
       have fe:cv.getD i.toNat []=o.getD i.toNat []:=ai.ru _ a8 (by rw[db];exact cf);have dm:cu.getD i.toNat []=X.getD i.toNat []:=by rw[ai.lo _ a8,qK (by rw[db];exact cf)]
       have b8:=a.lowLen a8;have gj:=a.two (i:=r.toNat) (j:=i.toNat) (by omega) a8 (by omega) fp e1;have a4:=a.okRow b3 (by omega) a8;have dv:=(a.can _ a8).2.2;have ab:0<=i/\i<(cv.length:Int):=⟨G,by rw[ai.lrows];exact bb⟩;have dc:0<=i/\i<(cu.length:Int):=⟨G,by rw[ai.llow];exact bb⟩;have eo:i.toNat∉ei:=bi _ a8;rw[fe,dm];have en:Z4 o i.toNat c.toNat=A5 (o.getD i.toNat []) c:=by unfold Z4;rw[show((c.toNat:Nat):Int)=c from by omega]
       have gm:4*sK a0 k.toNat+1<=K1:=qX (show sK a0 (k.toNat+1)<=sK a0 (n-1)from EU (by omega)) b6;have f9:qs (sK a0 k.toNat+sK a0 k.toNat) (A5 (o.getD i.toNat []) c/A5 w c):=jP (dv c) cp;have F:∀(ad:QQ×Unit),FD ad.1/\True->ad.1=rc (A5 (o.getD i.toNat []) c)->(E6 ad.1/\E6 cr)/\∀(ar:QQ×Unit),FD ar.1/\True->ar.1=rc (rv ad.1*rv cr)->C4u (A5 (o.getD i.toNat []) c/A5 w c) (ar.1.1.1,ar.1.1.2,ar.1.2,()):=fun ad _ h1=>by
        refine⟨⟨by rw[h1];exact R6 (N7 (dv c) b3) (by decide),by rw[ap];exact R6 (N7 (B4i cp) b3) (by decide)⟩,fun ar _ c7=> ?_⟩;rw[h1,ap,E4,E4, <-xD]at c7;exact c7
       refine⟨⟨bz,A⟩,C4u (A5 (o.getD i.toNat []) c/A5 w c),⟨ab,⟨a4,fun ad au h=>⟨F ad au h,F ad au h⟩⟩,a4,F⟩, ?_⟩;rintro⟨d5,d6,d7,_⟩ _ cd;change Bool at d5;change List Int at d6 d7;have cd:((d5,d6),d7)=rc (A5 (o.getD i.toNat []) c/A5 w c):=cd;simp only;rw[cd];refine⟨fun q=>q.1.1=cu.set i.toNat (X.getD i.toNat []++ [(k,rc (A5 (o.getD i.toNat []) c/A5 w c))])/\kJ n q.1.2, ?_, ?_⟩
       . have L1:((X.getD i.toNat []).length+ [(k,rc (A5 (o.getD i.toNat []) c/A5 w c))].length)*64<=140737488355328/\(X.getD i.toNat []).length+ [(k,rc (A5 (o.getD i.toNat []) c/A5 w c))].length<=9223372036854775807:=by
          have N:∀z:Nat,z<=n->(z+1)*64<=140737488355328/\z+1<=9223372036854775807:=fun z N=>⟨by omega,by omega⟩
          exact N _ (qX b8 (by omega))
         repeat' apply And.intro
         all_goals first
          |exact dc.1
          |exact dc.2
          |exact eo
          |exact L1.1
          |exact L1.2
          |exact rfl
          |exact bi
          |exact True.intro
       rintro⟨⟨gw,gh⟩,_⟩ _ ⟨dh,d4⟩;simp only at dh d4⊢;have du:qs K1 (A5 (o.getD i.toNat []) c/A5 w c):=N7 f9 (by omega);refine⟨ab,R6 du (by decide), ?_⟩;rintro⟨fk,_⟩ _ bs;change D7 at fk;simp only at bs⊢;rw[E4]at bs;refine⟨⟨a4,by rw[bs];exact BN (YS du),cm⟩, ?_⟩;rintro⟨nw,_⟩ _ a3;change List D2 at nw;simp only at a3⊢;have a3:TG (fun j=>A5 (o.getD i.toNat []) j-A5 (o.getD i.toNat []) c/A5 w c*A5 w j) nw:=⟨a3.1,fun j=>(a3.2 j).trans (by dsimp only;rw[bs,E4,Rat.neg_mul, <-tD])⟩;have bt:∀e∈nw,0<=e.1/\e.1<(n:Int):=fun e W=>qV fun hh=>by
        refine(a3.1.2 e W).1 ?_;rw[<-Q7 a3.1.1 W];refine(a3.2 e.1).trans ?_;dsimp only;rw[D6 (v:=o.getD i.toNat []) (i:=e.1) fun B a6 c7=>hh (by rw[<-c7];exact(a.can _ a8).2.1 B a6),D6 (v:=w) (i:=e.1) fun B a6 c7=>hh (by rw[<-c7];exact ba B a6),uK,tD,wR,rN]
       have gp:nw.length<=n:=by
        have:=Gr (n:=(n:Int)) (v:=nw) ⟨a3.1.1,fun e W=>⟨(bt e W).1,(bt e W).2,(a3.1.2 e W).1⟩⟩;omega
       refine⟨ab,IL n rest (inC c4) i w,fun p=>((w.length:Int)-p.1).toNat,⟨qI _,qD _,ai.lcols,c6,fun j l=>⟨a.crange l,lY ⟨(ai.col j l).1,fun x=>yN⟩⟩⟩, ?_⟩;rintro⟨bx,⟨cw,g9⟩,_⟩ _ E;change Int at bx;change List R4 at cw;simp only;have fw:=E.1;have fx:=E.2.1;simp only at fw fx;refine⟨fun g=> ?_,fun g=> ?_⟩
       . have g:=qA g;rw[wv (by omega)];obtain⟨u,y,a7⟩:=E.rng ba g;exact⟨u,y,a7,E.next ba g,by omega⟩
       have g:=qB g;have dk:∀j:Int,j∈rest->lX (inC c4) i w j (cw.getD j.toNat []):=fun j l=>by
        have c7:=(E.2.2.2.2 j l).2;simp only at c7;rwa[D4 (show(w.length:Int)<=bx by omega)]at c7
       rw[show(cv.set i.toNat nw).getD i.toNat []=nw from B6 (by rw[ai.lrows];exact a8)];refine⟨by rw[qM];exact ab,dN n rest (fun j x=>inC c4 j x/\¬(x=i/\∃e∈w,e.1=j)) i nw,fun p=>((nw.length:Int)-p.1).toNat,⟨qI _,qD _,E.2.2.1,E.2.2.2.1,fun j l=>⟨a.crange l,B0o ⟨(dk j l).1,(dk j l).2⟩⟩⟩, ?_⟩;rintro⟨eb,⟨cx,ga⟩,_⟩ _ I;change Int at eb;change List R4 at cx;simp only;have fy:=I.1;have fz:=I.2.1;simp only at fy fz;refine⟨fun g=> ?_,fun g=> ?_⟩
       . have g:=qA g;rw[wv (by omega)];obtain⟨u,y,a7⟩:=I.rng bt g;exact⟨u,y,a7,I.next bt g,by omega⟩
       have g:=qB g;rw[wv (by omega)];refine⟨⟨by simp only;omega,by simp only;omega,fun s u y=> ?_,d4,I.2.2.2.1⟩,by omega⟩;have f3:=CI.next (ah s u y) aa M (bj s u y) G bb ac e1 cf (q:=A5 (o.getD i.toNat []) c/A5 w c) (by rw[en,dt]) (nw:=nw) (by rw[cl];exact a3) (cols2:=cx) I.2.2.1 fun j l=>by
        have c7:=(I.2.2.2.2 j l).2;simp only at c7;rw[D4 (show(nw.length:Int)<=eb by omega)]at c7;rw[cl];exact c7
       simp only;rw[dy,dh, <-dm];rwa[show((k.toNat:Nat):Int)=k from by omega]at f3
     . have A:=qB A;rw[wv (by omega)];refine⟨⟨by simp only;omega,by simp only;omega,fun s u y=> ?_,bi,c6⟩,by omega⟩;have da:=bj s u y;rw[D4 (by omega)]at da;have ep:=CI.done (ah s u y) aa M da rfl dq fa fb;simp only;rw[show(k+1).toNat=k.toNat+1 from by omega,bf,bg,bh];rwa[show((k.toNat:Nat):Int)=k from by omega]at ep
 . have b7:=qB b7;have ch:k=(n:Int):=by omega
   subst ch;simp only[qJ]at ah a;have b9:=a.lrows;have dj:=a.llow;have ek:=a.lP;have f7:=a.places;refine⟨C8l n P place rows lower,fun q=>((n:Int)-q.2.1).toNat,⟨rfl,qI _,qD _,rI,rI,rfl,fun m J=> .inl (g4t fun h=>b0 m h J),fun f T=>by simp only at T;omega,fun f T=>by simp only at T;omega⟩, ?_⟩;rintro⟨e7,j,L,U,⟨X,c5⟩,_⟩ _ ⟨rfl,a9,cs,ak,am,rfl,cb,c8,c9⟩;change Int at j;change List (List D2)at L U;simp only at a9 cs ak am cb c8 c9⊢;refine⟨fun l=> ?_,fun l=> ?_⟩
   . have l:=qA l;have I:j.toNat<n:=by omega
     have ej:P.getD j.toNat 0=(ix P j.toNat:Int):=a.P0 _ I;have bo:=a.elim.plt _ I;have b8:=a.lowLen bo;have f2:ix P j.toNat∉c5:=fun J=>by
      rcases cb _ J with h| ⟨f,T,ao⟩
      . omega
      . have:=a.elim.pinj _ _ I (show f<n by omega) ao;omega
     have a4:=a.okFin (by omega) I (qX (EU (by omega)) b6);rw[ej];simp only[qJ];have u:0<=j/\j<(P.length:Int):=⟨a9,l⟩;have y:0<=(ix P j.toNat:Int)/\(ix P j.toNat:Int)<(X.length:Int):=⟨qD _,by rw[dj];exact sP.2 bo⟩;have a7:0<=j/\j<(L.length:Int):=⟨a9,by rw[ak];omega⟩;have N:∀z:Nat,z<=n->(z+1)*64<=140737488355328/\z+1<=9223372036854775807:=fun z N=>⟨by omega,by omega⟩
     refine⟨u,fun q=>q.1=L.set j.toNat (X.getD (ix P j.toNat) []++ [(j,rc 1)])/\q.2.1.1=X/\q.2.1.2=ix P j.toNat::c5, ?_, ?_⟩
     . repeat' first
        |exact f2
        |exact True.intro
        |exact u.1
        |exact u.2
        |exact y.1
        |exact y.2
        |exact a7.1
        |exact a7.2
        |exact rfl
        |exact(N _ (qX b8 (qZ _))).1
        |exact(N _ (qX b8 (qZ _))).2
        |apply And.intro
        | (rintro⟨r,_⟩ _ M
           have M:r=rc 1:=M.trans (HE 1);subst M)
     rintro⟨L4,⟨gv,gg⟩,_⟩ _ ⟨af,b1,an⟩;simp only at af b1 an⊢;refine⟨⟨y.1,by rw[b9];exact sP.2 bo⟩,⟨a4,by rw[a.lpl];omega⟩, ?_⟩;rintro⟨au,gz,_⟩ _ dr;change List D2 at au;simp only at dr⊢;have bu:=a.lpl;obtain⟨e0,_⟩:=dr (by rw[bu];exact f7.1) fun i eu=>by
      rw[bu];obtain⟨e,W,rfl⟩:=DY eu;exact(a.can _ bo).2.1 e W
     rw[bu]at e0;rw[wv (by omega)];refine⟨⟨a9,by rw[am];omega⟩,⟨rfl,by simp only;omega,by simp only;omega,by simp only;rw[af,qM];exact ak,by simp only;rw[qM];exact am,b1,fun m J=> ?_,fun f T=> ?_,fun f T=> ?_⟩,by omega⟩
     . simp only at J⊢;rw[an]at J;rcases qG.1 J with h|h
       . exact .inr ⟨j.toNat,by omega,h⟩
       . rcases cb m h with h| ⟨f,T,ao⟩
         . exact .inl h
         . exact .inr ⟨f,by omega,ao⟩
     . simp only at T⊢;rw[af];by_cases b4:f=j.toNat
       . subst b4;rw[B6 (by rw[ak];exact I),show((j.toNat:Nat):Int)=j from by omega]
       . rw[D9 b4];exact c8 f (by omega)
     . simp only at T⊢;by_cases b4:f=j.toNat
       . subst b4;rw[B6 (by rw[am];exact I)];exact e0
       . rw[D9 b4];exact c9 f (by omega)
   . have l:=qB l;have I:j=(n:Int):=by omega
     subst I;have bk:∀f,f<n->L.getD f []=X.getD (ix P f) []++ [((f:Int),rc 1)]:=fun f T=>c8 f (by omega)
     have bl:∀f,f<n->TG (fun i=>if 0<=i/\i<(n:Int)then A5 (rows.getD (ix P f) []) ((List.idxOf i e7:Nat):Int)else 0) (U.getD f []):=fun f T=>c9 f (by omega)
     have d9:=a.done (by omega) ak am bk bl;exact⟨fun h=>absurd a5 h,fun _=>⟨fun h=>absurd rfl h,fun _=>⟨fun h=>absurd a.elim.nonsing h,fun _=>⟨d9.1,trivial,(a.cans ak am bk bl).1,(a.cans ak am bk bl).2,fun s u y f b T=>(ah s u y).sizes (fun f=>qX u (C8w f)) bk bl T b,d9.2⟩⟩⟩⟩
def KB:An:= {}
abbrev C6d:=(List Int×List Int×MM×Int×Int×List (List EE))×List QQ×Unit
def Pu:A2 Af.args->Prop:=fun(x:C6d)=>let e:=(4:Int);let d:=(1:Int);let c:=(0:Int);let b:=(↑x.1.1.length:Int);let a:=(x.1.1.length:Int);let f:Prop:=((x.2.1.length:Int)≠a);(c<=a/\a<=(16384:Int)/\Ef K1 x.1.2.2.1/\Ef K1 x.1.2.2.2)/\Rq fun r=>(r.1=true↔Da x.1 a)->(iB ((!r.1)) ((¬Da x.1 b->d=d)/\(Da x.1 b->(x.2.1.length≠x.1.1.length->d=e)/\(x.2.1.length=x.1.1.length->d=c))) ((iB (decide f) ((¬Da x.1 b->e=d)/\(Da x.1 b->(x.2.1.length≠x.1.1.length->e=e)/\(x.2.1.length=x.1.1.length->e=c))) ((¬Da x.1 b->c=d)/\(Da x.1 b->(x.2.1.length≠x.1.1.length->c=e)/\(x.2.1.length=x.1.1.length->c=c))))))
def SN:An:= {loop:= [(12,⟨[1,2,7,8,9,30,31,55,56],[0],[(57,false,vI)],[],[(1, .row tQ 43)]⟩),(7,⟨[1,2,7,8,30],[0],[(31,false,vI)],[],[(1, .row tQ 43)]⟩),(24,⟨[2,7,8,13,15,16,80,81,95,96],[0,2],[(97,false,vI)],[],[(1, .row tQ 43)]⟩),(19,⟨[2,7,8,13,80],[0],[(81,false,vI)],[],[(1, .row tQ 43),(2, .row tQ 43)]⟩)],plan:= [(14,[5,7,10,12],[15],true,(pZ9 0 5 (.q 5 (.p 6 (.q 7 (.p 8 (.p 9 (.q 10 (.p 11 (.q 12 (.e 13 (.p 14 (.e 15 .done))))))))))))),(26,[5,7,10,12],[15],true,(pZ9 0 5 (.q 5 (.p 6 (.q 7 (.p 8 (.p 9 (.q 10 (.p 11 (.q 12 (.e 13 (.p 14 (.e 15 .done))))))))))))),(28,[5,9],[15],true,(pZ9 0 5 (.q 5 (pZ9 6 3 (.q 9 (.e 10 (pZ9 11 4 (.e 15 .done)))))))),(29,[2,5,9],[11],true,(.p 0 (.p 1 (.q 2 (.p 3 (.p 4 (.q 5 (pZ9 6 3 (.q 9 (.p 10 (.e 11 .done)))))))))))]}
abbrev C6x:=Int×List QQ×List QQ×Unit
abbrev A8p:=Int×List QQ×Unit
def Xa:A2 Ae.args->Prop:=fun(x:C6d)=>let M:=(1:Nat);let A:=(↑x.1.1.length:Int);let q:=(1:Int);let g:=(0:Int);let d:=(x.1.1.length:Int);let v:Prop:=(g<=d/\d<=d/\(↑(56:Nat):Int)*d<=(281474976710656:Int)/\d<=(9223372036854775807:Int));(List.length x.1.1<=16384/\Ef K1 x.1.2.2.1/\Ef K1 x.1.2.2.2)/\Bf fun r=>(¬Da x.1 d->r.1=q)/\(Da x.1 d->(List.length x.2.1≠List.length x.1.1->r.1=4)/\(List.length x.2.1=List.length x.1.1->r.1=g))->(iB (decide (r.1≠g)) ((¬Da x.1 A->Dc QQ= []/\r.1=q)/\(Da x.1 A->(x.2.1.length≠x.1.1.length->Dc QQ= []/\r.1=4)/\(x.2.1.length=x.1.1.length->r.1=g/\0=x.1.1.length/\(∀(e:QQ),e∈ []->e=rc (rv e))/\(∀(s T:Nat),M<=s->M<=T->Ef s x.1.2.2.1->Ef s x.1.2.2.2->MA T x.2.1->MA (hK s (gK s T x.1.1.length) x.1.1.length+s) [])/\∀(i:Nat),i<x.1.1.length->(C7 x.1.1.length fun(j:Nat)=>luM x.1 x.1.1.length i j*rv ([].getD (ix x.1.2.1 j) zr))=rv (x.2.1.getD (ix x.1.1 i) zr)))) (v/\∃(I:A8p->Prop),∃(b: _->Nat),I (g,List.replicate d.toNat dQ,())/\∀(p:A8p),let E:=p.1.toNat;let m:=(gx [] x.1.2.2.1.2.2 p.1);let B:=(↑m.length:Int);let L:=(i64.wrap (B-q));let a:=(↑(List.drop g.toNat (List.take L.toNat m)).length:Int);(Ty.int i64).wf p.1/\WfL p.2.1/\True->I p->(iB (decide (p.1<d)) ((g<=p.1/\p.1<d)/\(g<=gx g x.1.1 p.1/\gx g x.1.1 p.1<(x.2.1.length:Int))/\(g<=p.1/\p.1<(p.2.1.length:Int))/\(g<=p.1/\p.1<(x.1.2.2.1.2.2.length:Int))/\(g<=g/\g<=i64.wrap (B-q)/\i64.wrap (B-q)<=B)/\∃(I_1:A8p->Prop),∃(h: _->Nat),I_1 (g,List.set p.2.1 E (gx dQ x.2.1 (gx g x.1.1 p.1)),())/\∀(N:A8p),let K:=(List.getD N.2.1 E dQ);let F:=(i64.wrap (p.1+q),N.2.1,());let D:=(N.2.1.length:Int);let c:=(gx F2 (List.drop g.toNat (List.take L.toNat m)) N.1);let t:=(List.getD N.2.1 c.1.toNat dQ);(Ty.int i64).wf N.1/\WfL N.2.1/\True->I_1 N->(iB (decide (N.1<a)) ((g<=N.1/\N.1<a)/\(g<=p.1/\p.1<D)/\(g<=c.1/\c.1<D)/\(sz K1 K/\sz K1 c.2/\sz K1 t)/\I6 fun r=>let z:=(i64.wrap (N.1+q),List.set N.2.1 E r.1,());(rv t=(0:Rat)->r.1=List.getD N.2.1 E dQ)/\(rv t≠(0:Rat)->r.1=rc (rv K-rv c.2*rv t))->(g<=p.1/\p.1<D)/\I_1 z/\h z<h N) (I F/\b F<b p))) (v/\∃(I:C6x->Prop),∃(b: _->Nat),I (g,p.2.1,List.replicate d.toNat dQ,())/\∀(p:C6x),let a:=(i64.wrap (d-q)-p.1);let k:=(i64.wrap a);let l:=(gx [] x.1.2.2.2.2.2 k);let J:=(gx F2 l g);let y:=(↑l.length:Int);let o:=(↑(List.drop q.toNat (List.take y.toNat l)).length:Int);(Ty.int i64).wf p.1/\WfL p.2.1/\WfL p.2.2.1/\True->I p->(iB (decide (p.1<d)) ((g<=i64.wrap a/\i64.wrap a<(x.1.2.2.2.2.2.length:Int))/\(g<=q/\q<=y/\y<=y)/\∃(I_1:A8p->Prop),∃(h: _->Nat),I_1 (g,p.2.1,())/\∀(N:A8p),let G:=(N.2.1.length:Int);let w:=(List.getD N.2.1 k.toNat dQ);let d:Prop:=(g<=i64.wrap a/\i64.wrap a<G);let f:=(gx F2 (List.drop q.toNat (List.take y.toNat l)) N.1);let u:=(List.getD N.2.1 f.1.toNat dQ);(Ty.int i64).wf N.1/\WfL N.2.1/\True->I_1 N->(iB (decide (N.1<o)) ((g<=N.1/\N.1<o)/\d/\(g<=f.1/\f.1<G)/\(sz K1 w/\sz K1 f.2/\sz K1 u)/\I6 fun r=>let C:=(i64.wrap (N.1+q),List.set N.2.1 k.toNat r.1,());(rv u=(0:Rat)->r.1=List.getD N.2.1 k.toNat dQ)/\(rv u≠(0:Rat)->r.1=rc (rv w-rv f.2*rv u))->d/\I_1 C/\h C<h N) (d/\(g<=g/\g<y)/\(E6 w/\E6 J.2)/\∀(r:B9m),let H:=(List.set N.2.1 k.toNat r.1);let n:=(i64.wrap (p.1+q),List.set N.2.1 k.toNat r.1,List.set p.2.2.1 (gx g x.1.2.1 k).toNat (H.getD k.toNat dQ),());FD r.1/\True/\True->(rv J.2=(0:Rat)->r.2.1=false)/\(rv J.2≠(0:Rat)->r.1=rc (rv w/rv J.2)/\r.2.1=true)->d/\(g<=i64.wrap a/\i64.wrap a<(x.1.2.1.length:Int))/\(g<=i64.wrap a/\i64.wrap a<(↑H.length:Int))/\(g<=gx g x.1.2.1 k/\gx g x.1.2.1 k<(p.2.2.1.length:Int))/\I n/\b n<b p))) ((¬Da x.1 A->p.2.2.1= []/\g=q)/\(Da x.1 A->(x.2.1.length≠x.1.1.length->p.2.2.1= []/\g=(4:Int))/\(x.2.1.length=x.1.1.length->g=g/\List.length p.2.2.1=x.1.1.length/\(∀(e:QQ),e∈p.2.2.1->e=rc (rv e))/\(∀(s T:Nat),M<=s->M<=T->Ef s x.1.2.2.1->Ef s x.1.2.2.2->MA T x.2.1->MA (hK s (gK s T x.1.1.length) x.1.1.length+s) p.2.2.1)/\∀(i:Nat),i<x.1.1.length->(C7 x.1.1.length fun(j:Nat)=>luM x.1 x.1.1.length i j*rv (List.getD p.2.2.1 (ix x.1.2.1 j) zr))=rv (x.2.1.getD (ix x.1.1 i) zr)))))))))
def zok (k:Nat) (q:Rat) (x:D7):Prop:=sz k x/\Ia x/\rv x=q
def B5u {k:Nat} {q:Rat} (h:qs k q):zok k q (rc q):=⟨BN h,UC q,E4 q⟩
def pL {j k:Nat} {q:Rat} {x:D7} (h:zok j q x) (a:j<=k):zok k q x:=⟨G3 h.1 a,h.2⟩
def Jm {s T:Nat} :∀ {a b:Nat},a<=b->gK s T a<=gK s T b
 |a,0,h=>by have:a=0:=by omega
            subst this;exact qZ _
 |a,b+1,h=>by
  by_cases c:a=b+1
  . subst c;exact qZ _
  . have:=Jm (s:=s) (T:=T) (a:=a) (b:=b) (by omega);simp only[gK];omega
def Lq {s T:Nat} :∀ {a b:Nat},a<=b->hK s T a<=hK s T b
 |a,0,h=>by have:a=0:=by omega
            subst this;exact qZ _
 |a,b+1,h=>by
  by_cases c:a=b+1
  . subst c;exact qZ _
  . have:=Lq (s:=s) (T:=T) (a:=a) (b:=b) (by omega);simp only[hK];omega
def B6y {v:List D2} {i:Nat} (a:∀e∈v,0<=e.1/\e.1<(i:Int)) (h:Nat->Rat):Vb v (fun j=>h j.toNat)=C7 i fun j=>A5 v (j:Int)*h j:=by
 rw[A3w a];exact B8 fun j _=>by rw[qJ]
def pK {s j k:Nat} {a f b r:D7} {x y:Rat} (d:zok j x a) (v:Ia f) (w:sz s f) (B:1<=s) (u:zok k y b) (z:1<=j) (A:1<=k) (o:rv b=0->r=a) (t:rv b≠0->r=rc (rv a-rv f*rv b)):zok (j+(s+k)+1) (x-rv f*y) r:=by
 obtain⟨g,h,c⟩:=id d;obtain⟨i,l,n⟩:=id u;subst c n;by_cases c:rv b=0
 . rw[o c,c,uK,tD,wR,rN];exact pL d (by omega)
 . rw[t c];exact B5u (IZ (Hi h g z) (PT (Hi v w B) (Hi l i A)))
def FW (s T n i:Nat) (Lm:Nat->Nat->Rat) (b:Nat->Rat) (z:List D7):Prop:=z.length=n/\∀j,j<i->zok (gK s T j) (rv (z.getD j zr)) (z.getD j zr)/\rv (z.getD j zr)+C7 j (fun m=>Lm j m*rv (z.getD m zr))=b j
def FI (s T i:Nat) (c:Rat) (w:List D2) (b:List D7) (t:Nat) (z:List D7):Prop:=∃a,z=b.set i a/\Ia a/\rv a=c-Vb (w.take t) (fun j=>rv (b.getD j.toNat zr))/\∀m:Nat,(∀e∈w.take t,e.1<(m:Int))->sz (gK s T m) a
variable {s T n i:Nat} {c:Rat} {w:List D2} {z0 z:List D7} {Lm:Nat->Nat->Rat} {b:Nat->Rat}
def FI.init {x:D7} (a:zok T c x):FI s T i c w z0 0 (z0.set i x):=
 ⟨x,rfl,a.2.1,by rw[a.2.2];simp only[g0z,Vb];rw[tD,wR,rN],fun m _=>G3 a.1 (Jm (rK m))⟩
def FI.next (g:FW s T n i Lm b z0) (hT:1<=T) (hs:1<=s) (hi:i<n) (hasc:Hx w) (hw:∀e∈w,0<=e.1/\e.1<(i:Int)/\sz s e.2/\Ia e.2) {t:Int} (t0:0<=t) (t1:t<(w.length:Int)) (h:FI s T i c w z0 t.toNat z):
 (z.length=n/\sz (gK s T i) (z.getD i zr)/\sz (gK s T i) (z.getD (gx F2 w t).1.toNat zr))/\∀r,(rv (z.getD (gx F2 w t).1.toNat zr)=0->r=z.getD i zr)->(rv (z.getD (gx F2 w t).1.toNat zr)≠0->r=rc (rv (z.getD i zr)-rv (gx F2 w t).2*rv (z.getD (gx F2 w t).1.toNat zr)))->FI s T i c w z0 (t+1).toNat (z.set i r):=by
 obtain⟨u,rfl,B,E,G⟩:=h;have f:=I0 (d:=F2) t0 t1;obtain⟨k,l,v,A⟩:=hw _ f;have l:∀y∈w.take t.toNat,y.1<(gx F2 w t).1:=fun y hy=>by
  have f:(w.take (t+1).toNat).Pairwise (fun a b=>a.1<b.1):=g0v hasc;rw[show(t+1).toNat=t.toNat+1 from by omega,rP,H1 (d:=F2) t0 t1,tY]at f;exact f.2.2 y hy (gx F2 w t) (by simp)
 have F:=dA (d:=F2) t0 t1 (fun j=>rv (z0.getD j.toNat zr));have H:∀m:Nat,(∀e∈w.take (t+1).toNat,e.1<(m:Int))->(gx F2 w t).1<(m:Int):=fun m k=>k _ (by
  rw[show(t+1).toNat=t.toNat+1 from by omega,rP,H1 (d:=F2) t0 t1];simp)
 generalize gx F2 w t=e at*;have o:e.1.toNat≠i:=by omega
 have D:=g.1;rw[D9 o,B6 (by omega)];obtain⟨o,_⟩:=g.2 e.1.toNat (by omega);have f:=G e.1.toNat fun y hy=>by have:=l y hy;omega
 have l:∀m,1<=gK s T m:=fun m=>qX hT (Jm (rK m))
 refine⟨⟨by rw[qM];exact D,G3 f (Jm (by omega)),G3 o.1 (Jm (by omega))⟩,fun r G I=> ?_⟩;have g:=pK (x:=rv u) ⟨f,B,rfl⟩ A v hs o (l _) (l _) G I;refine⟨r,by rw[g4f],g.2.1, ?_,fun m k=> ?_⟩
 . rw[g.2.2,F,E];grind
 . refine G3 g.1 (qX ?_ (Jm (show e.1.toNat+1<=m by have:=H m k;omega)));simp only[gK];omega
def FI.done (k:FW s T n i Lm b z0) (G:i<n) (r:∀e∈w,0<=e.1/\e.1<(i:Int)) (x:∀j,j<i->A5 w (j:Int)=Lm i j) {t:Nat} (F:w.length<=t) (h:FI s T i (b i) w z0 t z):FW s T n (i+1) Lm b z:=by
 obtain⟨d,rfl,D,l,o⟩:=h;have E:=k.1;rw[qW F]at l o;have c:∀j,j<i->(z0.set i d).getD j zr=z0.getD j zr:=fun j A=>D9 (by omega)
 refine⟨by rw[qM];exact E,fun j A=> ?_⟩;by_cases B:j=i
 . subst B;rw[B6 (by omega)];refine⟨⟨o j fun e y=>(r e y).2,D,rfl⟩, ?_⟩;rw[l,B6y r (fun m=>rv (z0.getD m zr)),B8 (f:=fun m=>Lm j m*rv ((z0.set j d).getD m zr)) (g:=fun m=>A5 w (m:Int)*rv (z0.getD m zr)) fun m a=>by rw[c m a,x m a]];grind
 . rw[c j (by omega)];obtain⟨u,v⟩:=k.2 j (by omega);refine⟨u, ?_⟩;rw[<-v];congr 1;exact B8 fun m a=>by rw[c m (by omega)]
def BW (s Y n i:Nat) (U:Nat->Nat->Rat) (y:Nat->Rat) (z:List D7):Prop:=z.length=n/\(∀j,j<i->zok Y (y j) (z.getD j zr))/\∀j,i<=j->j<n->(∃q,z.getD j zr=rc q/\qs (hK s Y (n-1-j)+s) q)/\C7 n (fun m=>U j m*rv (z.getD m zr))=y j
def BI (s Y n i:Nat) (c:Rat) (w:List D2) (z0:List D7) (t:Nat) (z:List D7):Prop:=∃a,z=z0.set i a/\Ia a/\rv a=c-Vb (w.take t) (fun j=>rv (z0.getD j.toNat zr))/\∀m:Nat,i+1<=m->m<=n->(∀e∈w.take t,e.1<(m:Int))->∃k,1<=k/\sz k a/\k+hK s Y (n-m)<=hK s Y (n-1-i)+Y
variable {s Y n i:Nat} {c:Rat} {w:List D2} {z0 z:List D7} {U:Nat->Nat->Rat} {y:Nat->Rat}
def BI.init (g:BW s Y n (i+1) U y z0) (h:1<=Y) (c:i<n):BI s Y n i (y i) w z0 0 z0:=by
 obtain⟨c,d,f⟩:=g.2.1 i (rW _);refine⟨z0.getD i zr, ?_,d, ?_,fun m g k _=>⟨Y,h,c, ?_⟩⟩
 . refine g1n (by rw[qM]) fun j c d=> ?_
   rw[g4o];split
   . rename_i e;subst e;rw[H6 _ _ c]
   . rfl
 . rw[f];simp only[g0z,Vb];rw[tD,wR,rN]
 . have:=Lq (s:=s) (T:=Y) (a:=n-m) (b:=n-1-i) (by omega);omega
def BI.next (g:BW s Y n (i+1) U y z0) (hs:1<=s) (hY:1<=Y) (hi:i<n) (hasc:Hx w) (hw:∀e∈w,(i:Int)<e.1/\e.1<(n:Int)/\sz s e.2/\Ia e.2) {t:Int} (t0:0<=t) (t1:t<(w.length:Int)) (h:BI s Y n i c w z0 t.toNat z):
 (z.length=n/\sz (hK s Y n) (z.getD i zr)/\sz (hK s Y n+s) (z.getD (gx F2 w t).1.toNat zr))/\∀r,(rv (z.getD (gx F2 w t).1.toNat zr)=0->r=z.getD i zr)->(rv (z.getD (gx F2 w t).1.toNat zr)≠0->r=rc (rv (z.getD i zr)-rv (gx F2 w t).2*rv (z.getD (gx F2 w t).1.toNat zr)))->BI s Y n i c w z0 (t+1).toNat (z.set i r):=by
 obtain⟨v,rfl,D,H,J⟩:=h;have f:=I0 (d:=F2) t0 t1;obtain⟨l,o,A,B⟩:=hw _ f;have o:∀y∈w.take t.toNat,y.1<(gx F2 w t).1:=fun y hy=>by
  have f:(w.take (t+1).toNat).Pairwise (fun a b=>a.1<b.1):=g0v hasc;rw[show(t+1).toNat=t.toNat+1 from by omega,rP,H1 (d:=F2) t0 t1,tY]at f;exact f.2.2 y hy (gx F2 w t) (by simp)
 have I:=dA (d:=F2) t0 t1 (fun j=>rv (z0.getD j.toNat zr));have M:∀m:Nat,(∀e∈w.take (t+1).toNat,e.1<(m:Int))->(gx F2 w t).1<(m:Int):=fun m l=>l _ (by
  rw[show(t+1).toNat=t.toNat+1 from by omega,rP,H1 (d:=F2) t0 t1];simp)
 generalize gx F2 w t=e at*;have u:e.1.toNat≠i:=by omega
 have E:=g.1;rw[D9 u,B6 (by omega)];obtain⟨⟨q,F,G⟩,_⟩:=g.2.2 e.1.toNat (by omega) (by omega);obtain⟨k,N,u,g⟩:=J e.1.toNat (by omega) (by omega) fun y hy=>by have:=o y hy;omega
 have o:zok (hK s Y (n-1-e.1.toNat)+s) (rv (z0.getD e.1.toNat zr)) (z0.getD e.1.toNat zr):=by
  rw[F,E4];exact B5u G
 have g:=Lq (s:=s) (T:=Y) (a:=n-1-i) (b:=n) (by omega);have g:=Lq (s:=s) (T:=Y) (a:=n-1-e.1.toNat) (b:=n) (by omega);have g:=Lq (s:=s) (T:=Y) (a:=0) (b:=n-e.1.toNat) (by omega);have g:hK s Y 0=Y:=rfl;refine⟨⟨by rw[qM];exact E,G3 u (by omega),G3 o.1 (by omega)⟩,fun r F G=> ?_⟩;have g:=pK (x:=rv v) ⟨u,D,rfl⟩ B A hs o N (by omega) F G;refine⟨r,by rw[g4f],g.2.1, ?_,fun m l u o=>⟨_,by omega,g.1, ?_⟩⟩
 . rw[g.2.2,I,H];grind
 . have f:=M m o;have f:=Lq (s:=s) (T:=Y) (a:=n-m) (b:=n-1-e.1.toNat) (by omega);have f:hK s Y (n-e.1.toNat)=2*hK s Y (n-1-e.1.toNat)+2*s+1:=by
    rw[show n-e.1.toNat=(n-1-e.1.toNat)+1 from by omega];rfl
   omega
def BI.done (o:BW s Y n (i+1) U y z0) (a2:1<=s) (a0:1<=Y) (a1:i<n) (g:∀e∈w,(i:Int)<e.1/\e.1<(n:Int)) (M:∀j,i<j->A5 w (j:Int)=U i j) (u:∀k m,m<k->k<n->U k m=0) (R:U i i≠0) (V:qs s (U i i)) {t:Nat} (W:w.length<=t) (h:BI s Y n i (y i) w z0 t z):
 sz (hK s Y n) (z.getD i zr)/\qs (hK s Y (n-1-i)+s) (rv (z.getD i zr)/U i i)/\BW s Y n i U y (z.set i (rc (rv (z.getD i zr)/U i i))):=by
 obtain⟨f,rfl,P,A,D⟩:=h;have Q:=o.1;rw[qW W]at A D;rw[B6 (by omega),g4f];obtain⟨k,X,E,Z⟩:=D n (by omega) (qZ _) fun e c=>(g e c).2
 rw[xQ]at Z;have a3:hK s Y 0=Y:=rfl;have a4:=Lq (s:=s) (T:=Y) (a:=n-1-i) (b:=n) (by omega);have x:qs (hK s Y (n-1-i)+s) (rv f/U i i):=N7 (jP (Hi P E X) V) (by omega);refine⟨G3 E (by omega),x,by rw[qM];exact Q,fun j O=> ?_,fun j O l=> ?_⟩
 . rw[D9 (by omega)];exact o.2.1 j (by omega)
 . have B:C7 n (fun m=>U j m*rv ((z0.set i (rc (rv f/U i i))).getD m zr))=C7 n (fun m=>if m=i then U j i*(rv f/U i i)else U j m*rv (z0.getD m zr)):=B8 fun m _=>by
    by_cases d:m=i
    . subst d;rw[qQ rfl,B6 (by omega),E4]
    . rw[qK d,D9 d]
   by_cases v:j=i
   . subst v;refine⟨⟨_,B6 (by omega),x⟩, ?_⟩;rw[B];have I:Vb w (fun m=>rv (z0.getD m.toNat zr))=C7 n (fun m=>if m=j then 0 else U j m*rv (z0.getD m zr)):=by
      rw[A3w (n:=n) fun e c=>⟨by have:=(g e c).1;omega,(g e c).2⟩];refine B8 fun m d=> ?_
      rw[qJ];rcases Nat.lt_trichotomy m j with hmj|hmj|hmj
      . rw[qK (by omega),D6 fun e c N=>by have:=(g e c).1;omega,u j m hmj l]
      . rw[qQ hmj,D6 fun e c N=>by have:=(g e c).1;omega,tK]
      . rw[qK (by omega),M m hmj]
     have J:C7 n (fun m=>if m=j then U j j*(rv f/U j j)else U j m*rv (z0.getD m zr))=C7 n (fun m=>(if m=j then U j j*(rv f/U j j)else 0)+if m=j then 0 else U j m*rv (z0.getD m zr)):=B8 fun m _=>by
      split
      . rw[rN]
      . rw[tH]
     rw[J,Ev, <-I,L6 l fun m _ d=>qK d,qQ rfl,A,xD,g4k,vL,g1b _ R,g3g];grind
   . obtain⟨⟨q,F,G⟩,H⟩:=o.2.2 j (by omega) l;refine⟨⟨q,by rw[D9 v];exact F,G⟩, ?_⟩;rw[B, <-H];refine B8 fun m d=> ?_
     by_cases r:m=i
     . rw[qQ r,r,u j i (by omega) l,tK,tK]
     . rw[qK r]
def C3e {T n:Nat} {L U:Nat->Nat->Rat} {b:Nat->Rat} {v:Nat->Rat} {y:Nat->Rat} (d:∀j,j<n->y j+C7 j (fun m=>L j m*y m)=b j) (f:∀j,j<n->C7 n (fun m=>U j m*v m)=y j) (h:∀i,i<n->L i i=1) (l:∀i j,i<j->j<n->L i j=0) {i:Nat} (a:i<n):
 C7 n (fun j=>C7 n (fun k=>L i k*U k j)*v j)=b i:=by
 have c:C7 n (fun j=>C7 n (fun k=>L i k*U k j)*v j)=C7 n fun k=>L i k*y k:=by
  rw[B8 (g:=fun j=>C7 n fun k=>L i k*(U k j*v j)) fun j _=>by rw[<-PY];exact B8 fun k _=>vL _ _ _,Mf];exact B8 fun k o=>by rw[Ni,f k o]
 rw[c, <-d i a];have c:∀t,i+1+t<=n->C7 (i+1+t) (fun k=>L i k*y k)=y i+C7 i (fun m=>L i m*y m):=by
  intro t
  induction t with
  |zero=>intro _;rw[tC,C7,h i a,xR,g4i]
  |succ t a=>intro d;rw[<-uN,C7,a (by omega),l i (i+1+t) (by omega) (by omega),tK,rN]
 have:=c (n-(i+1)) (by omega);rwa[show i+1+(n-(i+1))=n from by omega]at this
end Go.Proofs.YtiflhbllbgajeaaGreat
