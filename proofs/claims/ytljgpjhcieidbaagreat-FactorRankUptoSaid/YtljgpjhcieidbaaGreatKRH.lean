/- Part. -/
import Derived.Test.YtljgpjhcieidbaaGreatKRG
set_option linter.all false
namespace Go.Proofs.YtljgpjhcieidbaaGreat
open Go.Proofs.Tryz
open Go.Vc Go.Gw
open Go.IntKind (i64 u64 u32)
def fI:An:= {}
def fJ:An:= {}
def FZ:An:= {plan:= [(1,[3,7],[],true,(pZ9 0 3 (.q 3 (pZ9 4 3 (.q 7 (.p 8 (.p 9 .done))))))),(4,[3,7,10],[],true,(pZ9 0 3 (.q 3 (pZ9 4 3 (.q 7 (.p 8 (.p 9 (.q 10 (.p 11 (.e 12 (.p 13 .done)))))))))))]}
def JQ:An:= {}
def AD:An:= {join:= [(12,⟨[0,1,2,6,7,8,9,10,11],[1,2,3],[],[(0,81,[.val (.sl (.int .i64)), .val (.int .i64)]),(4,31,[.val .bool, .val (.sl (.int .u32)), .val (.sl (.int .u32))])],[]⟩)],loop:= [(7,⟨[0,1,2,6,7,8],[1,2],[(9,false,[.own tQ 31]),(10,false,vI)],[(0,81,[.val (.sl (.int .i64)), .val (.int .i64)])],[]⟩),(3,⟨[0,1,2,6],[1],[(7,false,[.own (.sl tQ) 56]),(8,false,vI)],[(0,81,[.val (.sl (.int .i64)), .val (.int .i64)])],[]⟩)]}
def MZ:A5 Kc.args->Prop:=fun(x:Db)=>let b:=(u64.wrap x.2.1);let a:=(u64.wrap x.1);u64.wrap x.2.1≠0/\(0<x.2.1->(0:Int)<=i64.wrap (a.tmod b)/\i64.wrap (a.tmod b)<x.2.1/\i64.wrap (a.tmod b)=a.tmod x.2.1)
def lI:A5 Kd.args->Prop:=fun(x:AW)=>(x.1,(0:Int))=(x.1,(0:Int))
def Ml:A5 W9.args->Prop:=fun(x:(List Int×Int)×Int×Unit)=>let e:=(1:Int);let d:=(↑x.1.1.length:Int);let c:=(x.1.1.length:Int);let b:=(0:Int);let a:=(i64.wrap (x.1.2+e)-e);(iB (decide (c<=x.1.2)) ((b<=b/\b<x.2.1)/\x.1.1=x.1.1/\b<=x.1.2/\x.1.2<=d) ((b<=i64.wrap a/\i64.wrap a<c)/\b<x.2.1/\Ed fun r=>(b<x.2.1->b<=r.1/\r.1<x.2.1/\r.1=(u64.wrap (gx b x.1.1 (i64.wrap a))).tmod x.2.1)->(b<=r.1/\r.1<x.2.1)/\x.1.1=x.1.1/\b<=i64.wrap (x.1.2+e)/\i64.wrap (x.1.2+e)<=d))
abbrev eH:=(List Int×Int)×Unit
def Qs:A5 Ag.args->Prop:=fun(x:eH)=>let b:=(x.1.1.length:Int);let a:=(0:Int);(a<(13:Int)/\a<=x.1.2/\x.1.2<=b)/\∀(r:D9) (o:eH),let c:=(o.1.1.length:Int);R2 r.1/\True->((Ty.int i64).sl.pair (Ty.int i64)).wf o.1/\True->a<=r.1/\r.1<13->o.1.1=x.1.1/\a<=o.1.2/\o.1.2<=b->(a<(4:Int)/\a<=o.1.2/\o.1.2<=c)/\∀(e:D9) (d:eH),R2 e.1/\True->((Ty.int i64).sl.pair (Ty.int i64)).wf d.1/\True->a<=e.1/\e.1<4->d.1.1=o.1.1/\a<=d.1.2/\d.1.2<=c->True/\I5 fun f=>f.1=rc (Rat.divInt (i64.wrap (r.1-6)) (i64.wrap (1+e.1)))->cK f.1/\d.1.1=x.1.1/\a<=d.1.2/\d.1.2<=(↑x.1.1.length:Int)
abbrev C0r:=List (List QQ)×Int×List Int×Int×Unit
abbrev C0x:=List Int×Int×Bool×List Int×List Int×Unit
abbrev C1h:=List QQ×Int×List Int×Int×Unit
def Ij:A5 S3.args->Prop:=fun(x:(List Int×Int)×Int×Int×Unit)=>let g:=(140737488355328:Nat);let c:=(0:Int);∃(I:C0r->Prop),∃(h: _->Nat),I ([],c,x.1.1,x.1.2,())/\∀(p:C0r),tQ.sl.sl.wf p.1/\(Ty.int i64).wf p.2.1/\(Ty.int i64).sl.wf p.2.2.1/\(Ty.int i64).wf p.2.2.2.1/\True->I p->(iB (decide (p.2.1<x.2.1)) (∃(I_1:C1h->Prop),∃(i: _->Nat),I_1 ([],c,p.2.2.1,p.2.2.2.1,())/\∀(k:C1h),let a:Prop:=(k.2.1<x.2.2.1);let e:=(k.2.2.1.length:Int);let b:=(p.1++ [k.1],i64.wrap (p.2.1+1),k.2.2.1,k.2.2.2.1,());tQ.sl.wf k.1/\(Ty.int i64).wf k.2.1/\(Ty.int i64).sl.wf k.2.2.1/\(Ty.int i64).wf k.2.2.2.1/\True->I_1 k->(iB (decide a) (True/\I5 fun r=>r.1=rc (0:Rat)->∃(J:C0x->Prop),((c<(3:Int)/\c<=k.2.2.2.1/\k.2.2.2.1<=e)/\∀(n:D9) (o:eH),let f:=(o.1.1.length:Int);R2 n.1/\True->((Ty.int i64).sl.pair (Ty.int i64)).wf o.1/\True->c<=n.1/\n.1<3->o.1.1=k.2.2.1/\c<=o.1.2/\o.1.2<=e->(iB (decide (c<n.1)) ((c<=o.1.2/\o.1.2<=f)/\∀(r:H5) (m:eH),FP r.1/\True->((Ty.int i64).sl.pair (Ty.int i64)).wf m.1/\True->cK r.1->m.1.1=o.1.1/\c<=m.1.2/\m.1.2<=f->J (m.1.1,m.1.2,r.1.1.1,r.1.1.2,r.1.2,())) (J (o.1.1,o.1.2,r.1.1.1,r.1.1.2,r.1.2,()))))/\∀(p:C0x),let a:=((p.2.2.1,p.2.2.2.1),p.2.2.2.2.1);let d:=(k.1++ [a],i64.wrap (k.2.1+1),p.1,p.2.1,());(Ty.int i64).sl.wf p.1/\(Ty.int i64).wf p.2.1/\Ty.bool.wf p.2.2.1/\(Ty.int u32).sl.wf p.2.2.2.1/\(Ty.int u32).sl.wf p.2.2.2.2.1/\True->J p->((k.1.length+ [a].length)*(56:Nat)<=g/\k.1.length+ [a].length<=9223372036854775807)/\I_1 d/\i d<i k) (((p.1.length+ [k.1].length)*(24:Nat)<=g/\p.1.length+ [k.1].length<=9223372036854775807)/\I b/\h b<h p))) (((∀(l:List QQ),l∈p.1->LQ K1 l/\(↑l.length:Int)=x.2.2.1)/\c<=x.2.2.1/\x.2.2.1<=16384/\p.1.length<=(16384:Nat))/\rT7 fun r=>cW p.1.length x.2.2.1.toNat (fun(i j:Nat)=>rv ((p.1.getD i []).getD j zr)) r.1->B6q x.2.1.toNat x.2.2.1.toNat r.1/\p.2.2.1=x.1.1/\c<=p.2.2.2.1/\p.2.2.2.1<=(↑x.1.1.length:Int)))
def VD (x:A5 Kd.args) (_:awf Kd.args x) (_:Kd.pre x):lI x:=rfl
def Xu (x:A5 W9.args) (f:awf W9.args x) (d:W9.pre x):Ml x:=by
 obtain⟨⟨l,i⟩,n,_⟩:=x;have k:l.length<=9223372036854775807:=f.1.1.1;change Int at i n;change List Int at l;obtain⟨b,g,j⟩:0<n/\0<=i/\i<=(l.length:Int):=d;simp only[Ml,iB,Ed];refine⟨fun h=>⟨⟨by omega,b⟩,by trivial,g,j⟩,fun h=> ?_⟩;have h:=qB h;rw[wv (a:=i+1) (by omega),wv (a:=i+1-1) (by omega)];refine⟨⟨by omega,by omega⟩,b, ?_⟩;rintro⟨r,_⟩ _ c;exact⟨⟨(c b).1,(c b).2.1⟩,by trivial,by omega,by omega⟩
def VC (x:A5 Kc.args) (j:awf Kc.args x) (i:Kc.pre x):MZ x:=by
 obtain⟨a,b,_⟩:=x;change Int at a b;have h:0<b:=i;have c:KM .i64 b:=j.2.1;unfold KM at c;rw[show i64.min= -9223372036854775808 from by decide,show i64.max=9223372036854775807 from by decide]at c;simp only[MZ];have e:u64.wrap b=b:=by simp[IntKind.wrap,IntKind.bits,IntKind.signed];omega
 have d:0<=u64.wrap a:=by simp[IntKind.wrap,IntKind.bits,IntKind.signed];omega
 rw[e];have f:0<=(u64.wrap a).tmod b:=zE _ d;have g:(u64.wrap a).tmod b<b:=Int.tmod_lt_of_pos _ h;rw[wv (by omega)];exact⟨by omega,fun _=>⟨f,g,rfl⟩⟩
def iS {a b:Int} (d:a.natAbs<4294967296) (c:0<b) (f:b.natAbs<4294967296):cK (rc (Rat.divInt a b)):=by
 refine⟨_, ?_,rfl⟩;rw[RH c];exact HS (by omega) (Ea (by simpa using d)) (Ea (by simpa using f))
def BA (x:A5 Ag.args) (v:awf Ag.args x) (k:Ag.pre x):Qs x:=by
 obtain⟨⟨l,i⟩,_⟩:=x;change Int at i;change List Int at l;obtain⟨t,u⟩:0<=i/\i<=(l.length:Int):=k;simp only[Qs,I5];refine⟨⟨by omega,t,u⟩, ?_⟩;rintro⟨f,_⟩ ⟨⟨r,n⟩,_⟩ _ _ h a;change Int at n f;change List Int at r;simp only at h a⊢;obtain⟨rfl,b,c⟩:=a;refine⟨⟨by omega,b,c⟩, ?_⟩;rintro⟨g,_⟩ ⟨⟨s,o⟩,_⟩ _ _ j a;change Int at o g;change List Int at s;simp only at j a⊢;obtain⟨rfl,b,c⟩:=a;refine⟨trivial, ?_⟩;rintro⟨q,_⟩ _ d;simp only at d⊢;rw[wv (by omega),wv (by omega)]at d;exact⟨by rw[d];exact iS (by omega) (by omega) (by omega),by trivial,b,c⟩
def B2k {x:C7} (h:cK x):qs 1 (rv x):=by
 obtain⟨q,a,rfl⟩:=h;rw[L9];exact a
def B2l {x:C7} (h:cK x) {k:Nat} (a:1<=k):sz k x:=by
 obtain⟨q,b,rfl⟩:=h;exact⟨qX b.1 a,qX b.2 a⟩
def Td (x:A5 S3.args) (aa:awf S3.args x) (Y:S3.pre x):Ij x:=by
 obtain⟨⟨l,t⟩,R,C,_⟩:=x;change Int at t R C;change List Int at l;obtain⟨a7,ab,B,c1,a5,a6⟩:0<=R/\R<=20/\0<=C/\C<=20/\0<=t/\t<=(l.length:Int):=Y;simp only[Ij,iB,I5,rT7];refine⟨fun p=>0<=p.2.1/\p.2.1<=R/\(p.1.length:Int)=p.2.1/\(∀v∈p.1,(v.length:Int)=C/\∀e∈v,cK e)/\p.2.2.1=l/\0<=p.2.2.2.1/\p.2.2.2.1<=(l.length:Int),fun p=>(R-p.2.1).toNat,⟨qI _,a7,rfl,fun e a=>(by cases a),rfl,a5,a6⟩, ?_⟩;rintro⟨o,a3,w,Z,_⟩ _ ⟨U,V,W,f,G,n,r⟩;change Int at a3 Z;change List Int at w;change List (List C7)at o;simp only at U V W f G n r⊢;subst G;refine⟨fun h=> ?_,fun h=> ?_⟩
 . have h:=qA h;refine⟨fun p=>0<=p.2.1/\p.2.1<=C/\(p.1.length:Int)=p.2.1/\(∀e∈p.1,cK e)/\p.2.2.1=w/\0<=p.2.2.2.1/\p.2.2.2.1<=(w.length:Int),fun p=>(C-p.2.1).toNat,⟨qI _,B,rfl,fun e a=>(by cases a),rfl,n,r⟩, ?_⟩;rintro⟨a8,a2,y,a0,_⟩ _ ⟨P,Q,T,i,F,j,k⟩;change Int at a2 a0;change List Int at y;change List C7 at a8;simp only at P Q T i F j k⊢;subst F;refine⟨fun h=> ?_,fun h=> ?_⟩
   . have h:=qA h;refine⟨trivial, ?_⟩;rintro⟨ac,_⟩ _ M;simp only at M⊢;refine⟨fun p=>p.1=y/\0<=p.2.1/\p.2.1<=(y.length:Int)/\cK ((p.2.2.1,p.2.2.2.1),p.2.2.2.2.1),⟨⟨by omega,j,k⟩, ?_⟩, ?_⟩
     . rintro⟨b,_⟩ ⟨⟨z,u⟩,_⟩ _ _ s g;change Int at u b;change List Int at z;simp only at s g⊢;obtain⟨rfl,c,d⟩:=g;refine⟨fun _=>⟨⟨c,d⟩, ?_⟩,fun _=> ?_⟩
       . rintro⟨q,_⟩ ⟨⟨a4,a1⟩,_⟩ _ _ I g;change Int at a1;change List Int at a4;simp only at I g⊢;obtain⟨rfl,N,O⟩:=g;exact⟨by trivial,N,O,I⟩
       . exact⟨by trivial,c,d,⟨0,N4 (by decide),M⟩⟩
     . rintro⟨z,u,A,m,a9,_⟩ _ ⟨c,d,D,E⟩;change Int at u;change List Int at z;simp only at c d D E⊢;subst c;rw[wv (by omega)];refine⟨⟨by rw[rB];omega,by rw[rB];omega⟩,⟨by omega,by omega,by rw[rQ,rB];omega,fun e a=> ?_,by trivial,d,D⟩,by omega⟩;rcases qZ.1 a with a|a
       . exact i e a
       . rw[qW.1 a];exact E
   . have h:=qB h;rw[wv (by omega)];refine⟨⟨by rw[rB];omega,by rw[rB];omega⟩,⟨by omega,by omega,by rw[rQ,rB];omega,fun e a=> ?_,by trivial,j,k⟩,by omega⟩;rcases qZ.1 a with a|a
     . exact f e a
     . rw[qW.1 a];exact⟨by omega,i⟩
 . have h:=qB h;refine⟨⟨fun v J=>⟨fun e a=>B2l ((f v J).2 e a) (by decide),(f v J).1⟩,B,by omega,by omega⟩, ?_⟩;rintro⟨m,_⟩ _ H;simp only at H⊢;refine⟨⟨_,fun b A=> ?_,by rw[show R.toNat=o.length from by omega];exact H⟩,by trivial,n,r⟩;by_cases s:b<o.length
   . by_cases X:A<(o.getD b []).length
     . exact B2k ((f _ (E8 s)).2 _ (E8 X))
     . rw[qE (l:=o.getD b []),rT (by omega)];exact N4 (by decide)
   . rw[qE (l:=o),rT (by omega)];exact N4 (by decide)
def Ck:An:= {}
def Cy:An:= {loop:= [(4,⟨[0,1,2,3,8],[],[(9,false,vI)],[],[(0, .row tE 70)]⟩),(1,⟨[0,1,2,3],[],[(8,false,vI)],[],[(0, .row tE 70)]⟩)],plan:= [(4,[8,13],[],false,(pZ9 0 8 (.q 8 (pZ9 9 4 (.q 13 (.e 14 (.p 15 (.p 16 .done)))))))),(6,[9,13],[15,17],true,(pZ9 0 9 (.q 9 (pZ9 10 3 (.q 13 (.p 14 (.e 15 (.p 16 (.e 17 .done)))))))))]}
def He:An:= {join:= [(16,⟨[0,1,2,6],[],[],[],[(0, .row tE 70)]⟩)],loop:= [(2,⟨[0,1,2,6],[],[(7,false,vI),(8,false,vI)],[],[(0, .row tE 70)]⟩),(9,⟨[0,1,2,6],[],[(7,false,vI),(8,false,vI)],[],[(0, .row tE 70)]⟩),(7,⟨[0,1,2],[],[(6,false,vI)],[],[(0, .row tE 70)]⟩)]}
def GJ:An:= {}
def GI:An:= {join:= [(14,⟨[3,18,19,20],[],[(4,false,vI)],[],[(0, .row tE 70)]⟩)],loop:= [(8,⟨[3,18,19],[],[(4,false,vI),(20,false,vI)],[],[(0, .row tE 70)]⟩)],plan:= [(10,[8,10],[],true,(pZ9 0 8 (.q 8 (.p 9 (.q 10 (.p 11 (.p 12 .done))))))),(11,[8,10],[14],true,(pZ9 0 8 (.q 8 (.p 9 (.q 10 (.e 11 (.p 12 (.p 13 (.e 14 .done)))))))))]}
def Q4:A5 F2.args->Prop:=fun(x:List EE×((EE×EE×Unit->Prop)×(EE×EE×Unit->Int))×Unit)=>let a:=(x.1.length:Int);Go.Proofs.Tryz.prog=Go.Proofs.Tryz.prog/\false=false/\((Wn x.2.1.1 fun(z:OV)=>x.2.1.2 z)/\a=a/\List.length x.1<=20)/\∀(r:Unit) (o:Qp),True->tE.sl.wf o.1/\True->True->o.1.Perm x.1/\Ve (fun(z:OV)=>x.2.1.2 z) o.1->True/\o.1.Perm x.1/\Ve x.2.1.2 o.1
abbrev XQ:=Int×List EE×Unit
def R1:A5 F5.args->Prop:=fun(x:List EE×Int×Int×((EE×EE×Unit->Prop)×(EE×EE×Unit->Int))×Unit)=>let h:=(0:Int);let f:=(1:Int);∃(I:XQ->Prop),∃(j: _->Nat),I (i64.wrap (x.2.1+f),x.1,())/\∀(p:XQ),(Ty.int i64).wf p.1/\Zy p.2.1/\True->I p->(iB (decide (p.1<x.2.2.1)) (∃(I_1:XQ->Prop),∃(n: _->Nat),I_1 (p.1,p.2.1,())/\∀(m:XQ),let k:=m.1.toNat;let i:=(i64.wrap (p.1+f),m.2.1,());let e:Prop:=(x.2.1<m.1);let d:=(i64.wrap (m.1-f));let g:=(List.set m.2.1 k (List.getD m.2.1 d.toNat D6));let c:=(m.2.1.length:Int);let l:Prop:=(h<=m.1/\m.1<c);let b:=(i64.wrap (m.1-f),g.set d.toNat (List.getD m.2.1 k D6),());let a:=(List.getD m.2.1 k D6,List.getD m.2.1 d.toNat D6,());let d:=(decide (x.2.2.2.1.2 a<h));(Ty.int i64).wf m.1/\Zy m.2.1/\True->I_1 m->(decide e=true->h<=m.1/\m.1<c)/\(decide e=true->h<=i64.wrap (m.1-f)/\i64.wrap (m.1-f)<c)/\Go.Proofs.Tryz.prog=Go.Proofs.Tryz.prog/\(decide e=true->x.2.2.2.1.1 a)/\((decide e=true->(Ty.int i64).wf (x.2.2.2.1.2 a))->(iB (K4 (decide e) d false) ((h<=i64.wrap (m.1-f)/\i64.wrap (m.1-f)<c)/\l/\l/\(h<=i64.wrap (m.1-f)/\i64.wrap (m.1-f)<(↑g.length:Int))/\I_1 b/\n b<n m) (I i/\j i<j p)))) (True/\List.Perm p.2.1 x.1/\List.take x.2.1.toNat p.2.1=List.take x.2.1.toNat x.1/\List.drop x.2.2.1.toNat p.2.1=List.drop x.2.2.1.toNat x.1/\Ve x.2.2.2.1.2 (List.take (x.2.2.1.toNat-x.2.1.toNat) (List.drop x.2.1.toNat p.2.1))))
abbrev A5a:=Int×Int×List EE×Unit
def Y7:A5 G8.args->Prop:=fun(x:List EE×Int×((EE×EE×Unit->Prop)×(EE×EE×Unit->Int))×Unit)=>let g:=(0:Int);∃(I:A5a->Prop),∃(a: _->Nat),I (g,(20:Int),x.1,())/\∀(p:A5a),let f:=(p.2.2.1.length:Int);let b:=p.1.toNat;(Ty.int i64).wf p.1/\(Ty.int i64).wf p.2.1/\Zy p.2.2.1/\True->I p->(iB (decide (p.2.1<=x.2.1)) (Go.Proofs.Tryz.prog=Go.Proofs.Tryz.prog/\false=false/\((Wn x.2.2.1.1 fun(z:OV)=>x.2.2.1.2 z)/\g<=p.1/\p.1<=p.2.1/\p.2.1<=f/\List.length p.2.2.1<=100000)/\∀(r:Unit) (o:Qp),let c:=(p.2.1,i64.wrap (p.2.1+20),o);True->tE.sl.wf o.1/\True->True->o.1.Perm p.2.2.1/\List.take b o.1=List.take b p.2.2.1/\List.drop p.2.1.toNat o.1=List.drop p.2.1.toNat p.2.2.1/\Ve (fun(z:OV)=>x.2.2.1.2 z) (List.take (Int.toNat p.2.1-Int.toNat p.1) (List.drop b o.1))->I c/\a c<a p) (Go.Proofs.Tryz.prog=Go.Proofs.Tryz.prog/\false=false/\((Wn x.2.2.1.1 fun(z:OV)=>x.2.2.1.2 z)/\g<=p.1/\p.1<=x.2.1/\x.2.1<=f/\List.length p.2.2.1<=100000)/\∀(r:Unit) (o:Qp),True->tE.sl.wf o.1/\True->True->o.1.Perm p.2.2.1/\List.take b o.1=List.take b p.2.2.1/\List.drop x.2.1.toNat o.1=List.drop x.2.1.toNat p.2.2.1/\Ve (fun(z:OV)=>x.2.2.1.2 z) (List.take (Int.toNat x.2.1-Int.toNat p.1) (List.drop b o.1))->∃(I:XQ->Prop),∃(a: _->Nat),I ((20:Int),o)/\∀(p:XQ),(Ty.int i64).wf p.1/\Zy p.2.1/\True->I p->(iB (decide (p.1<x.2.1)) (∃(I_1:A5a->Prop),∃(c: _->Nat),I_1 (g,i64.wrap (2*p.1),p.2.1,())/\∀(h:A5a),let e:Prop:=(i64.wrap (h.1+p.1)<x.2.1);(Ty.int i64).wf h.1/\(Ty.int i64).wf h.2.1/\Zy h.2.2.1/\True->I_1 h->(iB (decide (h.2.1<=x.2.1)) (Go.Proofs.Tryz.prog=Go.Proofs.Tryz.prog/\false=false/\False/\∀(r:Unit) (o:Qp),let b:=(h.2.1,i64.wrap (h.2.1+i64.wrap (2*p.1)),o);True->tE.sl.wf o.1/\True->True->True->I_1 b/\c b<c h) (∃(J:Qp->Prop),((iB (decide e) (Go.Proofs.Tryz.prog=Go.Proofs.Tryz.prog/\false=false/\False/\∀(r:Unit) (o:Qp),True->tE.sl.wf o.1/\True->True->True->J o) (J (h.2.2.1,()))))/\eW fun i=>let d:=(i64.wrap (p.1*2),i);J i->I d/\a d<a p))) (True/\List.Perm p.2.1 x.1/\Ve x.2.2.1.2 p.2.1))))
def Mw:A5 Y1.args->Prop:=fun(x:OV)=>True/\Ed fun r=>r.1=N9 x.1.1 x.2.1.1->r.1=N9 x.1.1 x.2.1.1
def Mv:A5 Y0.args->Prop:=fun(x:Qp)=>let i:=(1:Int);let e:=(0:Int);let k:=e.toNat;let d:=(x.1.length:Int);True/\Nz fun r=>r.1=decide (asc x.1)->(iB r.1 ((asc x.1->x.1=x.1)/\(¬asc x.1->asc x.1/\(∀(j:Int),A4 x.1 j=A4 x.1 j)/\List.length x.1<=20/\JL (16777216:Nat) x.1)) ((e<=d/\d<=d/\(↑(64:Nat):Int)*d<=(281474976710656:Int)/\d<=(9223372036854775807:Int))/\∃(b:OV->Prop),∃(a:OV->Int),(∀(y:OV),tE.wf y.1/\tE.wf y.2.1/\True->b y->True/\Ed fun z=>z.1=N9 y.1.1 y.2.1.1->false=false/\z.1=a y)/\(Wn b a/\(Jk (List.replicate d.toNat D6) x.1).length<=(20:Nat))/\∀(s:Unit) (o:Qp),True->tE.sl.wf o.1/\True->True->o.1.Perm (Jk (List.replicate d.toNat D6) x.1)/\Ve a o.1->∃(I:A5a->Prop),∃(n: _->Nat),I (e,e,o)/\∀(p:A5a),let m:Prop:=(p.2.1<(↑o.1.length:Int));let l:=(i64.wrap (p.1-i));let g:=p.1.toNat;let c:=(p.2.2.1.length:Int);let f:Prop:=(e<=i64.wrap (p.1-i)/\i64.wrap (p.1-i)<c);let b:=(List.getD p.2.2.1 p.2.1.toNat D6);let a:=(List.getD p.2.2.1 l.toNat D6);let d:=(decide (a.1=b.1));(Ty.int i64).wf p.1/\(Ty.int i64).wf p.2.1/\Zy p.2.2.1/\True->I p->(iB (decide m) (∃(J:XQ->Prop),((e<=p.2.1/\p.2.1<c)/\(decide (e<p.1)=true->e<=i64.wrap (p.1-i)/\i64.wrap (p.1-i)<c)/\(iB (K4 (decide (e<p.1)) d false) (f/\(E7 a.2/\E7 b.2)/\I5 fun r=>r.1=rc (rv a.2+rv b.2)->f/\J (p.1,List.set p.2.2.1 l.toNat (a.1,r.1),())) ((e<=p.1/\p.1<c)/\J (i64.wrap (p.1+i),List.set p.2.2.1 g b,()))))/\∀(q:XQ),let h:=(q.1,i64.wrap (p.2.1+i),q.2.1,());(Ty.int i64).wf q.1/\Zy q.2.1/\True->J q->I h/\n h<n p) ((e<=e/\e<=p.1/\p.1<=c)/\(asc x.1->List.drop k (List.take g p.2.2.1)=x.1)/\(¬asc x.1->asc (List.drop k (List.take g p.2.2.1))/\(∀(j:Int),A4 (List.drop k (List.take g p.2.2.1)) j=A4 x.1 j)/\(List.drop k (List.take g p.2.2.1)).length<=(20:Nat)/\JL (16777216:Nat) (List.drop k (List.take g p.2.2.1)))))))
def RE {a b:List D1} (h:a.Perm b) (j:Int):A4 a j=A4 b j:=by
 induction h with
 |nil=>rfl
 |cons e _ c=>rw[A4,A4,c]
 |swap e f l=>simp only[A4];rw[<-g0b, <-g0b,g2c (if f.1=j then rv f.2 else 0)]
 |trans _ _ c d=>rw[c,d]
def RB (e:D1) (j:Int):A4 [e] j=if e.1=j then rv e.2 else 0:=by
 simp only[A4,rJ]
structure JM (o:List D1) (n i:Int) (c:List D1):Prop where
 n0:0<=n
 ni:n<=i
 il:i<=(o.length:Int)
 cl:c.length=o.length
 rest:∀j:Nat,i.toNat<=j->c.getD j D6=o.getD j D6
 ord:asc (c.take n.toNat)
 cm:∀j,A4 (c.take n.toNat) j=A4 (o.take i.toNat) j
 le:∀e∈c.take n.toNat,∃y∈o.take i.toNat,y.1=e.1
 szs:∀e∈c.take n.toNat,sz (65537*i.toNat) e.2/\Wk e.2
def JM.init (o:List D1):JM o 0 0 o:=⟨qI _,qI _,qF _,rfl,fun _ _=>rfl,List.Pairwise.nil,fun _=>rfl,fun e a=>(by cases a),fun e a=>(by cases a)⟩
def BZ {α:Type} {l:List α} {k:Nat} {x:α} (h:k<l.length):(l.set k x).take (k+1)=l.take k++ [x]:=by
 rw[rR,yX (qR k),sG h];rfl
def Sz {α:Type} {l:List α} {k:Nat} (d:α) (h:k<l.length):l.take (k+1)=l.take k++ [l.getD k d]:=by
 rw[rR,qN h,P8 _ _ h];rfl
variable {o c:List D1} {n i:Int}
def JM.bound (h:JM o n i c) (j:o.Pairwise fun a b=>a.1<=b.1) (r:i<(o.length:Int)):∀e∈c.take n.toNat,e.1<=(o.getD i.toNat D6).1:=fun e f=>by
 obtain⟨y,k,d⟩:=h.le e f;obtain⟨l,g,rfl⟩:=vX.1 k;rw[qY]at g;rw[g1f]at d;have s:=h.n0;have t:=h.ni;have:=tR.1 j l i.toNat (by omega) (by omega) (by omega);rw[P8 _ _ (show i.toNat<o.length by omega), <-d];exact this
def JM.push (h:JM o n i c) (D:o.Pairwise fun a b=>a.1<=b.1) (G:JL 65536 o) (y:DU o) (w:i<(o.length:Int)) (r:0<n->(c.getD (n-1).toNat D6).1≠(o.getD i.toNat D6).1):JM o (n+1) (i+1) (c.set n.toNat (o.getD i.toNat D6)):=by
 have A:=h.n0;have N:=h.ni;have v:=h.cl;have k:=h.bound D w;have f:(c.set n.toNat (o.getD i.toNat D6)).take (n+1).toNat=c.take n.toNat++ [o.getD i.toNat D6]:=by
  rw[show(n+1).toNat=n.toNat+1 from by omega];exact BZ (by omega)
 have s:o.take (i+1).toNat=o.take i.toNat++ [o.getD i.toNat D6]:=by
  rw[show(i+1).toNat=i.toNat+1 from by omega];exact Sz D6 (by omega)
 have z:∀e∈c.take n.toNat,e.1<(o.getD i.toNat D6).1:=fun e d=>by
  have I:=k e d;have B:0<n:=by
   rcases g3t A with g|g
   . exact g
   . rw[<-g]at d;cases d
  have x:(n-1).toNat<c.length:=by omega
  have t:c.take n.toNat=c.take (n-1).toNat++ [c.getD (n-1).toNat D6]:=by
   rw[show n.toNat=(n-1).toNat+1 from by omega];exact Sz D6 x
  have M:=k (c.getD (n-1).toNat D6) (by rw[t];simp);have r:=r B;have j:=h.ord;rw[t]at d j;rcases qZ.1 d with d|d
  . have:=(tA.1 j).2.2 e d _ (qW.2 rfl);omega
  . rw[qW]at d;subst d;omega
 have l:o.getD i.toNat D6∈o:=E8 (by omega);refine⟨by omega,by omega,by omega,by rw[qS];exact v,fun u J=> ?_, ?_,fun u=> ?_,fun e d=> ?_,fun e d=> ?_⟩
 . rw[qE,sR (by omega), <-qE];exact h.rest u (by omega)
 . rw[f];exact fY h.ord z
 . rw[f,s,O5,O5,h.cm]
 . rw[f]at d;rw[s];rcases qZ.1 d with d|d
   . obtain⟨H,E,F⟩:=h.le e d;exact⟨H,sL _ E,F⟩
   . rw[qW]at d;subst d;exact⟨_,tJ _ (qW.2 rfl),rfl⟩
 . rw[f]at d;rcases qZ.1 d with d|d
   . exact⟨H0 (h.szs e d).1 (by omega),(h.szs e d).2⟩
   . rw[qW]at d;subst d;exact⟨H0 (G _ l) (by omega),y _ l⟩
def JM.add (h:JM o n i c) (O:JL 65536 o) (G:DU o) (W:i<(o.length:Int)) (Z:0<n) (r:(c.getD (n-1).toNat D6).1=(o.getD i.toNat D6).1):sz (65537*i.toNat) (c.getD (n-1).toNat D6).2/\sz 65536 (o.getD i.toNat D6).2/\JM o n (i+1) (c.set (n-1).toNat ((c.getD (n-1).toNat D6).1,rc (rv (c.getD (n-1).toNat D6).2+rv (o.getD i.toNat D6).2))):=by
 have a0:=h.ni;have F:=h.cl;have s:(n-1).toNat<c.length:=by omega
 have w:c.take n.toNat=c.take (n-1).toNat++ [c.getD (n-1).toNat D6]:=by
  rw[show n.toNat=(n-1).toNat+1 from by omega];exact Sz D6 s
 have v:o.take (i+1).toNat=o.take i.toNat++ [o.getD i.toNat D6]:=by
  rw[show(i+1).toNat=i.toNat+1 from by omega];exact Sz D6 (by omega)
 have H:c.getD (n-1).toNat D6∈c.take n.toNat:=by rw[w];simp
 have u:o.getD i.toNat D6∈o:=E8 (by omega);obtain⟨A,T⟩:=h.szs _ H;have B:=O _ u;have U:=G _ u;refine⟨A,B, ?_⟩;have j:=h.ord;have l:=h.cm;have t:=h.le;have f:=h.szs;rw[w]at j l t f;have J:=h.rest;generalize Y:c.getD (n-1).toNat D6=z at*;generalize o.getD i.toNat D6=g at*;have d:∀x:D1,(c.set (n-1).toNat x).take n.toNat=c.take (n-1).toNat++ [x]:=fun x=>by
  rw[show n.toNat=(n-1).toNat+1 from by omega];exact BZ s
 obtain⟨P,a1,Q⟩:=tA.1 j;have I:qs (65537*(i+1).toNat) (rv z.2+rv g.2):=by
  have a:1<=i.toNat:=by omega
  exact L5 (oS (Pm T A (by omega)) (Pm U B (by decide))) (by omega)
 refine⟨h.n0,by omega,by omega,by rw[qS];exact F,fun y X=> ?_, ?_,fun y=> ?_,fun e b=> ?_,fun e b=> ?_⟩
 . rw[qE,sR (by omega), <-qE];exact J y (by omega)
 . rw[d];exact tA.2 ⟨P,wS _ _,fun D E V k=>by rw[qW]at k;subst k;exact Q D E z (qW.2 rfl)⟩
 . rw[d,v,O5,O5, <-l,O5,RB,RB,RB];simp only;rw[L9,r,g0b];congr 1;split
   . rfl
   . rw[rJ]
 . rw[d]at b;rw[v];rcases qZ.1 b with a|a
   . obtain⟨R,M,N⟩:=t e (sL _ a);exact⟨R,sL _ M,N⟩
   . rw[qW]at a;subst a;exact⟨g,tJ _ (qW.2 rfl),r.symm⟩
 . rw[d]at b;rcases qZ.1 b with a|a
   . exact⟨H0 (f e (sL _ a)).1 (by omega),(f e (sL _ a)).2⟩
   . rw[qW]at a;subst a;exact⟨BY I,A1d _⟩
def Yp (x:A5 Y1.args) (a:awf Y1.args x) (_:Y1.pre x):Mw x:=by
 simp only[Mw,Ed];exact⟨trivial,fun r _ h=>h⟩
def Bg (x:A5 F5.args) (a1:awf F5.args x) (P:F5.pre x):R1 x:=by
 obtain⟨l,a,b,⟨T,g⟩,_⟩:=x;change List (Int×(Bool×List Int)×List Int)at l;change Int at a b;obtain⟨⟨O,R,N⟩,V,W,X,Z⟩:Wn T g/\0<=a/\a<=b/\b<=(l.length:Int)/\l.length<=100000:=P;simp only[R1,iB];have Q:∀x y z:D1,¬g (y,x,())<0->¬g (z,y,())<0->¬g (z,x,())<0:=fun x y z v f=>R z y x f v
 refine⟨fun p=>a+1<=p.1/\(p.1<=b\/p.1=a+1)/\p.2.1.Perm l/\p.2.1.take a.toNat=l.take a.toNat/\p.2.1.drop b.toNat=l.drop b.toNat/\(∀s t,a.toNat<=s->s<t->t<p.1.toNat->t<b.toNat->¬g (p.2.1.getD t D6,p.2.1.getD s D6,())<0),fun p=>(b-p.1).toNat, ?_, ?_⟩
 . rw[wv (by omega)];refine⟨qI _, .inr rfl,wO _,rfl,rfl,fun s t v f k w=> ?_⟩;change t<(a+1).toNat at k;omega
 rintro⟨i,m,_⟩ _ ⟨M,v,f,k,w,E⟩;change Int at i;change List (Int×(Bool×List Int)×List Int)at m;simp only at M v f k w E⊢;have a0:=f.length_eq;refine⟨fun h=> ?_,fun h=> ?_⟩
 . have h:=qA h;refine⟨fun p=>a<=p.1/\p.1<=i/\p.2.1.Perm l/\p.2.1.take a.toNat=l.take a.toNat/\p.2.1.drop b.toNat=l.drop b.toNat/\A8a (fun x y=>¬g (y,x,())<0) D6 p.2.1 a.toNat i.toNat p.1.toNat,fun p=>(p.1-a).toNat,⟨by show a<=i;omega,qI _,f,k,w,nP fun s t n o r=>E s t n o r (by omega)⟩, ?_⟩;rintro⟨j,y,_⟩ _ ⟨I,J,u,A,B,D⟩;change Int at j;change List (Int×(Bool×List Int)×List Int)at y;simp only at I J u A B D⊢;have a2:=u.length_eq;have H:i64.wrap (j-1)=j-1:=wv (by omega);rw[H];have G:(j-1).toNat=j.toNat-1:=by omega
   rw[G];refine⟨fun F=>⟨by omega,by omega⟩,fun F=> ?_,trivial,fun _=>O _ _,fun _=>⟨fun c=> ?_,fun c=> ?_⟩⟩
   . have F:=qA F;exact⟨by omega,by omega⟩
   . rw[H8]at c;simp only[qC,rS]at c;obtain⟨a4,U⟩:=c;refine⟨⟨by omega,by omega⟩,⟨by omega,by omega⟩,⟨by omega,by omega⟩,⟨by omega,by rw[qS];omega⟩,⟨by omega,by omega, ?_, ?_, ?_, ?_⟩,by omega⟩
     . exact(pL (d:=D6) (l:=y) (j:=j.toNat) (by omega)).trans u
     . exact(pM (d:=D6) (l:=y) (by omega)).trans A
     . exact(pK (d:=D6) (l:=y) (by omega)).trans B
     . exact A3i D (by omega) (by omega) (by omega) (N _ _ U)
   . rw[H8]at c;simp only[wH,rP]at c;rw[wv (by omega)];refine⟨⟨by omega, .inl (by omega),u,A,B,fun s t n o r a3=> ?_⟩,by omega⟩;refine A8b D Q (by omega) (fun Y=> ?_) s t n o (by change t<(i+1).toNat at r;omega);rcases c with c|c
     . omega
     . exact c
 . have h:=qB h;refine⟨trivial,f,k,w, ?_⟩;unfold Ve;have:=UC (q:=fun x y=>¬g (y,x,())<0) (d:=D6) (l:=m) (a:=a.toNat) (b:=b.toNat) (by omega) fun s t n o r=>E s t n o (by omega) r
   exact this
def Fw (x:A5 G8.args) (O:awf G8.args x) (j:G8.pre x):Y7 x:=by
 obtain⟨l,n,⟨G,c⟩,_⟩:=x;change List (Int×(Bool×List Int)×List Int)at l;change Int at n;obtain⟨u,N,J⟩:Wn G c/\n=(l.length:Int)/\l.length<=20:=j;simp only[Y7,iB,eW];refine⟨fun p=>(p.1=0/\p.2.1=20/\p.2.2.1=l)\/(p.1=20/\p.2.1=40/\n=20/\p.2.2.1.Perm l/\Ve c p.2.2.1),fun p=>(40-p.2.1).toNat, .inl ⟨rfl,rfl,rfl⟩, ?_⟩;rintro⟨b,r,m,_⟩ _ i;change Int at b r;change List (Int×(Bool×List Int)×List Int)at m;simp only at i⊢;refine⟨fun h=> ?_,fun h=> ?_⟩
 . have h:=qA h;obtain⟨rfl,rfl,rfl⟩:b=0/\r=20/\m=l:=by
    rcases i with s| ⟨_,s,_⟩
    . exact s
    . omega
   refine⟨trivial,trivial,⟨u,qI _,by omega,by omega,by omega⟩, ?_⟩;rintro H ⟨o,_⟩ _ _ _ ⟨d,f,k,a⟩;simp only at d f k a⊢;rw[wv (by omega)];refine⟨.inr ⟨by trivial,by trivial,by omega,d, ?_⟩,by simp⟩;have B:=d.length_eq;change Ve c ((o.drop 0).take (20-0))at a;rw[tZ,qQ (by omega)]at a;exact a
 . have h:=qB h;have A:0<=b/\b<=n/\m.Perm l/\(b=0\/b=n/\Ve c m):=by
    rcases i with⟨rfl,rfl,rfl⟩ | ⟨rfl,rfl,I,j,s⟩
    . exact⟨qI _,by omega,wO _, .inl rfl⟩
    . exact⟨by decide,by omega,j, .inr ⟨by omega,s⟩⟩
   obtain⟨E,F,z,g⟩:=A;have M:=z.length_eq;refine⟨trivial,trivial,⟨u,E,F,by omega,by omega⟩, ?_⟩;rintro H ⟨o,_⟩ _ _ _ ⟨d,f,k,a⟩;simp only at d f k a⊢;have B:=d.length_eq;have D:Ve c o:=by
    rcases g with g| ⟨g,s⟩
    . change Ve c ((o.drop b.toNat).take (n.toNat-b.toNat))at a;rw[g]at a;change Ve c ((o.drop 0).take (n.toNat-0))at a;rw[tZ,qQ (by omega)]at a;exact a
    . rw[qQ (by omega),qQ (by omega)]at f;rw[f];exact s
   refine⟨fun p=>p.1=20/\p.2.1.Perm l/\Ve c p.2.1,fun _=>0,⟨rfl,d.trans z,D⟩, ?_⟩;rintro⟨P,Q,_⟩ _ ⟨v,w,y⟩;simp only at v w y⊢;subst v;refine⟨fun t=> ?_,fun _=>⟨trivial,w,y⟩⟩;have t:=qA t;omega
def Ay (x:A5 F2.args) (g:awf F2.args x) (c:F2.pre x):Q4 x:=by
 obtain⟨l,⟨d,f⟩,_⟩:=x;obtain⟨b,a⟩:Wn d f/\l.length<=20:=c;simp only[Q4];refine⟨trivial,trivial,⟨b,trivial,a⟩, ?_⟩;rintro r ⟨o,_⟩ _ _ _ h;exact⟨trivial,h⟩
def jV:Wn (fun _=>True) (fun z=>N9 z.1.1 z.2.1.1):=by
 refine⟨fun _ _=>trivial,fun a b c=> ?_,fun a b=> ?_⟩
 . simp only[N9];split<;>split<;>split<;>(try split)<;>(try split)<;>(try split)<;>omega
 . simp only[N9];split<;>split<;>(try split)<;>(try split)<;>omega
def A6g {a b:Int} :¬N9 a b<0↔b<=a:=by
 unfold N9;split
 . omega
 . split<;>omega
def Yo (x:A5 Y0.args) (V:awf Y0.args x) (r:Y0.pre x):Mv x:=by
 obtain⟨t,_⟩:=x;have Q:DU t:=Zk V.1.2;change List D1 at t;have r:YM t:=r;simp only[Mv,iB,Ed,I5,Nz];refine⟨trivial, ?_⟩;rintro⟨X,_⟩ _ B;simp only at B⊢;subst B;refine⟨fun h=>⟨fun _=>by trivial,fun u=>absurd (qA h) u⟩,fun h=> ?_⟩;have w:=qB h;obtain⟨P,s⟩:=r.resolve_left w;refine⟨⟨by omega,by omega,by omega,by omega⟩,fun _=>True,fun z=>N9 z.1.1 z.2.1.1, ?_,⟨jV, ?_⟩, ?_⟩
 . rintro⟨k,l,_⟩ _ _;refine⟨trivial, ?_⟩;rintro⟨z,_⟩ _ s;exact⟨(by trivial),s⟩
 . rw[KB];exact P
 rintro X ⟨o,_⟩ _ _ _ ⟨j,E⟩;change List D1 at o;simp only[KB]at j E⊢;have a4:=j.length_eq;have U:o.Pairwise fun k l=>k.1<=l.1:=E.imp fun {k l} b=>A6g.1 b
 have D:JL 65536 o:=fun e f=>s e (j.mem_iff.1 f)
 have v:DU o:=fun e f=>Q e (j.mem_iff.1 f)
 refine⟨fun p=>JM o p.1 p.2.1 p.2.2.1,fun p=>((o.length:Int)-p.2.1).toNat,JM.init o, ?_⟩;rintro⟨n,i,c,_⟩ _ a;change Int at n i;change List D1 at c;simp only at a⊢;have I:=a.n0;have a2:=a.ni;have u:=a.il;have N:=a.cl;have g:(c.length:Int)=(o.length:Int):=by rw[N]
 refine⟨fun d=> ?_,fun d=> ?_⟩
 . have d:=qA d;have M:c.getD i.toNat D6=o.getD i.toNat D6:=a.rest _ (qR _);have O:0<=i/\i<(c.length:Int):=⟨by omega,by rw[g];exact d⟩;have R:i64.wrap (n-1)=n-1:=wv (by omega);rw[R,M];refine⟨fun p=>JM o p.1 (i+1) p.2.1,⟨O,fun b=> ?_,fun b=> ?_,fun b=> ?_⟩, ?_⟩
   . have b:=qA b;exact⟨by omega,by rw[g];omega⟩
   . rw[H8]at b;simp only[qC,rS]at b;obtain⟨G,H⟩:=b;have y:0<=n-1/\n-1<(c.length:Int):=⟨by omega,by rw[g];omega⟩;obtain⟨Y,Z,a0⟩:=a.add D v d G H;refine⟨y,⟨Z8 (H0 Y (show 65537*i.toNat<=2199023255552 by omega)) (qR _),Z8 Z (by decide)⟩, ?_⟩;rintro⟨q,_⟩ _ A;change C7 at q;simp only at A⊢;rw[A];exact⟨y,a0⟩
   . have T:0<n->(c.getD (n-1).toNat D6).1≠(o.getD i.toNat D6).1:=fun hn f=>by
      rw[H8,rL hn,rL f]at b;cases b
     rw[wv (by omega)];exact⟨⟨by omega,by rw[g];omega⟩,a.push U D v d T⟩
   . rintro⟨a5,a1,_⟩ _ J;simp only;rw[wv (by omega)];exact⟨J,by omega⟩
 . have d:=qB d;have a3:i=(o.length:Int):=by omega
   refine⟨⟨qI _,I,by rw[g];omega⟩,fun h=>absurd h w,fun _=> ?_⟩;have F:List.drop (Int.toNat 0) (List.take n.toNat c)=c.take n.toNat:=rfl;rw[F];refine⟨a.ord,fun W=> ?_, ?_,fun e f=>H0 (a.szs e f).1 (by omega)⟩
   . rw[a.cm,G9 (by omega)];exact RE j W
   . rw[qY];omega
def GH:An:= {loop:= [(5,⟨[1,6,14,15],[],[(16,false,vI)],[],[(0, .row tE 70)]⟩)]}
def Mu:A5 O2.args->Prop:=fun(x:List EE×List Int×Unit)=>let h:=(0:Int);let g:=(x.2.1.length:Int);let d:=(↑x.2.1.length:Int);let e:Prop:=(∀(j:Int),A4 x.1 j≠(0:Rat)->h<=j/\j<d);List.length x.2.1<=100000/\Nz fun r=>r.1=decide (G4 x.2.1 g)->(iB ((!r.1)) (G4 x.2.1 d->e->JJ (fun(i:Int)=>if h<=i/\i<d then A4 x.1 (↑(List.idxOf i x.2.1):Int)else(0:Rat)) []/\false=true) (Jr x.1/\eW fun n=>JJ (A4 x.1) n.1->∃(I:XQ->Prop),∃(μ: _->Nat),I (h,n)/\∀(p:XQ),let l:Prop:=(p.1<(n.1.length:Int));let k:Prop:=(h<=p.1/\p.1<(p.2.1.length:Int));let c:=(List.getD p.2.1 p.1.toNat D6);let m:=(decide (g<=c.1));let f:=(i64.wrap (p.1+1),List.set p.2.1 p.1.toNat (gx h x.2.1 c.1,c.2),());(Ty.int i64).wf p.1/\Zy p.2.1/\True->I p->(iB (decide l) (k/\(iB (K4 (decide (c.1<h)) true m) (G4 x.2.1 d->e->JJ (fun(i:Int)=>if h<=i/\i<d then A4 x.1 (↑(List.idxOf i x.2.1):Int)else(0:Rat)) []/\false=true) ((h<=c.1/\c.1<g)/\k/\I f/\μ f<μ p))) (List.length p.2.1<=100000/\∀(l':List EE),tE.sl.wf l'->l'.Perm p.2.1->List.Pairwise (fun(a b:Int×(Bool×List Int)×List Int)=>¬N9 b.1 a.1<h) l'->G4 x.2.1 d->e->JJ (fun(i:Int)=>if h<=i/\i<d then A4 x.1 (↑(List.idxOf i x.2.1):Int)else(0:Rat)) l'/\true=true))))
abbrev Q6:=List (Int×Bool)
def keys (es:Q6):List Int:=es.map fun e=>e.1
def ZM (k:Int) (v:Bool) (es:Q6):(keys es).Nodup->(keys (Er (.int .i64) k v es)).Nodup/\∀i,i∈keys (Er (.int .i64) k v es)↔i=k\/i∈keys es:=by
 intro h;unfold keys at*;rw[KV];by_cases a:k∈es.map fun e=>e.1
 . rw[qK a];exact⟨h,fun i=>⟨.inr,fun f=>f.elim (fun e=>e▸a) id⟩⟩
 . rw[qH a];refine⟨tO.2 ⟨h,by simp,fun g c j b d=> ?_⟩,fun i=> ?_⟩
   . rw[qW]at b;exact a (b▸d▸c)
   . rw[qZ,qW];exact Or.comm
def ZL (k:Int):∀(es:Q6),(keys es).Nodup->(keys (Ng (.int .i64) k es)).Nodup/\∀i,i∈keys (Ng (.int .i64) k es)↔i≠k/\i∈keys es
 | [],h=>⟨h,fun i=>⟨fun a=>(by cases a),fun a=>(by cases a.2)⟩⟩
 |x::r,h=>by
  have d:=sH.1 (show(x.1::keys r).Nodup from h);have e:Ng (.int .i64) k (x::r)=if k=x.1 then r else x::Ng (.int .i64) k r:=by
   rw[Ng,Iw];by_cases b:k=x.1
   . rw[qK b,rL b];rfl
   . rw[qH b,rG b];rfl
  rw[e];by_cases b:k=x.1
  . rw[qK b];refine⟨d.2,fun i=>⟨fun a=>⟨fun e=>d.1 (by rw[<-b, <-e];exact a),qL _ a⟩,fun a=> ?_⟩⟩;exact(qT.1 (show i∈x.1::keys r from a.2)).resolve_left fun e=>a.1 (by rw[e,b])
  . rw[qH b];obtain⟨g,c⟩:=ZL k r d.2;refine⟨sH.2 ⟨fun l=>d.1 ((c _).1 l).2,g⟩,fun i=> ?_⟩;constructor
    . intro a;rcases qT.1 (show i∈x.1::keys (Ng (.int .i64) k r)from a)with rfl|a
      . exact⟨fun e=>b e.symm,rH⟩
      . exact⟨((c i).1 a).1,qL _ ((c i).1 a).2⟩
    . rintro⟨j,f⟩;rcases qT.1 (show i∈x.1::keys r from f)with rfl|f
      . exact rH
      . exact qL _ ((c i).2 ⟨j,f⟩)
def T4 (rows:List (List D1)) (i j:Nat):Rat:=A4 (rows.getD i []) (j:Int)
def B5c (n k:Nat) (p:Nat->Nat) (R:Nat->Nat->Rat) (j:Nat) (es:Q6):Prop:=(keys es).Nodup/\∀i:Int,i∈keys es↔0<=i/\i<(n:Int)/\(∀a,a<k->i.toNat≠p a)/\R i.toNat j≠0
structure EI (n k:Nat) (S:Nat->Nat) (A:Nat->Nat->Rat) (rest P Q place:List Int) (rows lower:List (List D1)) (cols:List Q6):Prop where
 elim:Uk n k A (ix P) (ix Q) (T4 rows) (T4 lower)
 lP:P.length=n
 lQ:Q.length=n
 lpl:place.length=n
 lrows:rows.length=n
 llow:lower.length=n
 lcols:cols.length=n
 P0:∀a,a<k->P.getD a 0=(ix P a:Int)
 Q0:∀a,a<k->Q.getD a 0=(ix Q a:Int)
 pl:∀a,a<k->place.getD (ix Q a) 0=(a:Int)
 rnd:rest.Nodup
 rmem:∀c:Int,c∈rest↔0<=c/\c<(n:Int)/\∀a,a<k->c.toNat≠ix Q a
 can:∀i,i<n->T1 (rows.getD i [])/\(∀e∈rows.getD i [],0<=e.1/\e.1<(n:Int))/\∀j,qs (S k) (A4 (rows.getD i []) j)
 lcan:∀i,i<n->T1 (lower.getD i [])/\(∀e∈lower.getD i [],0<=e.1/\e.1<(k:Int))
 lq:∀i,i<n->∀j,qs (S k) (A4 (lower.getD i []) j)
 fin:∀a,a<k->∀j,qs (S a) (A4 (rows.getD (ix P a) []) j)
 col:∀j:Int,j∈rest->B5c n k (ix P) (T4 rows) j.toNat (cols.getD j.toNat [])
def Ap {P:List Int} {k m:Nat} {v:Int} (h:m≠k):ix (P.set k v) m=ix P m:=by
 unfold ix;rw[qE,sR (Ne.symm h), <-qE]
def F4 {α:Type} {l:List α} {d v:α} {k m:Nat} (h:m≠k):(l.set k v).getD m d=l.getD m d:=by
 rw[qE,sR (Ne.symm h), <-qE]
def C4 {α:Type} {l:List α} {d v:α} {k:Nat} (h:k<l.length):(l.set k v).getD k d=v:=by
 rw[qE,sG h];rfl
def Nf {P:List Int} {k:Nat} {v:Int} (h:k<P.length):ix (P.set k v) k=v.toNat:=by
 unfold ix;rw[C4 h]
variable {n k:Nat} {S:Nat->Nat} {A:Nat->Nat->Rat} {rest P Q place:List Int} {rows lower:List (List D1)} {cols:List Q6}
def Uu (k:Nat) (p:Nat->Nat) (R:Nat->Nat->Rat) (r c i:Nat):Rat:=if i=r\/∃a,a<k/\i=p a then 0 else R i c/R r c
def A7c {p:Nat->Nat} {R:Nat->Nat->Rat} {r c:Nat} :Uu k p R r c r=0:=qK (.inl rfl)
def A7b {p:Nat->Nat} {R:Nat->Nat->Rat} {r c a:Nat} (h:a<k):Uu k p R r c (p a)=0:=qK (.inr ⟨a,h,rfl⟩)
def RX {p:Nat->Nat} {R:Nat->Nat->Rat} {r c i:Nat} (b:i≠r) (d:∀a,a<k->i≠p a):Uu k p R r c i=R i c/R r c:=qH fun f=>f.elim b fun⟨a,ha,e⟩=>d a ha e
def EI.step (h:EI n k S A rest P Q place rows lower cols) {r c:Int} (M:c∈rest) (Y:r∈keys (cols.getD c.toNat [])) {z:List Int} {t v:List (List D1)} {E:List Q6}
 (a4:z.Nodup) (a5:∀x,x∈z↔x∈rest/\x≠c) (a0:t.length=n) (a1:v.length=n) (a2:E.length=n)
 (w:∀i,i<n->T1 (t.getD i [])/\(∀e∈t.getD i [],0<=e.1/\e.1<(n:Int))/\(∀j,qs (S (k+1)) (A4 (t.getD i []) j))/\∀j,A4 (t.getD i []) j=A4 (rows.getD i []) j-Uu k (ix P) (T4 rows) r.toNat c.toNat i*A4 (rows.getD r.toNat []) j)
 (G:∀i,i<n->v.getD i []=if Uu k (ix P) (T4 rows) r.toNat c.toNat i=0 then lower.getD i []else lower.getD i []++ [((k:Int),rc (Uu k (ix P) (T4 rows) r.toNat c.toNat i))])
 (Z:S k<=S (k+1)) (a9:∀i,i<n->qs (S (k+1)) (Uu k (ix P) (T4 rows) r.toNat c.toNat i))
 (a8:∀j:Int,j∈z->B5c n (k+1) (ix (P.set k r)) (T4 t) j.toNat (E.getD j.toNat [])):
 EI n (k+1) S A z (P.set k r) (Q.set k c) (place.set c.toNat k) t v E:=by
 obtain⟨aa,c1,D⟩:=(h.rmem c).1 M;obtain⟨ab,X⟩:=h.col c M;obtain⟨ac,ad,a6,a7⟩:=(X r).1 Y;have o:k<n:=by
  rcases sC k n with N|N
  . exact N
  . obtain⟨a,l,e⟩:=W2 (n:=n) (q:=ix Q) (fun a l=>h.elim.qlt a (by omega)) (fun a b l hb=>h.elim.qinj a b (by omega) (by omega)) (show c.toNat<n by omega);exact absurd e.symm (D a (by omega))
 have y:∀m,m<k->m≠k:=fun m s=>uC s
 have R:∀i,i<n->∀m:Nat,T4 v i m=T4 lower i m+if m=k then Uu k (ix P) (T4 rows) r.toNat c.toNat i else 0:=fun i d m=>by
  show A4 (v.getD i []) (m:Int)=A4 (lower.getD i []) (m:Int)+ _;rw[G i d];by_cases u:Uu k (ix P) (T4 rows) r.toNat c.toNat i=0
  . rw[qK u,u];split<;>rw[rJ]
  . rw[qH u,Jb];congr 1;by_cases s:m=k
    . subst s;rw[qK rfl,qK rfl]
    . rw[qH s,qH (by omega)]
 have a3:∀i,i<n->T4 lower i k=0:=fun i d=>D2 fun e f W=>by
  have:=(h.lcan i d).2 e f;omega
 refine⟨h.elim.step (r:=r.toNat) (c:=c.toNat) (fac:=Uu k (ix P) (T4 rows) r.toNat c.toNat) o (by omega) (by omega) a6 D a7 (fun m s=>Ap (y m s)) (Nf (by rw[h.lP];exact o)) (fun m s=>Ap (y m s)) (Nf (by rw[h.lQ];exact o)) (fun i _ U V=>RX U V) A7c (fun a l=>A7b l) (fun i j d _=>(w i d).2.2.2 j) (fun i m d s=> ?_) (fun i d=> ?_), ?_, ?_, ?_,a0,a1,a2,fun a l=> ?_,fun a l=> ?_,fun a l=> ?_,a4,fun x=> ?_,fun i d=>⟨(w i d).1,(w i d).2.1,(w i d).2.2.1⟩,fun i d=> ?_,fun i d j=> ?_,fun a l j=> ?_,a8⟩
 . rw[R i d,qH (y m s),rJ]
 . rw[R i d,qK rfl,a3 i d,sU]
 . rw[qS];exact h.lP
 . rw[qS];exact h.lQ
 . rw[qS];exact h.lpl
 . by_cases g:a=k
   . subst g;rw[C4 (by rw[h.lP];exact o),Nf (by rw[h.lP];exact o)];omega
   . rw[F4 g,Ap g];exact h.P0 a (by omega)
 . by_cases g:a=k
   . subst g;rw[C4 (by rw[h.lQ];exact o),Nf (by rw[h.lQ];exact o)];omega
   . rw[F4 g,Ap g];exact h.Q0 a (by omega)
 . by_cases g:a=k
   . subst g;rw[Nf (by rw[h.lQ];exact o),C4 (by rw[h.lpl];omega)]
   . rw[Ap g,F4 (fun e=>D a (by omega) e.symm)];exact h.pl a (by omega)
 . rw[a5,h.rmem];constructor
   . rintro⟨⟨H,I,B⟩,ae⟩;refine⟨H,I,fun a l=> ?_⟩;by_cases g:a=k
     . subst g;rw[Nf (by rw[h.lQ];exact o)];omega
     . rw[Ap g];exact B a (by omega)
   . rintro⟨H,I,B⟩;refine⟨⟨H,I,fun a l=>by have:=B a (by omega);rwa[Ap (y a l)]at this⟩,fun e=> ?_⟩;have:=B k (rM _);rw[Nf (by rw[h.lQ];exact o),e]at this;exact this rfl
 . rw[G i d];obtain⟨J,F⟩:=h.lcan i d;split
   . exact⟨J,fun e f=>by have:=F e f;omega⟩
   . rename_i u;refine⟨Ol J u fun e f=>(F e f).2,fun e f=> ?_⟩;rcases qZ.1 f with f|f
     . have:=F e f;omega
     . rw[qW]at f;subst f;simp only;omega
 . rw[G i d];have T:=L5 (h.lq i d j) Z;split
   . exact T
   . rw[Jb];by_cases O:(k:Int)=j
     . rw[qK O,D2 fun e f W=>by have:=(h.lcan i d).2 e f;omega,sU];exact a9 i d
     . rw[qH O,rJ];exact T
 . have f:∀i,i<n->Uu k (ix P) (T4 rows) r.toNat c.toNat i=0->A4 (t.getD i []) j=A4 (rows.getD i []) j:=fun i d h0=>by
    rw[(w i d).2.2.2 j,h0,rX,tG,wN,rJ]
   by_cases g:a=k
   . subst g;rw[Nf (by rw[h.lP];exact o),f _ (by omega) A7c];exact(h.can r.toNat (by omega)).2.2 j
   . rw[Ap g,f _ (h.elim.plt a (by omega)) (A7b (by omega))];exact h.fin a (by omega) j
def EI.stuck (h:EI n k S A rest P Q place rows lower cols) {c:Int} (a:c∈rest) (f:cols.getD c.toNat []= []):¬nonsing n A:=by
 obtain⟨l,c1,b⟩:=(h.rmem c).1 a;obtain⟨_,g⟩:=h.col c a;refine h.elim.stuck (c:=c.toNat) (by omega) b fun i o d=>qM fun j=> ?_
 have:=(g (i:Int)).2 ⟨qF _,by omega,d,j⟩;rw[f]at this;cases this
variable {n:Nat} {S:Nat->Nat} {A:Nat->Nat->Rat} {rest P Q place:List Int} {rows lower:List (List D1)} {cols:List Q6}
def dO {P:List Int} (l:P.length=n) (f:∀a,a<n->P.getD a 0=(ix P a:Int)) (o:∀a,a<n->ix P a<n) (g:∀a b,a<n->b<n->ix P a=ix P b->a=b):G4 P (n:Int):=by
 have d:∀a (c:a<P.length),P[a]=(ix P a:Int):=fun a c=>by
  rw[<-f a (by omega),qE,qN c];rfl
 refine⟨by rw[l],fun i r=> ?_,tR.2 fun i j h k s e=> ?_⟩
 . obtain⟨a,c,rfl⟩:=vX.1 r;have:=o a (by omega);rw[d a c];omega
 . rw[d i h,d j k]at e;have:=g i j (by omega) (by omega) (by omega);omega
def EI.places (h:EI n n S A rest P Q place rows lower cols):G4 place (n:Int)/\∀b,b<n->List.idxOf (b:Int) place=ix Q b:=by
 have d:∀j,j<n->∃b,b<n/\ix Q b=j/\place.getD j 0=(b:Int):=fun j a=>by
  obtain⟨b,c,e⟩:=W2 h.elim.qlt h.elim.qinj a;exact⟨b,c,e,by rw[<-e];exact h.pl b c⟩
 have l:∀j (a:j<place.length),place[j]=place.getD j 0:=fun j a=>by
  rw[qE,qN a];rfl
 refine⟨dO h.lpl (fun j a=> ?_) (fun j a=> ?_) (fun i j f a e=> ?_),fun b c=> ?_⟩
 . obtain⟨b,c,_,e⟩:=d j a;unfold ix;rw[e];omega
 . obtain⟨b,c,_,e⟩:=d j a;unfold ix;rw[e];omega
 . obtain⟨b,c,g,k⟩:=d i f;obtain⟨f,s,o,r⟩:=d j a;unfold ix at e;rw[k,r]at e;have:b=f:=by omega
   rw[<-g, <-o,this]
 . have o:(b:Int)∈place:=by
    have a:=h.pl b c;have j:ix Q b<place.length:=by rw[h.lpl];exact h.elim.qlt b c
    rw[<-a, <-l _ j];exact vN j
   have a:=yN o;have c:place[List.idxOf (b:Int) place]=(b:Int):=g0v a;obtain⟨f,s,g,k⟩:=d (List.idxOf (b:Int) place) (by rw[<-h.lpl];exact a);rw[l _ a,k]at c;have:f=b:=by omega
   rw[<-g,this]
def EI.done (h:EI n n S A rest P Q place rows lower cols) (M:n<=16384) {L U:List (List D1)} (B:L.length=n) (D:U.length=n)
 (u:∀a,a<n->L.getD a []=lower.getD (ix P a) []++ [((a:Int),rc 1)])
 (v:∀a,a<n->JJ (fun i=>if 0<=i/\i<(n:Int)then A4 (rows.getD (ix P a) []) ((List.idxOf i place:Nat):Int)else 0) (U.getD a [])):
 Y9 (P,Q,((n:Int),(n:Int),L),((n:Int),(n:Int),U)) (n:Int)/\∀i j,i<n->j<n->nV (P,Q,((n:Int),(n:Int),L),((n:Int),(n:Int),U)) n i j=A (ix P i) (ix Q j):=by
 obtain⟨_,y⟩:=h.places;have o:∀a m,a<n->el ((n:Int),(n:Int),L) a m=T4 lower (ix P a) m+if m=a then 1 else 0:=fun a m d=>by
  show A4 (L.getD a []) (m:Int)=A4 (lower.getD (ix P a) []) (m:Int)+ _;rw[u a d,Jb];congr 1;by_cases l:m=a
  . rw[qK l,qK (by omega)]
  . rw[qH l,qH (by omega)]
 have r:∀a g,a<n->g<n->el ((n:Int),(n:Int),U) a g=T4 rows (ix P a) (ix Q g):=fun a g d hb=>by
  show A4 (U.getD a []) (g:Int)=A4 (rows.getD (ix P a) []) _;rw[(v a d).2, <-y g hb];exact qK ⟨qF _,by omega⟩
 have x:=h.elim.plt;have F:∀a,a<n->F8 (L.getD a []) (n:Int):=fun a d=>by
  rw[u a d];obtain⟨k,s⟩:=h.lcan _ (x a d);have z:∀e∈lower.getD (ix P a) [],e.1<(a:Int):=fun e b=>by
   refine qM fun H=>(k.2 e b).1 ?_
   have G:=s e b;have:=h.elim.low a e.1.toNat d (by omega) (by omega);unfold T4 at this;rw[show((e.1.toNat:Nat):Int)=e.1 from by omega,H4 k.1 b]at this;exact this
  have w:=Ol (q:=1) k (by decide) z;refine⟨w.1,fun e b=>⟨?_, ?_,(w.2 e b).1⟩⟩
  . rcases qZ.1 b with b|b
    . exact(s e b).1
    . rw[qW]at b;subst b;exact qF _
  . rcases qZ.1 b with b|b
    . exact(s e b).2
    . rw[qW]at b;subst b;simp only;omega
 have vU:∀a,a<n->F8 (U.getD a []) (n:Int):=fun a d=>by
  obtain⟨k,w⟩:=v a d;have s:∀e∈U.getD a [],0<=e.1/\e.1<(n:Int):=fun e b=>qM fun hh=>(k.2 e b).1 (by rw[<-H4 k.1 b,w];exact qH hh)
  exact⟨k.1,fun e b=>⟨(s e b).1,(s e b).2,(k.2 e b).1⟩⟩
 refine⟨⟨dO h.lP h.P0 h.elim.plt h.elim.pinj,dO h.lQ h.Q0 h.elim.qlt h.elim.qinj,⟨rfl,rfl,qF _,by show(n:Int)<=16384;omega,qF _,by show(n:Int)<=16384;omega,by show(L.length:Int)=(n:Int);omega,fun E t=> ?_⟩,⟨rfl,rfl,qF _,by show(n:Int)<=16384;omega,qF _,by show(n:Int)<=16384;omega,by show(U.length:Int)=(n:Int);omega,fun E t=> ?_⟩,fun i j c f=> ?_⟩,fun i j c f=> ?_⟩
 . obtain⟨a,d,rfl⟩:=Bl [] t;exact F a (by rw[<-B];exact d)
 . obtain⟨a,d,rfl⟩:=Bl [] t;exact vU a (by rw[<-D];exact d)
 . have c:i<n:=by omega
   have f:j<n:=by omega
   refine⟨fun I=> ?_, ?_,fun J=> ?_, ?_⟩
   . show el ((n:Int),(n:Int),L) i j=0;rw[o i j c,h.elim.low i j c f (by omega),qH (by omega),rJ]
   . show el ((n:Int),(n:Int),L) i i=1;rw[o i i c,h.elim.low i i c c (qR _),qK rfl,sU]
   . show el ((n:Int),(n:Int),U) i j=0;rw[r i j c f];exact h.elim.zero j (ix P i) f (x i c) fun a d e=>by have:=h.elim.pinj i a c (by omega) e;omega
   . show el ((n:Int),(n:Int),U) i i≠0;rw[r i i c c];exact h.elim.piv i c
 . rw[h.elim.prod c f];unfold nV;refine A8 fun m l=> ?_
   show el ((n:Int),(n:Int),L) i m*el ((n:Int),(n:Int),U) m j= _;rw[o i m c,r m j l f]
def EI.sizes (h:EI n n S A rest P Q place rows lower cols) (b:∀a,1<=S a) {L U:List (List D1)}
 (d:∀a,a<n->L.getD a []=lower.getD (ix P a) []++ [((a:Int),rc 1)])
 (f:∀a,a<n->JJ (fun i=>if 0<=i/\i<(n:Int)then A4 (rows.getD (ix P a) []) ((List.idxOf i place:Nat):Int)else 0) (U.getD a [])) {R C:Int} {i:Nat} (hi:i<n) (j:Nat):qs (S n) (el (R,C,L) i j)/\qs (S i) (el (R,C,U) i j):=by
 constructor
 . show qs (S n) (A4 (L.getD i []) (j:Int));rw[d i hi,Jb];by_cases g:i=j
   . subst g;have c:A4 (lower.getD (ix P i) []) (i:Int)=0:=h.elim.low i i hi hi (qR _);rw[qK rfl,c,sU];exact oU (b n)
   . rw[qH (by omega),rJ];exact h.lq _ (h.elim.plt i hi) _
 . show qs (S i) (A4 (U.getD i []) (j:Int));rw[(f i hi).2];dsimp only;split
   . exact h.fin i hi _
   . exact N4 (b i)
def EI.cans (h:EI n n S A rest P Q place rows lower cols) {L U:List (List D1)} (l:L.length=n) (o:U.length=n)
 (j:∀a,a<n->L.getD a []=lower.getD (ix P a) []++ [((a:Int),rc 1)])
 (k:∀a,a<n->JJ (fun i=>if 0<=i/\i<(n:Int)then A4 (rows.getD (ix P a) []) ((List.idxOf i place:Nat):Int)else 0) (U.getD a [])):(∀v∈L,T1 v)/\∀v∈U,T1 v:=by
 constructor
 . intro v f;obtain⟨a,b,rfl⟩:=Bl [] f;have b:a<n:=by rw[<-l];exact b
   rw[j a b];obtain⟨c,g⟩:=h.lcan _ (h.elim.plt a b);refine Ol c (by decide) fun e d=>qM fun s=>(c.2 e d).1 ?_
   have r:=g e d;have:=h.elim.low a e.1.toNat b (by omega) (by omega);unfold T4 at this;rw[show((e.1.toNat:Nat):Int)=e.1 from by omega,H4 c.1 d]at this;exact this
 . intro v f;obtain⟨a,b,rfl⟩:=Bl [] f;exact(k a (by rw[<-o];exact b)).1
variable {n:Nat} {S:Nat->Nat} {rest P Q place:List Int} {rows lower:List (List D1)} {cols:List Q6}
def bZ (t:Int) (F:Nat->Int->Rat) (v:List D1) (j:Int) (es:Q6):Prop:=(keys es).Nodup/\∀i:Int,i∈keys es↔(0<=i/\i<t/\F i.toNat j≠0)\/(i=t/\∃e∈v,e.1=j)
def A6k {t j:Int} {F:Nat->Int->Rat} {v:List D1} {es:Q6} {b:Bool} {e:D1} (h:bZ t F v j es) (d:e.1=j):bZ t F (v++ [e]) j (Er (.int .i64) t b es):=by
 obtain⟨a,c⟩:=ZM t b es h.1;refine⟨a,fun i=> ?_⟩;rw[c,h.2];constructor
 . rintro(hh|hh| ⟨hh,x,a,c⟩)
   . exact .inr ⟨hh,e,by simp,d⟩
   . exact .inl hh
   . exact .inr ⟨hh,x,sL _ a,c⟩
 . rintro(hh| ⟨hh,x,a,c⟩)
   . exact .inr (.inl hh)
   . exact .inl hh
def A2v {t j:Int} {F:Nat->Int->Rat} {v:List D1} {es:Q6} {e:D1} (h:bZ t F v j es) (b:e.1≠j):bZ t F (v++ [e]) j es:=by
 refine⟨h.1,fun i=> ?_⟩;rw[h.2];refine g3k xR (g4t xR ⟨fun⟨x,a,hxj⟩=>⟨x,sL _ a,hxj⟩,fun⟨x,a,hxj⟩=> ?_⟩);rcases qZ.1 a with a|a
 . exact⟨x,a,hxj⟩
 . rw[qW]at a;subst a;exact absurd hxj b
def A2u {t j:Int} {F:Nat->Int->Rat} {v:List D1} {es:Q6} {m:Int} (h:bZ t F v j es) (l:0<=t) (f:F8 v m) (d:F t.toNat=A4 v):bZ (t+1) F [] j es:=by
 refine⟨h.1,fun i=> ?_⟩;rw[h.2];constructor
 . rintro(⟨c,g,a⟩ | ⟨rfl,e,b,rfl⟩)
   . exact .inl ⟨c,by omega,a⟩
   . refine .inl ⟨l,by omega, ?_⟩;rw[d,H4 f.1 b];exact(f.2 e b).2.2
 . rintro(⟨c,g,a⟩ | ⟨_,e,b,_⟩)
   . by_cases k:i=t
     . subst k;rw[d]at a;exact .inr ⟨rfl,Yz a⟩
     . exact .inl ⟨c,by omega,a⟩
   . cases b
def EI.start {F:Nat->Int->Rat} {A:Nat->Nat->Rat} (E:∀i j,i<n->j<n->A i j=F i (j:Int)) (V:rest.length=n) (G:∀i,i<n->rest.getD i 0=(i:Int))
 (M:P.length=n) (N:Q.length=n) (O:place.length=n) (H:rows.length=n) (I:lower.length=n) (J:cols.length=n)
 (w:∀i,i<n->JJ (F i) (rows.getD i [])) (R:∀i (j:Int),i<n->F i j≠0->0<=j/\j<(n:Int)) (D:∀i j,i<n->qs (S 0) (F i j)) (B:∀i,i<n->lower.getD i []= [])
 (T:∀j:Int,0<=j->j<(n:Int)->bZ (n:Int) F [] j (cols.getD j.toNat [])):EI n 0 S A rest P Q place rows lower cols:=by
 have d:∀a,¬a<0:=fun a=>tV a
 have r:∀i (b:i<rest.length),rest[i]=(i:Int):=fun i b=>by
  rw[<-G i (by omega),qE,qN b];rfl
 refine⟨⟨rI _,fun a h=>absurd h (d a),fun a h=>absurd h (d a),fun a _ h=>absurd h (d a),fun a _ h=>absurd h (d a),fun i j b s=> ?_,fun a _ h=>absurd h (d a),fun a h=>absurd h (d a),fun a _ h=>absurd h (d a)⟩,M,N,O,H,I,J,fun a h=>absurd h (d a),fun a h=>absurd h (d a),fun a h=>absurd h (d a),tR.2 fun i j b s U e=> ?_,fun c=>⟨fun v=> ?_,fun v=> ?_⟩,fun i b=> ?_,fun i b=> ?_,fun i b j=> ?_,fun a o=>absurd o (d a),fun j s=> ?_⟩
 . rw[B9,sU,E i j b s];exact((w i b).2 _).symm
 . rw[r i b,r j s]at e;omega
 . obtain⟨i,b,rfl⟩:=vX.1 v;rw[r i b];exact⟨qF _,by omega,fun a o=>absurd o (d a)⟩
 . obtain⟨f,g,_⟩:=v;have z:c.toNat<rest.length:=by omega
   have:=r _ z;rw[show((c.toNat:Nat):Int)=c from by omega]at this;rw[<-this];exact vN z
 . obtain⟨l,t⟩:=w i b;exact⟨l,fun e k=>R i e.1 b (by rw[<-t,H4 l.1 k];exact(l.2 e k).1),fun j=>by rw[t];exact D i j b⟩
 . rw[B i b];exact⟨GM,fun e k=>by cases k⟩
 . rw[B i b,Om];exact N4 (oV (D i j b))
 . have y:0<=j/\j<(n:Int):=by
    obtain⟨i,b,rfl⟩:=vX.1 s;rw[r i b];omega
   obtain⟨l,t⟩:=T j y.1 y.2;refine⟨l,fun i=> ?_⟩;rw[t];have x:∀i:Int,0<=i->i<(n:Int)->T4 rows i.toNat j.toNat=F i.toNat j:=fun i f g=>by
    show A4 (rows.getD i.toNat []) ((j.toNat:Nat):Int)= _;rw[(w i.toNat (by omega)).2,show((j.toNat:Nat):Int)=j from by omega]
   constructor
   . rintro(⟨f,g,u⟩ | ⟨_,e,k,_⟩)
     . exact⟨f,g,fun a o=>absurd o (d a),by rw[x i f g];exact u⟩
     . cases k
   . rintro⟨f,g,_,u⟩;exact .inl ⟨f,g,by rw[x i f g]at u;exact u⟩
def gH (Bs:Int->Int->Prop) (i:Int) (vs:List D1) (j:Int) (es:Q6):Prop:=(keys es).Nodup/\∀x:Int,x∈keys es↔Bs j x/\¬(x=i/\∃e∈vs,e.1=j)
def gG (Bs:Int->Int->Prop) (i:Int) (vs:List D1) (j:Int) (es:Q6):Prop:=(keys es).Nodup/\∀x:Int,x∈keys es↔Bs j x\/(x=i/\∃e∈vs,e.1=j)
variable {Bs:Int->Int->Prop} {i j:Int} {vs:List D1} {es:Q6} {e:D1}
def gI (h:(keys es).Nodup/\∀x,x∈keys es↔Bs j x):gH Bs i [] j es:=⟨h.1,fun x=>by rw[h.2];exact⟨fun a=>⟨a,fun⟨_,e,he,_⟩=>by cases he⟩,fun a=>a.1⟩⟩
def A6h (h:(keys es).Nodup/\∀x,x∈keys es↔Bs j x):gG Bs i [] j es:=⟨h.1,fun x=>by rw[h.2];exact⟨.inl,fun a=>a.elim id fun⟨_,e,he,_⟩=>by cases he⟩⟩
def Rr (a:e.1=j):∃y∈vs++ [e],y.1=j:=⟨e,by simp,a⟩
def RV (b:e.1≠j):(∃y∈vs++ [e],y.1=j)↔∃y∈vs,y.1=j:=
 ⟨fun⟨y,a,hyj⟩=>by
  rcases qZ.1 a with a|a
  . exact⟨y,a,hyj⟩
  . rw[qW]at a;subst a;exact absurd hyj b,fun⟨y,a,hyj⟩=>⟨y,sL _ a,hyj⟩⟩
def A6j (h:gH Bs i vs j es) (c:e.1=j):gH Bs i (vs++ [e]) j (Ng (.int .i64) i es):=by
 obtain⟨a,b⟩:=ZL i es h.1;refine⟨a,fun x=> ?_⟩;rw[b,h.2];exact⟨fun a=>⟨a.2.1,fun b=>a.1 b.1⟩,fun a=>⟨fun d=>a.2 ⟨d,Rr c⟩,a.1,fun b=>a.2 ⟨b.1,Rr c⟩⟩⟩
def A2t (h:gH Bs i vs j es) (a:e.1≠j):gH Bs i (vs++ [e]) j es:=⟨h.1,fun x=>by rw[h.2,RV a]⟩
def A6i {b:Bool} (h:gG Bs i vs j es) (d:e.1=j):gG Bs i (vs++ [e]) j (Er (.int .i64) i b es):=by
 obtain⟨a,c⟩:=ZM i b es h.1;refine⟨a,fun x=> ?_⟩;rw[c,h.2];exact⟨fun a=>a.elim (fun c=> .inr ⟨c,Rr d⟩) fun a=>a.elim .inl fun c=> .inr ⟨c.1,Rr d⟩,fun a=>a.elim (fun a=> .inr (.inl a)) fun c=> .inl c.1⟩
def A2s (h:gG Bs i vs j es) (a:e.1≠j):gG Bs i (vs++ [e]) j es:=⟨h.1,fun x=>by rw[h.2,RV a]⟩
def A6l {O N:Int->Prop} {pv nw:List D1} {d:Q6} (g:gG (fun _ x=>Bs j x/\¬(x=i/\∃e∈pv,e.1=j)) i nw j d)
 (l:Bs j i↔O j) (n:(∃e∈pv,e.1=j)\/(O j↔N j)) (k:(∃e∈nw,e.1=j)↔N j):(keys d).Nodup/\∀x,x∈keys d↔(x≠i/\Bs j x)\/(x=i/\N j):=by
 refine⟨g.1,fun x=> ?_⟩;rw[g.2,k];by_cases c:x=i
 . subst c;rcases n with f|f
   . exact⟨fun b=>b.elim (fun a=>absurd ⟨rfl,f⟩ a.2) .inr,fun b=>b.elim (fun a=>absurd rfl a.1) .inr⟩
   . exact⟨fun b=>b.elim (fun a=> .inr ⟨rfl,f.1 (l.1 a.1)⟩) .inr,fun b=>b.elim (fun a=>absurd rfl a.1) .inr⟩
 . exact⟨fun b=>b.elim (fun a=> .inl ⟨c,a.1⟩) fun a=>absurd a.1 c,fun b=>b.elim (fun a=> .inl ⟨a.2,fun h=>c h.1⟩) fun a=>absurd a.1 c⟩
def B3n {s:Nat} {x f r c:Rat} (h:qs s x) (d:qs s f) (g:qs s r) (b:qs s c):qs (4*s+1) (x-f/r*c):=by
 have a:=A9w h (EP (Wz d g) b);rwa[show s+(s+s+s)+1=4*s+1 from by omega]at a
def inC (cols:List Q6) (j x:Int):Prop:=x∈keys (cols.getD j.toNat [])
structure CI (n k s:Nat) (rest P:List Int) (rows0 lower0:List (List D1)) (r c:Int) (D:List Int) (rows lower:List (List D1)) (cols:List Q6):Prop where
 lrows:rows.length=n
 llow:lower.length=n
 lcols:cols.length=n
 rd:∀i:Nat,i<n->(i:Int)∈D->T1 (rows.getD i [])/\(∀e∈rows.getD i [],0<=e.1/\e.1<(n:Int))/\(∀j,qs (4*s+1) (A4 (rows.getD i []) j))/\∀j,A4 (rows.getD i []) j=A4 (rows0.getD i []) j-Uu k (ix P) (T4 rows0) r.toNat c.toNat i*A4 (rows0.getD r.toNat []) j
 ru:∀i:Nat,i<n->(i:Int)∉D->rows.getD i []=rows0.getD i []
 lo:∀i:Nat,i<n->lower.getD i []=if(i:Int)∈D then lower0.getD i []++ [((k:Int),rc (Uu k (ix P) (T4 rows0) r.toNat c.toNat i))]else lower0.getD i []
 col:∀j:Int,j∈rest->(keys (cols.getD j.toNat [])).Nodup/\∀x:Int,x∈keys (cols.getD j.toNat [])↔x≠r/\0<=x/\x<(n:Int)/\(∀a,a<k->x.toNat≠ix P a)/\T4 rows x.toNat j.toNat≠0
variable {n k s:Nat} {S:Nat->Nat} {A:Nat->Nat->Rat} {rest P Q place:List Int} {rows lower rows1 lower1:List (List D1)} {cols cols1 cols2:List Q6} {r c:Int}
def A0t {v:List D1} (h:T1 v) (j:Int):(∃e∈v,e.1=j)↔A4 v j≠0:=
 ⟨fun⟨e,he,hj⟩=>by rw[<-hj,H4 h.1 he];exact(h.2 e he).1,Yz⟩
def EI.row (h:EI n k S A rest P Q place rows lower cols) (b:c∈rest) (d:r∈keys (cols.getD c.toNat [])):0<=r/\r<(n:Int)/\(∀a,a<k->r.toNat≠ix P a)/\T4 rows r.toNat c.toNat≠0:=((h.col c b).2 r).1 d
def EI.crange (h:EI n k S A rest P Q place rows lower cols) (a:c∈rest):0<=c/\c<(n:Int):=⟨((h.rmem c).1 a).1,((h.rmem c).1 a).2.1⟩
def CI.init (h:EI n k S A rest P Q place rows lower cols) (u:c∈rest) (x:r∈keys (cols.getD c.toNat [])) (z:cols1.length=n)
 (v:∀j:Int,j∈rest->gH (inC cols) r (rows.getD r.toNat []) j (cols1.getD j.toNat [])):CI n k s rest P rows lower r c [] rows lower cols1:=by
 obtain⟨F,G,H,_⟩:=h.row u x;refine⟨h.lrows,h.llow,z,fun i _ w=>(by cases w),fun i _ _=>rfl,fun i _=>(qH (by simp)).symm,fun j hj=> ?_⟩;obtain⟨D,E⟩:=h.crange hj;obtain⟨l,o⟩:=v j hj;refine⟨l,fun B=> ?_⟩;rw[o];have t:=(h.col j hj).2 B;unfold inC;rw[t,A0t (h.can r.toNat (by omega)).1];constructor
 . rintro⟨⟨d,f,g,a⟩,b⟩;refine⟨fun e=>b ⟨e, ?_⟩,d,f,g,a⟩;subst e;unfold T4 at a;rwa[show((j.toNat:Nat):Int)=j from by omega]at a
 . rintro⟨y,d,f,g,a⟩;exact⟨⟨d,f,g,a⟩,fun b=>y b.1⟩
def CI.next (h:EI n k S A rest P Q place rows lower cols) (hc:c∈rest) (hr:r∈keys (cols.getD c.toNat [])) {D:List Int} (g:CI n k (S k) rest P rows lower r c D rows1 lower1 cols1) {i:Int}
 (a1:0<=i) (a2:i<(n:Int)) (W:i≠r) (B:∀a,a<k->i.toNat≠ix P a) (T:i∉D) {nw:List D1} {q:Rat}
 (Z:q=T4 rows i.toNat c.toNat/T4 rows r.toNat c.toNat)
 (u:JJ (fun j=>A4 (rows.getD i.toNat []) j-q*A4 (rows.getD r.toNat []) j) nw) (a7:cols2.length=n)
 (a5:∀j:Int,j∈rest->gG (fun j x=>inC cols1 j x/\¬(x=i/\∃e∈rows.getD r.toNat [],e.1=j)) i nw j (cols2.getD j.toNat [])):
 CI n k (S k) rest P rows lower r c (D++ [i]) (rows1.set i.toNat nw) (lower1.set i.toNat (lower1.getD i.toNat []++ [((k:Int),rc q)])) cols2:=by
 obtain⟨ac,ad,ae,af⟩:=h.row hc hr;obtain⟨a8,c1⟩:=h.crange hc;have o:i.toNat<n:=by omega
 have V:((i.toNat:Nat):Int)=i:=by omega
 have U:Uu k (ix P) (T4 rows) r.toNat c.toNat i.toNat=q:=by rw[RX (by omega) B,Z]
 have s:∀x:Nat,(x:Int)∈D++ [i]↔(x:Int)∈D\/x=i.toNat:=fun x=>by
  rw[qZ,qW];exact g3k xR (by omega)
 have w:∀j,A4 nw j=A4 (rows.getD i.toNat []) j-q*A4 (rows.getD r.toNat []) j:=u.2;have a6:∀e∈nw,0<=e.1/\e.1<(n:Int):=fun e he=>qM fun b=>by
  refine(u.1.2 e he).1 ?_;rw[<-H4 u.1.1 he,w,D2 (v:=rows.getD i.toNat []) fun M F G=>b (by rw[<-G];exact(h.can _ o).2.1 M F),D2 (v:=rows.getD r.toNat []) fun M F G=>b (by rw[<-G];exact(h.can r.toNat (by omega)).2.1 M F),sE,tG,wN,rJ]
 refine⟨by rw[qS];exact g.lrows,by rw[qS];exact g.llow,a7,fun x d f=> ?_,fun x d f=> ?_,fun x d=> ?_,fun j E=> ?_⟩
 . by_cases l:x=i.toNat
   . subst l;rw[C4 (by rw[g.lrows];exact o),U];refine⟨u.1,a6,fun j=> ?_,w⟩;rw[w,Z];have:=B3n ((h.can _ o).2.2 j) ((h.can _ o).2.2 (c.toNat:Int)) ((h.can r.toNat (by omega)).2.2 (c.toNat:Int)) ((h.can r.toNat (by omega)).2.2 j);exact this
   . rw[F4 l];exact g.rd x d (((s x).1 f).resolve_right l)
 . have l:x≠i.toNat:=fun e=>f ((s x).2 (.inr e))
   rw[F4 l];exact g.ru x d fun b=>f ((s x).2 (.inl b))
 . by_cases l:x=i.toNat
   . subst l;rw[C4 (by rw[g.llow];exact o),qK ((s _).2 (.inr rfl)),g.lo _ o,qH (by rw[V];exact T),U]
   . rw[F4 l,g.lo x d];by_cases f:(x:Int)∈D
     . rw[qK f,qK ((s x).2 (.inl f))]
     . rw[qH f,qH fun b=>f (((s x).1 b).resolve_right l)]
 . obtain⟨aa,ab⟩:=h.crange E;obtain⟨a9,R⟩:=g.col j E;have X:((j.toNat:Nat):Int)=j:=by omega
   have a4:inC cols1 j i↔A4 (rows.getD i.toNat []) j≠0:=by
    unfold inC;rw[R];have F:T4 rows1 i.toNat j.toNat=A4 (rows.getD i.toNat []) j:=by
     unfold T4;rw[g.ru _ o (by rw[V];exact T),X]
    rw[F];exact⟨fun b=>b.2.2.2.2,fun b=>⟨W,a1,a2,B,b⟩⟩
   have a0:=A6l (Bs:=inC cols1) (O:=fun j=>A4 (rows.getD i.toNat []) j≠0) (N:=fun j=>A4 nw j≠0) (pv:=rows.getD r.toNat []) (nw:=nw) (a5 j E) a4 ?_ (A0t u.1 j)
   . refine⟨a0.1,fun x=> ?_⟩;rw[a0.2];unfold inC;rw[R];by_cases d:x=i
     . subst d;have:T4 (rows1.set x.toNat nw) x.toNat j.toNat=A4 nw j:=by
        unfold T4;rw[C4 (by rw[g.lrows];exact o),X]
       rw[this];exact⟨fun b=>b.elim (fun z=>absurd rfl z.1) fun z=>⟨W,a1,a2,B,z.2⟩,fun b=> .inr ⟨rfl,b.2.2.2.2⟩⟩
     . constructor
       . rintro(⟨_,t,H,I,J,y⟩ | ⟨t,_⟩)
         . refine⟨t,H,I,J, ?_⟩;unfold T4 at y⊢;rwa[F4 (by omega)]
         . exact absurd t d
       . rintro⟨t,H,I,J,y⟩;refine .inl ⟨d,t,H,I,J, ?_⟩;unfold T4 at y⊢;rwa[F4 (by omega)]at y
   . by_cases Y:∃e∈rows.getD r.toNat [],e.1=j
     . exact .inl Y
     . refine .inr ?_;have a3:A4 (rows.getD r.toNat []) j=0:=qM fun b=>Y (Yz b)
       show A4 _ j≠0↔A4 nw j≠0;rw[w,a3,sE,tG,wN,rJ]
def CI.done (h:EI n k S A rest P Q place rows lower cols) (z:c∈rest) (O:r∈keys (cols.getD c.toNat [])) {D:List Int} (g:CI n k (S k) rest P rows lower r c D rows1 lower1 cols1)
 (I:S (k+1)=4*S k+1) (U:∀x:Int,x∈D↔x≠r/\0<=x/\x<(n:Int)/\(∀a,a<k->x.toNat≠ix P a)/\T4 rows x.toNat c.toNat≠0) {G:List Int} (X:G.Nodup) (R:∀x,x∈G↔x∈rest/\x≠c):
 EI n (k+1) S A G (P.set k r) (Q.set k c) (place.set c.toNat k) rows1 lower1 cols1:=by
 obtain⟨Z,a0,a1,W⟩:=h.row z O;have E:k<P.length:=by
  rw[h.lP];refine g3w h.elim.kn fun E=> ?_
  obtain⟨M,c1,F⟩:=(h.rmem c).1 z;obtain⟨a,l,e⟩:=W2 (n:=n) (q:=ix Q) (fun a l=>h.elim.qlt a (by omega)) (fun a b l hb=>h.elim.qinj a b (by omega) (by omega)) (show c.toNat<n by omega);exact absurd e.symm (F a (by omega))
 have B:∀i:Nat,i<n->((i:Int)∈D↔Uu k (ix P) (T4 rows) r.toNat c.toNat i≠0):=fun i d=>by
  rw[U,qU];constructor
  . rintro⟨Y,_,_,t,u⟩;rw[RX (by omega) t,tI];exact fun o=>(xJ.1 o).elim u fun o=>by
     have:=vE _ W;rw[o,sE]at this;exact absurd this (by decide)
  . intro M;have F:¬(i=r.toNat\/∃a,a<k/\i=ix P a):=fun s=>M (qK s)
    refine⟨fun e=>F (.inl (by omega)),by omega,by omega,fun a l e=>F (.inr ⟨a,l,e⟩),fun o=>M ?_⟩;unfold Uu;rw[qH F,o,tI,rX]
 refine h.step z O X R g.lrows g.llow g.lcols (fun i d=> ?_) (fun i d=> ?_) (by omega) (fun i d=> ?_) fun j V=> ?_
 . rw[I];by_cases f:(i:Int)∈D
   . exact g.rd i d f
   . have o:Uu k (ix P) (T4 rows) r.toNat c.toNat i=0:=qM fun s=>f ((B i d).2 s)
     rw[g.ru i d f,o];obtain⟨w,y,T⟩:=h.can i d;exact⟨w,y,fun j=>L5 (T j) (by omega),fun j=>by rw[rX,tG,wN,rJ]⟩
 . rw[g.lo i d];by_cases f:(i:Int)∈D
   . rw[qK f,qH ((B i d).1 f)]
   . rw[qH f,qK (qM fun s=>f ((B i d).2 s))]
 . have N:=(h.can i d).2.2 (c.toNat:Int);rw[I];unfold Uu;split
   . exact N4 (by have:=oV N;omega)
   . exact L5 (Wz N ((h.can r.toNat (by omega)).2.2 (c.toNat:Int))) (by omega)
 . obtain⟨w,y⟩:=g.col j ((R j).1 V).1;refine⟨w,fun x=> ?_⟩;rw[y];constructor
   . rintro⟨Y,t,u,v,H⟩;refine⟨t,u,fun a l=> ?_,H⟩;by_cases J:a=k
     . subst J;rw[Nf E];omega
     . rw[Ap J];exact v a (by omega)
   . rintro⟨t,u,v,H⟩;refine⟨fun e=> ?_,t,u,fun a l=> ?_,H⟩
     . have:=v k (rM _);rw[Nf E,e]at this;exact this rfl
     . have:=v a (by omega);rwa[Ap (uC l)]at this
def EI.two (h:EI n k S A rest P Q place rows lower cols) {i j:Nat} (b:i<n) (c:j<n) (o:i≠j) (g:∀a,a<k->i≠ix P a) (l:∀a,a<k->j≠ix P a):k+2<=n:=by
 refine qM fun b=> ?_
 have b:=h.elim.kn;obtain⟨a,f,c,d,b⟩:=LI n (fun a=>if a<k then ix P a else if a=k then i else j) fun a _=>by
  split
  . rename_i c;exact h.elim.plt a c
  . split<;>assumption
 by_cases c:a<k
 . rw[qK c]at b;by_cases d:f<k
   . rw[qK d]at b;have:=h.elim.pinj a f c d b;omega
   . rw[qH d]at b;split at b
     . exact g a c b.symm
     . exact l a c b.symm
 . have d:¬f<k:=by omega
   rw[qH c,qH d]at b;have:a=k:=by omega
   rw[qK this,qH (by omega)]at b;exact o b
def Uk.qsR {n k T:Nat} {A R Lo:Nat->Nat->Rat} {p q:Nat->Nat} (h:Uk n k A p q R Lo) (I:Lj n n A T) {i j:Nat} (t:i<n) (M:j<n):qs (T+T) (R i j):=by
 have H:∀a,a<=k->a<n->(∀b,b<a->i≠p b)->(∀m,a<=m->m<k->Lo i m=0)->qs (T+T) (R i j):=fun a hak han hia hlo=>by
  have O:∀b,b<a->(if b=a then i else p b)=p b:=fun b d=>qH (by omega)
  have w:∀b,b<a->(if b=a then R i else R (p b))=R (p b):=fun b d=>qH (by omega)
  have z:∀b,b<a->(if b=a then j else q b)=q b:=fun b d=>qH (by omega)
  have E:∀b,b<=a->(if b=a then j else q b)<n:=fun b d=>by
   by_cases e:b=a
   . rw[qK e];exact M
   . rw[qH e];exact h.qlt b (by omega)
  have:=pQ (R:=n) (C:=n) (T:=T) (A:=A) (a:=a) (u:=fun b=>if b=a then R i else R (p b)) (X:=fun b=>if b=a then Lo i else Lo (p b)) (r:=fun b=>if b=a then i else p b) (l:=fun b=>if b=a then j else q b) I (fun b d=>by
   by_cases e:b=a
   . simp only[qK e];exact t
   . simp only[qH e];exact h.plt b (by omega)) E han han (fun b d m F=>by
   have y:=E m F;generalize (if m=a then j else q m)=c at y;by_cases e:b=a
   . simp only[e,wA];rw[h.dec i c t y,Cr hak fun f g o=>by rw[hlo f g o,rX]];congr 1;exact A8 fun f D=>by rw[w f D]
   . simp only[qH e];rw[h.dec (p b) c (h.plt b (by omega)) y,Cr (show b<=k by omega) fun f g o=>by rw[h.low b f (by omega) o g,rX]];congr 1;exact A8 fun f D=>by rw[w f (by omega)]) (fun b m F d=>by
   show(if b=a then R i else R (p b)) (if m=a then j else q m)=0;rw[z m (by omega)];by_cases e:b=a
   . rw[qK e];exact h.zero m i (by omega) t fun v J=>hia v (by omega)
   . rw[qH e];exact h.zero m (p b) (by omega) (h.plt b (by omega)) fun v J x=>by have:=h.pinj b v (by omega) (by omega) x;omega) (fun b d=>by
   show(if b=a then R i else R (p b)) (if b=a then j else q b)≠0;rw[w b d,z b d];exact h.piv b (by omega))
  simp only[wA]at this;exact this
 by_cases B:∃a,a<k/\i=p a
 . obtain⟨a,s,rfl⟩:=B;exact H a (by omega) (by have:=h.kn;omega) (fun b d x=>by have:=h.pinj a b s (by omega) x;omega) fun m g o=>h.low a m s o g
 . have G:∀a,a<k->i≠p a:=fun a s e=>B ⟨a,s,e⟩
   have N:k<n:=g3w h.kn fun e=>by
    subst e;obtain⟨a,s,f⟩:=W2 h.plt h.pinj t;exact G a s f.symm
   exact H k (qR _) N G fun m g o=>by omega
def Uk.qsL {n k T:Nat} {A R Lo:Nat->Nat->Rat} {p q:Nat->Nat} (h:Uk n k A p q R Lo) (B:Lj n n A T) (F:1<=T) {i m:Nat} (t:i<n) (D:m<k):qs (T+T) (Lo i m):=by
 by_cases y:∃a,a<=m/\i=p a
 . obtain⟨a,d,rfl⟩:=y;rw[h.low a m (by omega) D d];exact N4 (by omega)
 have E:∀a,a<=m->i≠p a:=fun a d e=>y ⟨a,d,e⟩
 have z:m<n:=by have:=h.kn;omega
 refine pP (R:=n) (C:=n) (T:=T) (A:=A) (a:=m) (u:=fun b=>R (p b)) (X:=fun b=>Lo (p b)) (r:=p) (l:=q) (s:=i) (x:=Lo i) B (fun b j=>h.plt b (by omega)) t (fun b j=>h.qlt b (by omega)) z z (fun b j c w=> ?_) (fun b c w j=> ?_) (fun b j=>h.piv b (by omega)) (fun c w=> ?_)
 . rw[h.dec (p b) (q c) (h.plt b (by omega)) (h.qlt c (by omega)),Cr (show b<=k by omega) fun f v g=>by rw[h.low b f (by omega) g v,rX]]
 . exact h.zero c (p b) (by omega) (h.plt b (by omega)) fun a d o=>by have:=h.pinj b a (by omega) (by omega) o;omega
 . rw[h.dec i (q c) t (h.qlt c (by omega)),h.zero c i (by omega) t fun a d=>E a (by omega),rJ,Cr (show m+1<=k by omega) fun f v g=>by rw[h.zero c (p f) (by omega) (h.plt f g) fun a d o=>by have:=h.pinj f a g (by omega) o;omega,sE],B9]
variable {n k s T:Nat} {S S':Nat->Nat} {A:Nat->Nat->Rat} {rest P Q place:List Int} {rows lower rows1 lower1:List (List D1)} {cols cols1 cols2:List Q6} {r c:Int}
def EI.resize (h:EI n k S A rest P Q place rows lower cols) (b:∀a,a<=k->S a=S' a):EI n k S' A rest P Q place rows lower cols:=
 { h with
   can:=fun i c=>by rw[<-b k (qR _)];exact h.can i c
   lq:=fun i c j=>by rw[<-b k (qR _)];exact h.lq i c j
   fin:=fun a c j=>by rw[<-b a (by omega)];exact h.fin a c j}
def EI.tight (h:EI n k S A rest P Q place rows lower cols) (d:1<=T) (b:Lj n n A T):EI n k (fun _=>T+T) A rest P Q place rows lower cols:=by
 have c:∀i,i<n->∀j:Int,qs (T+T) (A4 (rows.getD i []) j):=fun i a j=>by
  by_cases l:0<=j/\j<(n:Int)
  . have:=h.elim.qsR b a (show j.toNat<n by omega);unfold T4 at this;rwa[show((j.toNat:Nat):Int)=j from by omega]at this
  . rw[D2 fun e f g=>l (by rw[<-g];exact(h.can i a).2.1 e f)];exact N4 (by omega)
 exact {h with
  can:=fun i a=>⟨(h.can i a).1,(h.can i a).2.1,c i a⟩
  lq:=fun i a j=>by
   by_cases f:0<=j/\j<(k:Int)
   . have:=h.elim.qsL b d a (show j.toNat<k by omega);unfold T4 at this;rwa[show((j.toNat:Nat):Int)=j from by omega]at this
   . rw[D2 fun e b d=>f (by rw[<-d];exact(h.lcan i a).2 e b)];exact N4 (by omega)
  fin:=fun a b j=>c _ (h.elim.plt a b) j}
def CI.doneT (h:EI n k (fun _=>T+T) A rest P Q place rows lower cols) (i:1<=T) (d:Lj n n A T) (j:c∈rest) (l:r∈keys (cols.getD c.toNat [])) {D:List Int} (g:CI n k (T+T) rest P rows lower r c D rows1 lower1 cols1)
 (f:∀x:Int,x∈D↔x≠r/\0<=x/\x<(n:Int)/\(∀a,a<k->x.toNat≠ix P a)/\T4 rows x.toNat c.toNat≠0) {b:List Int} (o:b.Nodup) (s:∀x,x∈b↔x∈rest/\x≠c):
 EI n (k+1) (fun _=>T+T) A b (P.set k r) (Q.set k c) (place.set c.toNat k) rows1 lower1 cols1:=by
 have b:=h.resize (S':=fun a=>if a<=k then T+T else 4*(T+T)+1) fun a ha=>(qK ha).symm
 refine(CI.done b j l (D:=D) (by simp only[qK (qR k)];exact g) ?_ f o s).tight i d;simp only[qH (Nat.not_succ_le_self k),qK (qR k)]
def B3b {R C:Nat} (a:Lj R C A T) {i j:Nat} (b:i<R) (c:j<C):qs T (A i j):=by
 have:=a 1 (fun _=>i) (fun _=>j) (by omega) (by omega) (fun _ _=>b) (fun _ _=>c);rwa[show det 1 (fun _ _=>A i j)=A i j from by rw[det,B9,B9,det];show 0+1*A i j*1=A i j;grind]at this
def HX {α:Type} (l:List α) (i:Nat) (d:α):l.set i (l.getD i d)=l:=by
 refine g4j (by rw[qS]) fun j b a=> ?_
 rw[g4k];split
 . rename_i e;subst e;rw[P8 _ _ a]
 . rfl
def Qm {α:Type} {d:α} {l:List α} {t:Int} (a:0<=t) (b:t<(l.length:Int)):l.take (t+1).toNat=l.take t.toNat++ [gx d l t]:=by
 rw[show(t+1).toNat=t.toNat+1 from by omega,rR,H2 (d:=d) a b];rfl
def LA {l:List Int} {n:Nat} (h:l.Nodup) (f:∀x∈l,0<=x/\x<(n:Int)):l.length<=n:=by
 refine qM fun a=> ?_
 have b:∀a,a<n+1->a<l.length:=fun a ha=>by omega
 obtain⟨a,c,i,g,j⟩:=LI n (fun a=>(l.getD a 0).toNat) fun a ha=>by
  have:=f _ (E8 (d:=0) (b a ha));omega
 have i:=f _ (E8 (d:=0) (b a (by omega)));have i:=f _ (E8 (d:=0) (b c g));have f:l.getD a 0=l.getD c 0:=by omega
 rw[P8 _ _ (b a (by omega)),P8 _ _ (b c g)]at f;have:=(xV h).1 f;omega
def A8i (es:Q6):(keys es).length=es.length:=sY ..
def jI {es:Q6} {y:Int×Bool} (h:y∈es):y.1∈keys es:=vS (f:=fun e:Int×Bool=>e.1) h
def eV (n:Nat) (dd:List Nat):Prop:=∀i,i<n->i∉dd
abbrev NB:=List Q6×List Nat
abbrev NR:=List (List D1)×List Nat
variable {n k:Nat} {S:Nat->Nat} {A:Nat->Nat->Rat} {rest P Q place:List Int} {rows lower:List (List D1)} {cols:List Q6}
def pV {v:List D1} {m j:Int} (h:F8 v m) (b:A4 v j≠0):0<=j/\j<m:=qM fun a=>b (A5e h a)
def EI.more (h:EI n k S A rest P Q place rows lower cols) (u:k<n):0<rest.length:=by
 refine qM fun v=> ?_
 have o:rest= []:=qO (by omega);have g:∀c,c<n->∃a,a<k/\c=ix Q a:=fun c b=>qM fun hh=>by
  have:=(h.rmem (c:Int)).2 ⟨by omega,by omega,fun a ha e=>hh ⟨a,ha,by omega⟩⟩;rw[o]at this;cases this
 obtain⟨f,d⟩:∃f:Nat->Nat,∀c,c<n->f c<k/\c=ix Q (f c):=by
  refine⟨fun c=>if b:c<n then(g c b).choose else 0,fun c b=> ?_⟩;simp only[g4v b];exact(g c b).choose_spec
 obtain⟨a,i,s,t,l⟩:=LI k f fun a ha=>(d a (by omega)).1
 have j:=(d a (by omega)).2;have r:=(d i (by omega)).2;rw[l]at j;omega
def EI.okRow (h:EI n k S A rest P Q place rows lower cols) (d:S k<=K1) (a:n<=16384) {i:Nat} (f:i<n):JK K1 (rows.getD i []):=by
 obtain⟨a,b,c⟩:=h.can i f;have:=Ba (n:=(n:Int)) (v:=rows.getD i []) ⟨a.1,fun e he=>⟨(b e he).1,(b e he).2,(a.2 e he).1⟩⟩;exact⟨a.1,GN a fun j=>L5 (c j) d,by omega⟩
def EI.lowLen (h:EI n k S A rest P Q place rows lower cols) {i:Nat} (c:i<n):(lower.getD i []).length<=k:=by
 obtain⟨a,b⟩:=h.lcan i c;have:=Ba (n:=(k:Int)) (v:=lower.getD i []) ⟨a.1,fun e he=>⟨(b e he).1,(b e he).2,(a.2 e he).1⟩⟩;omega
def EI.colLen (h:EI n k S A rest P Q place rows lower cols) {c:Int} (b:c∈rest):(cols.getD c.toNat []).length<=n:=by
 obtain⟨d,a⟩:=h.col c b;rw[<-A8i];exact LA d fun x b=>⟨((a x).1 b).1,((a x).1 b).2.1⟩
def EI.pick (h:EI n k S A rest P Q place rows lower cols) {b:Nat} (a:b<rest.length):(rest.take b++rest.drop (b+1)).Nodup/\∀x,x∈rest.take b++rest.drop (b+1)↔x∈rest/\x≠rest.getD b 0:=by
 have j:rest=rest.take b++rest.getD b 0::rest.drop (b+1):=by
  rw[P8 _ _ a, <-xH a,uK]
 have d:=h.rnd;generalize rest.getD b 0=c at*;generalize rest.take b=u at*;generalize rest.drop (b+1)=v at*;subst j;rw[tO]at d;obtain⟨s,t,f⟩:=d;obtain⟨o,r⟩:=sH.1 t;refine⟨tO.2 ⟨s,r,fun g i b a=>f g i b (qL _ a)⟩,fun x=> ?_⟩;rw[qZ,qZ,qT];constructor
 . rintro(hx|hx)
   . exact⟨.inl hx,fun e=>f x hx c rH e⟩
   . exact⟨.inr (.inr hx),fun e=>o (e▸hx)⟩
 . rintro⟨hx|hx|hx,l⟩
   . exact .inl hx
   . exact absurd hx l
   . exact .inr hx
def DR (n:Nat) (rest:List Int) (Bs:Int->Int->Prop) (i:Int) (v:List D1) (p:Int×NB×Unit):Prop:=0<=p.1/\p.1<=(v.length:Int)/\p.2.1.1.length=n/\eV n p.2.1.2/\∀j:Int,j∈rest->(0<=j/\j<(n:Int))/\gH Bs i (v.take p.1.toNat) j (p.2.1.1.getD j.toNat [])
def ZJ (n:Nat) (rest:List Int) (Bs:Int->Int->Prop) (i:Int) (v:List D1) (p:Int×NB×Unit):Prop:=0<=p.1/\p.1<=(v.length:Int)/\p.2.1.1.length=n/\eV n p.2.1.2/\∀j:Int,j∈rest->(0<=j/\j<(n:Int))/\gG Bs i (v.take p.1.toNat) j (p.2.1.1.getD j.toNat [])
def MJ (n:Nat) (F:Nat->Int->Rat) (i:Int) (v:List D1) (p:Int×NB×Unit):Prop:=0<=p.1/\p.1<=(v.length:Int)/\p.2.1.1.length=n/\eV n p.2.1.2/\∀j:Int,0<=j->j<(n:Int)->bZ i F (v.take p.1.toNat) j (p.2.1.1.getD j.toNat [])
variable {Bs:Int->Int->Prop} {i t:Int} {v:List D1} {dd:List Nat} {F:Nat->Int->Rat}
def DR.rng (h:DR n rest Bs i v (t,(cols,dd),())) (c:∀e∈v,0<=e.1/\e.1<(n:Int)) (b:t<(v.length:Int)):(0<=t/\t<(v.length:Int))/\(0<=(gx D6 v t).1/\(gx D6 v t).1<((cols.length:Nat):Int))/\(gx D6 v t).1.toNat∉dd:=by
 have a:=c (gx D6 v t) (I7 (d:=D6) (i:=t) h.1 b);have c:cols.length=n:=h.2.2.1;exact⟨⟨h.1,b⟩,⟨a.1,by rw[c];exact a.2⟩,h.2.2.2.1 _ (by omega)⟩
def DR.next (h:DR n rest Bs i v (t,(cols,dd),())) (hv:∀e∈v,0<=e.1/\e.1<(n:Int)) (ht:t<(v.length:Int)):DR n rest Bs i v (t+1,(cols.set (gx D6 v t).1.toNat (Ng (.int .i64) i (cols.getD (gx D6 v t).1.toNat [])),dd),()):=by
 obtain⟨b,_,c,f,g⟩:=h;simp only at b c f g;refine⟨by simp only;omega,by simp only;omega,by simp only;rw[qS];exact c,f,fun j a=> ?_⟩;obtain⟨⟨l,o⟩,k⟩:=g j a;refine⟨⟨l,o⟩, ?_⟩;have r:=hv _ (I7 (d:=D6) b ht);simp only;rw[Qm (d:=D6) b ht];generalize gx D6 v t=e at*;by_cases a:e.1=j
 . subst a;rw[C4 (by omega)];exact A6j k rfl
 . rw[F4 (by omega)];exact A2t k a
def ZJ.rng (h:ZJ n rest Bs i v (t,(cols,dd),())) (c:∀e∈v,0<=e.1/\e.1<(n:Int)) (b:t<(v.length:Int)):(0<=t/\t<(v.length:Int))/\(0<=(gx D6 v t).1/\(gx D6 v t).1<((cols.length:Nat):Int))/\(gx D6 v t).1.toNat∉dd:=by
 have a:=c (gx D6 v t) (I7 (d:=D6) (i:=t) h.1 b);have c:cols.length=n:=h.2.2.1;exact⟨⟨h.1,b⟩,⟨a.1,by rw[c];exact a.2⟩,h.2.2.2.1 _ (by omega)⟩
def ZJ.next {b:Bool} (h:ZJ n rest Bs i v (t,(cols,dd),())) (hv:∀e∈v,0<=e.1/\e.1<(n:Int)) (ht:t<(v.length:Int)):ZJ n rest Bs i v (t+1,(cols.set (gx D6 v t).1.toNat (Er (.int .i64) i b (cols.getD (gx D6 v t).1.toNat [])),dd),()):=by
 obtain⟨c,_,f,g,k⟩:=h;simp only at c f g k;refine⟨by simp only;omega,by simp only;omega,by simp only;rw[qS];exact f,g,fun j a=> ?_⟩;obtain⟨⟨o,r⟩,l⟩:=k j a;refine⟨⟨o,r⟩, ?_⟩;have s:=hv _ (I7 (d:=D6) c ht);simp only;rw[Qm (d:=D6) c ht];generalize gx D6 v t=e at*;by_cases a:e.1=j
 . subst a;rw[C4 (by omega)];exact A6i l rfl
 . rw[F4 (by omega)];exact A2s l a
def MJ.rng (h:MJ n F i v (t,(cols,dd),())) (c:∀e∈v,0<=e.1/\e.1<(n:Int)) (b:t<(v.length:Int)):(0<=t/\t<(v.length:Int))/\(0<=(gx D6 v t).1/\(gx D6 v t).1<((cols.length:Nat):Int))/\(gx D6 v t).1.toNat∉dd:=by
 have a:=c (gx D6 v t) (I7 (d:=D6) (i:=t) h.1 b);have c:cols.length=n:=h.2.2.1;exact⟨⟨h.1,b⟩,⟨a.1,by rw[c];exact a.2⟩,h.2.2.2.1 _ (by omega)⟩
def MJ.next {b:Bool} (h:MJ n F i v (t,(cols,dd),())) (hv:∀e∈v,0<=e.1/\e.1<(n:Int)) (ht:t<(v.length:Int)):MJ n F i v (t+1,(cols.set (gx D6 v t).1.toNat (Er (.int .i64) i b (cols.getD (gx D6 v t).1.toNat [])),dd),()):=by
 obtain⟨a,_,c,f,g⟩:=h;simp only at a c f g;refine⟨by simp only;omega,by simp only;omega,by simp only;rw[qS];exact c,f,fun j o r=> ?_⟩;have s:=hv _ (I7 (d:=D6) a ht);simp only;rw[Qm (d:=D6) a ht];have k:=g j o r;generalize gx D6 v t=e at*;by_cases l:e.1=j
 . subst l;rw[C4 (by omega)];exact A6k k rfl
 . rw[F4 (by omega)];exact A2v k l
def HC (n:Nat) (p:Int×NB×List Int×Unit):Prop:=0<=p.1/\p.1<=(n:Int)/\p.2.1.1.length=n/\(∀j,p.2.1.1.getD j []= [])/\(∀i∈p.2.1.2,p.1<=(i:Int))/\p.2.2.1.length=n/\∀i:Nat,(i:Int)<p.1->p.2.2.1.getD i 0=(i:Int)
def HC.init:HC n (0,(List.replicate n [],Nj (Ty.mp false (Ty.int i64) false Ty.bool) n),List.replicate n 0,()):=by
 refine⟨by simp only;omega,by simp only;omega,by simp only;rw[rN],fun j=> ?_,fun i _=>qF i,by simp only;rw[rN],fun i a=> ?_⟩
 . simp only;rw[qE,uO];split<;>rfl
 . simp only at a;omega
def HC.next {left:List Int} (h:HC n (t,(cols,dd),left,())) (ht:t<(n:Int)):HC n (t+1,(cols.set t.toNat [],LS t.toNat dd),left.set t.toNat t,()):=by
 obtain⟨o,_,c,d,f,g,k⟩:=h;simp only at o c d f g k;refine⟨by simp only;omega,by simp only;omega,by simp only;rw[qS];exact c,fun j=> ?_,fun i b=> ?_,by simp only;rw[qS];exact g,fun i b=> ?_⟩
 . simp only;by_cases a:j=t.toNat
   . subst a;rw[C4 (by omega)]
   . rw[F4 a];exact d j
 . simp only at b⊢;obtain⟨l,r⟩:=VA.1 b;have:=f i l;omega
 . simp only at b⊢;by_cases a:i=t.toNat
   . subst a;rw[C4 (by omega)];omega
   . rw[F4 a];exact k i (by omega)
def BR (n:Nat) (D:List (List D1)) (p:Int×List (List D1)×NB×Unit):Prop:=0<=p.1/\p.1<=(n:Int)/\p.2.1.length=n/\(∀i:Nat,(i:Int)<p.1->JJ (A4 (D.getD i [])) (p.2.1.getD i []))/\p.2.2.1.1.length=n/\eV n p.2.2.1.2/\∀j:Int,0<=j->j<(n:Int)->bZ p.1 (fun i=>A4 (D.getD i [])) [] j (p.2.2.1.1.getD j.toNat [])
def BR.init {left:List Int} {D:List (List D1)} (h:HC n (t,(cols,dd),left,())) (s:(n:Int)<=t):BR n D (0,List.replicate n [],(cols,dd),()):=by
 obtain⟨g,_,b,c,d,k,l⟩:=h;simp only at g b c d k l;refine⟨by simp only;omega,by simp only;omega,by simp only;rw[rN],fun i f=>by simp only at f;omega,b,fun i f r=>by have:=d i r;omega,fun j u v=> ?_⟩;simp only;rw[c];refine⟨zU,fun x=>⟨fun a=>(by cases a),fun a=> ?_⟩⟩;rcases a with⟨w,y,_⟩ | ⟨_,e,o,_⟩
 . omega
 . cases o
def BR.row {D:List (List D1)} {rs:List (List D1)} (h:BR n D (t,rs,(cols,dd),())):MJ n (fun i=>A4 (D.getD i [])) t (D.getD t.toNat []) (0,(cols,dd),()):=by
 obtain⟨d,_,f,g,a,b,c⟩:=h;exact⟨qI _,qF _,a,b,fun j d f=>c j d f⟩
def BR.next {D:List (List D1)} {rs:List (List D1)} {cols2:List Q6} {dd2:List Nat} {u:Int} {w:List D1} (h:BR n D (t,rs,(cols,dd),())) (ht:t<(n:Int)) {m:Int} (hv:F8 (D.getD t.toNat []) m) (hw:JJ (A4 (D.getD t.toNat [])) w) (hf:MJ n (fun i=>A4 (D.getD i [])) t (D.getD t.toNat []) (u,(cols2,dd2),())) (hu:((D.getD t.toNat []).length:Int)<=u):BR n D (t+1,rs.set t.toNat w,(cols2,dd2),()):=by
 obtain⟨d,_,f,g,r,s,v⟩:=h;obtain⟨o,_,a,b,c⟩:=hf;simp only at d f g r s v o a b c;refine⟨by simp only;omega,by simp only;omega,by simp only;rw[qS];exact f,fun i x=> ?_,a,b,fun j y z=> ?_⟩
 . simp only at x⊢;by_cases l:i=t.toNat
   . subst l;rw[C4 (by omega)];exact hw
   . rw[F4 l];exact g i (by omega)
 . simp only;have k:=c j y z;rw[G9 hu]at k;exact A2u k d hv rfl
def B3h (n:Nat) (M:N7) (p:Int×List Int×List Int×List Int×List Int×List (List D1)×NR×NB×Unit):Prop:=0<=p.1/\p.1<=(n:Int)/\(∀s,1<=s->Lj n n (el M) s->EI n p.1.toNat (fun _=>s+s) (el M) p.2.1 p.2.2.1 p.2.2.2.1 p.2.2.2.2.1 p.2.2.2.2.2.1 p.2.2.2.2.2.2.1.1 p.2.2.2.2.2.2.2.1.1)/\eV n p.2.2.2.2.2.2.1.2/\eV n p.2.2.2.2.2.2.2.1.2
def B3h.init {M:N7} {left:List Int} {cols2:List Q6} {B:List Nat} {rs:List (List D1)} {u:Int} (y:B6 M) (V:OM M) (Q:M.1=(n:Int)) (P:M.2.1=(n:Int)) (h:HC n (t,(cols2,B),left,())) (X:(n:Int)<=t) (g:BR n M.2.2 (u,rs,(cols,dd),())) (A:(n:Int)<=u):B3h n M (0,left,List.replicate n 0,List.replicate n 0,List.replicate n 0,rs,(List.replicate n [],Nj (Ty.sl (.pair (.int .i64) (.pair (.pair .bool (.sl (.int .u32))) (.sl (.int .u32))))) n),(cols,dd),()):=by
 obtain⟨G,H,I,J,N,w,x⟩:=h;obtain⟨D,E,k,l,o,r,v⟩:=g;simp only at G H I J N w x D E k l o r v;have A:u=(n:Int):=by omega
 subst A;refine⟨qI _,qF _,fun s W O=> ?_,fun i a f=>(by cases f),r⟩;have U:(M.2.2.length:Int)=(n:Int):=by rw[y.2.2.2.2.1,Q]
 have b:∀i,i<n->F8 (M.2.2.getD i []) (n:Int):=fun i a=>by
  have f:=E8 (d:=([]:List D1)) (show i<M.2.2.length by omega);exact P▸y.2.2.2.2.2 _ f
 have T:∀(i:Nat) (j:Int),i<n->qs (s+s) (A4 (M.2.2.getD i []) j):=fun i j a=>by
  by_cases c:0<=j/\j<(n:Int)
  . have:=B3b O a (show j.toNat<n by omega);unfold el at this;rw[show((j.toNat:Nat):Int)=j from by omega]at this;exact L5 this (by omega)
  . rw[D2 fun e z R=>c (by rw[<-R];exact⟨((b i a).2 e z).1,((b i a).2 e z).2.1⟩)];exact N4 (by omega)
 exact EI.start (F:=fun i=>A4 (M.2.2.getD i [])) (fun i j _ _=>rfl) w (fun i a=>x i (by omega)) rN rN rN k rN o (fun i a=>l i (by omega)) (fun i j a c=>pV (b i a) c) (fun i j a=>T i j a) (fun i a=>by rw[qE,uO,qK a];rfl) v
def Oe:An:= {loop:= [(5,⟨[1,5,14,15],[],[(16,false,vI)],[],[(0, .row .bool 4)]⟩)]}
def QC:An:= {plan:= [(3,[0,1,2],[5],true,(.q 0 (.q 1 (.q 2 (.e 3 (.e 4 (.e 5 .done)))))))]}
def Rj:An:= {}
def Ek:A5 M6.args->Prop:=fun(x:ID)=>let b:=(x.1.length:Int);let a:=(0:Int);(iB (decide (b≠x.2.1)) (false=decide (G4 x.1 x.2.1)) ((a<=x.2.1/\x.2.1<=x.2.1/\(↑(1:Nat):Int)*x.2.1<=281474976710656/\x.2.1<=9223372036854775807)/\∃(I:B4p->Prop),∃(d: _->Nat),I (a,List.replicate x.2.1.toNat false,())/\∀(p:B4p),let h:=(decide (gx a x.1 p.1<a));let g:=(p.2.1.length:Int);let f:=(decide (x.2.1<=gx a x.1 p.1));let e:=(List.getD p.2.1 (gx a x.1 p.1).toNat false);let i:=(K4 h true f);let c:=(i64.wrap (p.1+1),List.set p.2.1 (gx a x.1 p.1).toNat true,());(Ty.int i64).wf p.1/\(List.length p.2.1<=9223372036854775807/\∀(x:Bool),x∈p.2.1->True)/\True->I p->(iB (decide (p.1<b)) ((a<=p.1/\p.1<b)/\(K4 h true f=false->a<=gx a x.1 p.1/\gx a x.1 p.1<g)/\(iB (K4 i true e) (false=decide (G4 x.1 x.2.1)) ((a<=gx a x.1 p.1/\gx a x.1 p.1<g)/\I c/\d c<d p))) (true=decide (G4 x.1 x.2.1)))))
def Xm:A5 De.args->Prop:=fun(x:A5c)=>let a:=(rv x.1-rv x.2.1*rv x.2.2.1);True/\Ed fun r=>r.1=(rv x.2.2.1).num.sign->(iB (decide (r.1=0)) ((rv x.2.2.1=(0:Rat)->x.1=x.1)/\(rv x.2.2.1≠(0:Rat)->x.1=rc a)) ((E7 x.2.1/\E7 x.2.2.1)/\I5 fun r=>r.1=rc (rv x.2.1*rv x.2.2.1)->(E7 x.1/\E7 r.1)/\I5 fun b=>b.1=rc (rv x.1-rv r.1)->(rv x.2.2.1=(0:Rat)->b.1=x.1)/\(rv x.2.2.1≠(0:Rat)->b.1=rc a)))
def Fv:A5 N5.args->Prop:=fun(x:B0r)=>let b:=(decide (x.1.1=x.2.1));let a:=(decide (x.1.2.1=x.2.1));(K4 b a false=true->True)/\∀(r:Ax),(K4 b a false=true->(True/\True)/\r.1=decide (B6 x.1))->K4 (K4 b a false) r.1 false=decide (sqr x.1 x.2.1)
def PI (l:List Int) (n t:Int) (s:List Bool):Prop:=0<=t/\t<=(l.length:Int)/\(s.length:Int)=n/\(∀i∈l.take t.toNat,0<=i/\i<n)/\(l.take t.toNat).Nodup/\∀k:Nat,(k:Int)<n->(s.getD k false=true↔(k:Int)∈l.take t.toNat)
def PI0 {l:List Int} {n:Int} (b:0<=n):PI l n 0 (List.replicate n.toNat false):=by
 refine⟨qI _,qF _,by rw[rN];omega,fun i a=>(by cases a),zU,fun k _=> ?_⟩;rw[qE,uO];constructor
 . intro h;split at h<;>cases h
 . intro h;cases h
def PS {l:List Int} {t:Int} (a:0<=t) (b:t<(l.length:Int)):l.take (t+1).toNat=l.take t.toNat++ [gx 0 l t]:=by
 rw[show(t+1).toNat=t.toNat+1 from by omega,rR,H2 (d:=(0:Int)) a b];rfl
def A5r {l:List Int} {n t:Int} {s:List Bool} (h:PI l n t s) (b:t<(l.length:Int)) (hb:gx 0 l t<0\/n<=gx 0 l t\/s.getD (gx 0 l t).toNat false=true):¬G4 l n:=by
 rintro⟨_,f,g⟩;obtain⟨c,_,_,_,_,j⟩:=h;have i:=I7 (d:=(0:Int)) c b;obtain⟨k,o⟩:=f _ i;rcases hb with hb|hb|hb
 . omega
 . omega
 . have:=(j (gx 0 l t).toNat (by omega)).1 hb;rw[show(((gx 0 l t).toNat:Nat):Int)=gx 0 l t from by omega]at this;have a:(l.take (t+1).toNat).Nodup:=g.take;rw[PS c b,tO]at a;exact a.2.2 _ this _ (qW.2 rfl) rfl
def pZ {l:List Int} {n t:Int} {s:List Bool} (h:PI l n t s) (b:t<(l.length:Int)) (j:0<=gx 0 l t) (o:gx 0 l t<n) (A:s.getD (gx 0 l t).toNat false=false):PI l n (t+1) (s.set (gx 0 l t).toNat true):=by
 obtain⟨c,E,w,z,x,g⟩:=h;have y:gx 0 l t∉l.take t.toNat:=fun hm=>by
  have:=(g (gx 0 l t).toNat (by omega)).2 (by rw[show(((gx 0 l t).toNat:Nat):Int)=gx 0 l t from by omega];exact hm);rw[A]at this;cases this
 refine⟨by omega,by omega,by rw[qS];exact w,fun i a=> ?_, ?_,fun k v=> ?_⟩
 . rw[PS c b,qZ,qW]at a;rcases a with a|rfl
   . exact z i a
   . exact⟨j,o⟩
 . rw[PS c b,tO];refine⟨x,by simp,fun B r D d u=> ?_⟩;rw[qW]at d;subst d u;exact y r
 . rw[PS c b,qZ,qW, <-g k v];by_cases f:(gx 0 l t).toNat=k
   . rw[f,qE,sG (by omega)];exact⟨fun _=> .inr (by omega),fun _=>rfl⟩
   . rw[qE,sR f, <-qE];exact⟨.inl,fun h=>h.resolve_right (by omega)⟩
def Kv (x:A5 M6.args) (r:awf M6.args x) (i:M6.pre x):Ek x:=by
 obtain⟨l,n,_⟩:=x;change List Int at l;change Int at n;obtain⟨g,o⟩:0<=n/\n<=16384:=i;simp only[Ek,iB];refine⟨fun h=> ?_,fun h=>⟨⟨g,qI _,by omega,by omega⟩, ?_⟩⟩
 . have h:=qA h;exact(rG fun a=>h a.1).symm
 . have h:=uY.1 (qB h);refine⟨fun p=>PI l n p.1 p.2.1,fun p=>((l.length:Int)-p.1).toNat,PI0 g, ?_⟩;rintro⟨t,s,_⟩ _ c;change Int at t;change List Bool at s;simp only at c⊢;obtain⟨j,u,k,_⟩:=id c;refine⟨fun b=> ?_,fun b=> ?_⟩
   . have b:=qA b;rw[L6,L6];refine⟨⟨j,b⟩,fun a=> ?_,fun a=> ?_,fun a=> ?_⟩
     . simp only[rD,rP]at a;omega
     . simp only[vM,rS]at a;exact(rG (A5r c b (by rcases a with(a|a) |a;exact .inl a;exact .inr (.inl a);exact .inr (.inr a)))).symm
     . simp only[rD,rP]at a;rw[wv (by omega)];exact⟨by omega,pZ c b (by omega) (by omega) a.2,by omega⟩
   . have b:=qB b;obtain⟨_,_,_,d,f,_⟩:=c;rw[G9 (by omega)]at d f;exact(rL ⟨h,d,f⟩).symm
def Lf (x:A5 M8.args) (k:awf M8.args x) (g:M8.pre x):En x:=by
 obtain⟨l,_⟩:=x;change List Int at l;have j:l.length<=100000:=g;simp only[En,iB];refine⟨⟨qF _,qI _,by omega,by omega⟩,fun p=>PI l (l.length:Int) p.1 p.2.1,fun p=>((l.length:Int)-p.1).toNat,PI0 (qF _), ?_⟩;rintro⟨t,s,_⟩ _ c;change Int at t;change List Bool at s;simp only at c⊢;obtain⟨h,n,i,_⟩:=id c;refine⟨fun b=> ?_,fun b=> ?_⟩
 . have b:=qA b;rw[L6,L6];refine⟨⟨h,b⟩,fun a=> ?_,fun a=> ?_,fun a=> ?_⟩
   . simp only[rD,rP]at a;omega
   . simp only[vM,rS]at a;exact(rG (A5r c b (by rcases a with(a|a) |a;exact .inl a;exact .inr (.inl a);exact .inr (.inr a)))).symm
   . simp only[rD,rP]at a;rw[wv (by omega)];exact⟨by omega,pZ c b (by omega) (by omega) a.2,by omega⟩
 . have b:=qB b;obtain⟨_,_,_,d,f,_⟩:=c;rw[G9 (by omega)]at d f;exact(rL ⟨rfl,d,f⟩).symm
def IG (x:A5 De.args) (j:awf De.args x) (u:De.pre x):Xm x:=by
 obtain⟨k,l,d,_⟩:=x;obtain⟨o,i,g⟩:sz K1 k/\sz K1 l/\sz K1 d:=u;have t:=HA j.2.1;have s:=HA j.2.2.1;simp only[Xm,iB,Ed,I5];refine⟨trivial, ?_⟩;rintro⟨r,_⟩ _ b;change Int at r;simp only at b⊢;refine⟨fun h=> ?_,fun h=>⟨⟨Z8 i (by decide),Z8 g (by decide)⟩, ?_⟩⟩
 . have h:=qA h;rw[b,B0c]at h;exact⟨fun _=>by trivial,fun a=>absurd h a⟩
 . have c:rv d≠0:=fun c=>qB h (by rw[b,B0c];exact c)
   rintro⟨p,_⟩ _ f;simp only at f⊢;subst f;refine⟨⟨Z8 o (by decide),R3 (EP (Pm t i (by decide)) (Pm s g (by decide))) (by decide)⟩, ?_⟩;rintro⟨q,_⟩ _ a;simp only at a⊢;refine⟨fun n=>absurd n c,fun _=> ?_⟩;rw[a,L9]
def mvE (p:List Int) (e:D1):D1:=(p.getD e.1.toNat 0,e.2)
def dR {p:List Int} (h:G4 p (p.length:Int)) {a i:Int} (b:0<=a) (f:a<(p.length:Int)) (g:0<=i) (j:i<(p.length:Int)):p.getD a.toNat 0=i↔a=((List.idxOf i p:Nat):Int):=by
 have b:a.toNat<p.length:=by omega
 constructor
 . intro g;have l:i∈p:=g▸E8 b;have j:=yN l;have k:p[List.idxOf i p]=i:=g0v j;rw[P8 _ _ b, <-k]at g;have:=(xV h.2.2).1 g;omega
 . intro g;have l:i∈p:=by
    obtain⟨b,f,r⟩:=W2 (n:=p.length) (q:=fun b=>(p.getD b 0).toNat) (fun b f=>by have:=h.2.1 _ (E8 (d:=0) f);omega) (fun b c f s o=>by
     have t:=h.2.1 _ (E8 (d:=0) f);have u:=h.2.1 _ (E8 (d:=0) s);have o:(p.getD b 0).toNat=(p.getD c 0).toNat:=o;have e:p.getD b 0=p.getD c 0:=by omega
     rw[P8 _ _ f,P8 _ _ s]at e;exact(xV h.2.2).1 e) (show i.toNat<p.length by omega)
    have t:=h.2.1 _ (E8 (d:=0) f);have r:(p.getD b 0).toNat=i.toNat:=r;rw[show i=p.getD b 0 from by omega];exact E8 f
   have j:=yN l;have k:p[List.idxOf i p]=i:=g0v j;rw[g,qU,P8 _ _ j,k]
def A0l {p:List Int} (h:G4 p (p.length:Int)):∀ {c:List D1},(∀e∈c,0<=e.1/\e.1<(p.length:Int))->∀i,A4 (c.map (mvE p)) i=if 0<=i/\i<(p.length:Int)then A4 c ((List.idxOf i p:Nat):Int)else 0
 | [],_,i=>by split<;>rfl
 |e::c,a,i=>by
  obtain⟨f,g⟩:=a e (rH ..);have b:=A0l h (fun x hx=>a x (qL _ hx)) i;rw[rW,A4,A4,b];have k:=h.2.1 _ (E8 (d:=0) (show e.1.toNat<p.length by omega));by_cases a:0<=i/\i<(p.length:Int)
  . rw[qK a,qK a];congr 1;show(if p.getD e.1.toNat 0=i then rv e.2 else 0)= _;by_cases b:p.getD e.1.toNat 0=i
    . rw[qK b,qK ((dR h f g a.1 a.2).1 b)]
    . rw[qH b,qH fun j=>b ((dR h f g a.1 a.2).2 j)]
  . rw[qH a,qH a,rJ];exact qH fun b=>a (by rw[<-b];exact k)
def Yn (x:A5 O2.args) (a7:awf O2.args x) (V:O2.pre x):Mu x:=by
 obtain⟨v,p,_⟩:=x;change List D1 at v;change List Int at p;have B:JK K1 v/\p.length<=100000:=V;obtain⟨B,W⟩:=B;simp only[Mu,iB,Nz,eW];refine⟨W, ?_⟩;rintro⟨r,_⟩ _ E;change Bool at r;simp only at E⊢;refine⟨fun n w=> ?_,fun n=>⟨.inl B, ?_⟩⟩
 . rw[E,rL w]at n;cases n
 have w:G4 p (p.length:Int):=by
  refine qM fun O=> ?_
  rw[E,rG O]at n;cases n
 rintro⟨c,_⟩ ⟨⟨y,_⟩,_⟩ b;change List D1 at c;simp only at b y⊢;have y:c.length<=9223372036854775807:=y;refine⟨fun q=>0<=q.1/\q.1<=(c.length:Int)/\q.2.1=(c.take q.1.toNat).map (mvE p)++c.drop q.1.toNat/\∀e∈c.take q.1.toNat,0<=e.1/\e.1<(p.length:Int),fun q=>((c.length:Int)-q.1).toNat,⟨qI _,qF _,rfl,fun e a=>(by cases a)⟩, ?_⟩;rintro⟨i,u,_⟩ _ ⟨N,Z,g,d⟩;change Int at i;change List D1 at u;simp only at N Z g d⊢;refine⟨fun k=> ?_,fun k=> ?_⟩
 . have k:=qA k;have o:i.toNat<c.length:=by omega
   have U:u.length=c.length:=by rw[g,rQ,sY,qY,sQ];omega
   have J:((c.take i.toNat).map (mvE p)).length=i.toNat:=by rw[sY,qY];omega
   have H:c.drop i.toNat=c.getD i.toNat D6::c.drop (i.toNat+1):=by rw[P8 _ _ o];exact xH o
   have T:u.getD i.toNat D6=c.getD i.toNat D6:=by
    rw[g,H,qE,tN (by omega),J,xM];rfl
   have F:c.getD i.toNat D6∈c:=E8 o;have G:0<=i/\i<(u.length:Int):=⟨N,by rw[U];exact k⟩;rw[T];refine⟨G,fun h _ l=> ?_,fun h=> ?_⟩
   . exfalso;rw[L6]at h;simp only[vM,rS]at h;have:=l (c.getD i.toNat D6).1 (by rw[<-b.2,H4 b.1.1 F];exact(b.1.2 _ F).1);omega
   . rw[L6]at h;simp only[rD,rP]at h;have l:0<=(c.getD i.toNat D6).1/\(c.getD i.toNat D6).1<(p.length:Int):=⟨by omega,by omega⟩;rw[wv (by omega),S9 l.1 l.2];have I:c.take (i+1).toNat=c.take i.toNat++ [c.getD i.toNat D6]:=by
      rw[show(i+1).toNat=i.toNat+1 from by omega];rw[rR,qN o,P8 _ _ o];rfl
     refine⟨l,G,⟨by omega,by omega, ?_,fun e a=> ?_⟩,by omega⟩
     . rw[I,g,H,vG,uS,g2q _ _ (by omega),J,xM,show(i+1).toNat=i.toNat+1 from by omega];rfl
     . rw[I]at a;rcases qZ.1 a with a|a
       . exact d e a
       . rw[qW]at a;subst a;exact l
 . have k:=qB k;rw[G9 (by omega)]at g d;rw[sF (by omega),wC]at g;subst g;have R:F8 c (p.length:Int):=⟨b.1.1,fun e a=>⟨(d e a).1,(d e a).2,(b.1.2 e a).1⟩⟩;refine⟨?_,fun a0 _ D X _ _=>⟨⟨⟨?_,fun e a=> ?_⟩,fun j=> ?_⟩,by trivial⟩⟩
   . have:=Ba R;have M:∀z:Nat,z=c.length->z<=100000:=fun z M=>by omega
     exact M _ (sY ..)
   . have A:(a0.map fun e:D1=>e.1).Nodup:=by
      rw[(D.map fun e:D1=>e.1).nodup_iff,List.map_map];have f:(c.map fun e:D1=>e.1).Nodup:=by
       unfold List.Nodup;rw[wR];exact b.1.1.imp fun h=>by omega
      unfold List.Nodup at f⊢;rw[wR]at f⊢;refine List.Pairwise.imp_of_mem (fun {s t} O Q P a=>P ?_) f;obtain⟨a2,a3⟩:=d s O;obtain⟨a4,a5⟩:=d t Q;have a:p.getD s.1.toNat 0=p.getD t.1.toNat 0:=a;rw[P8 _ _ (by omega),P8 _ _ (by omega)]at a;have:=(xV w.2.2).1 a;omega
     unfold List.Nodup at A;rw[wR]at A;refine List.Pairwise.imp₂ ?_ X A;intro s t f a6;have:s.1<=t.1:=by
      unfold N9 at f;split at f
      . omega
      . split at f<;>omega
     omega
   . obtain⟨a1,Y,rfl⟩:=tD.1 (D.mem_iff.1 a);exact b.1.2 a1 Y
   . rw[RE D,A0l w d];simp only[b.2]
def Vs:An:= {loop:= [(8,⟨[2,6,36],[0,2],[(37,false,vI)],[],[]⟩)],plan:= [(10,[2,5,8,11],[],true,(.p 0 (.p 1 (.q 2 (.p 3 (.p 4 (.q 5 (.p 6 (.p 7 (.q 8 (.p 9 (.p 10 (.q 11 (.p 12 (.p 13 .done))))))))))))))),(11,[10,21,22],[],true,(pZ9 0 10 (.q 10 (pZ9 11 10 (.q 21 (.q 22 (.e 23 (.p 24 (.p 25 .done)))))))))]}
abbrev B8a:=(List Int×List Int×MM×Int×Int×List (List EE))×Int×Unit
def Hv:A5 Q9.args->Prop:=fun(x:B8a)=>let h:=(1:Int);let e:Prop:=(false=true↔Y9 x.1 x.2.1);let d:=(0:Int);(d<=x.2.1/\x.2.1<=16384)/\Nz fun r=>r.1=decide (G4 x.1.1 x.2.1)->((!r.1)=false->d<=x.2.1/\x.2.1<=16384)/\∀(q:Ax),((!r.1)=false->(True/\True)/\q.1=decide (G4 x.1.2.1 x.2.1))->(iB ((K4 (!r.1) true !q.1)) (e) (True/\Nz fun n=>n.1=decide (sqr x.1.2.2.1 x.2.1)->((!n.1)=false->True)/\∀(s:Ax),((!n.1)=false->(True/\True)/\s.1=decide (sqr x.1.2.2.2 x.2.1))->(iB ((K4 (!n.1) true !s.1)) (e) (True/\I5 fun r=>r.1=ri h->∃(I:D9->Prop),∃(t: _->Nat),I (d,())/\∀(p:D9),let l:=(i64.wrap (p.1+h),());let j:=(gx [] x.1.2.2.1.2.2 p.1);let c:=(gx [] x.1.2.2.2.2.2 p.1);let k:=(decide ((gx D6 c d).1≠p.1));let i:=(↑c.length:Int);let a:=(↑j.length:Int);let g:=(decide (a=d));let b:=(gx D6 j (i64.wrap (a-h)));let f:=(decide (b.1≠p.1));(Ty.int i64).wf p.1/\True->I p->(iB (decide (p.1<x.2.1)) ((d<=p.1/\p.1<(x.1.2.2.1.2.2.length:Int))/\(d<=p.1/\p.1<(x.1.2.2.2.2.2.length:Int))/\(decide (a=d)=false->d<=i64.wrap (a-h)/\i64.wrap (a-h)<a)/\(K4 g true f=false->d<=i64.wrap (a-h)/\i64.wrap (a-h)<a)/\(K4 g true f=false->E7 b.2/\E7 r.1)/\∀(o:D9),let m:=(decide (o.1≠d));(K4 g true f=false->(R2 o.1/\True)/\o.1=QZ (rv b.2) (rv r.1))->(iB (K4 (K4 g true f) true m) (e) ((decide (i=d)=false->d<=d/\d<i)/\(iB (K4 (decide (i=d)) true k) (e) (I l/\t l<t p))))) ((true=true↔Y9 x.1 x.2.1)))))))
def Lr (x:A5 N5.args) (d:awf N5.args x) (_:N5.pre x):Fv x:=by
 obtain⟨m,n,_⟩:=x;change N7 at m;change Int at n;simp only[Fv,H8];refine⟨fun _=>trivial, ?_⟩;rintro⟨r,_⟩ c;change Bool at r;simp only at c⊢;by_cases a:m.1=n
 . by_cases b:m.2.1=n
   . rw[(c (by rw[rL a,rL b];rfl)).2,rL a,rL b,xO,xO];exact wK.2 ⟨fun h=>⟨a,b,h⟩,fun h=>h.2.2⟩
   . rw[rG b,Bool.and_false,g0q];exact(rG fun h=>b h.2.1).symm
 . rw[rG a,g0q,g0q];exact(rG fun h=>a h.1).symm
def jJ {v:List D1} (h:asc v) (g:v≠ []):gx D6 v ((v.length:Int)-1)∈v/\∀x∈v,x.1<=(gx D6 v ((v.length:Int)-1)).1:=by
 have n:0<v.length:=uP.2 g;have a:=H2 (d:=D6) (l:=v) (i:=(v.length:Int)-1) (by omega) (by omega);refine⟨I7 (by omega) (by omega),fun x j=> ?_⟩;obtain⟨k,c,rfl⟩:=vX.1 j;rw[show((v.length:Int)-1).toNat=v.length-1 from by omega]at a;have b:v[v.length-1]'(by omega)=gx D6 v ((v.length:Int)-1):=by
  rw[qN (by omega)]at a;exact yF a
 rw[<-b];by_cases f:k=v.length-1
 . subst f;exact qI _
 . exact wW (tR.1 h k (v.length-1) c (by omega) (by omega))
def A1f {v:List D1} {n:Int} (h:F8 v n) {i:Nat} (u:(i:Int)<n):(v≠ []/\(gx D6 v ((v.length:Int)-1)).1=(i:Int)/\rv (gx D6 v ((v.length:Int)-1)).2=1)↔(∀j:Nat,(j:Int)<n->i<j->A4 v (j:Int)=0)/\A4 v (i:Int)=1:=by
 constructor
 . rintro⟨c,f,a⟩;obtain⟨b,g⟩:=jJ h.1 c;refine⟨fun j _ w=>D2 fun e d t=> ?_, ?_⟩
   . have:=g e d;omega
   . rw[<-f,H4 h.1 b,a]
 . rintro⟨f,a⟩;have c:v≠ []:=fun e=>by subst e;rw[Om]at a;exact absurd a (by decide)
   obtain⟨b,g⟩:=jJ h.1 c;obtain⟨x,l,z⟩:=Yz (show A4 v (i:Int)≠0 from by rw[a];decide);have s:=g x l;obtain⟨o,r,k⟩:=h.2 _ b;have d:(gx D6 v ((v.length:Int)-1)).1=(i:Int):=by
    refine qM fun y=>k ?_
    have:=f (gx D6 v ((v.length:Int)-1)).1.toNat (by omega) (by omega);rw[show(((gx D6 v ((v.length:Int)-1)).1.toNat:Nat):Int)=(gx D6 v ((v.length:Int)-1)).1 from by omega,H4 h.1 b]at this;exact this
   refine⟨c,d, ?_⟩;rw[<-H4 h.1 b,d,a]
def B0w {v:List D1} {n:Int} (h:F8 v n) {i:Nat} :(v≠ []/\(gx D6 v 0).1=(i:Int))↔(∀j:Nat,j<i->A4 v (j:Int)=0)/\A4 v (i:Int)≠0:=by
 cases v with
 |nil=>exact⟨fun a=>absurd rfl a.1,fun a=>absurd (Om _) a.2⟩
 |cons e r=>
  have g:gx D6 (e::r) 0=e:=rfl;rw[g];have c:=(h.2 e rH);constructor
  . rintro⟨_,a⟩;exact⟨fun j k=>PF h.1 (by omega),by rw[<-a,Ao h.1];exact c.2.2⟩
  . rintro⟨a,d⟩;refine⟨by simp,qM fun f=> ?_⟩;rcases g3u f with b|b
    . refine c.2.2 ?_;rw[<-Ao h.1];have:=a e.1.toNat (by omega);rwa[show((e.1.toNat:Nat):Int)=e.1 from by omega]at this
    . exact d (PF h.1 b)
def kH (L U:N7) (n:Int) (i:Nat):Prop:=(∀j:Nat,(j:Int)<n->i<j->el L i j=0)/\el L i i=1/\(∀j:Nat,j<i->el U i j=0)/\el U i i≠0
def A3p {P Q:List Int} {L U:N7} {n:Int} (d:G4 P n) (f:G4 Q n) (g:sqr L n) (k:sqr U n):Y9 (P,Q,L,U) n↔∀i:Nat,(i:Int)<n->kH L U n i:=by
 constructor
 . rintro⟨_,_,_,_,h⟩ i a;exact⟨fun j b c=>(h i j a b).1 c,(h i i a a).2.1,fun j b=>(h i j a (by omega)).2.2.1 b,(h i i a a).2.2.2⟩
 . intro h;exact⟨d,f,g,k,fun i j a b=>⟨fun c=>(h i a).1 j b c,(h i a).2.1,fun b=>(h i a).2.2.1 j b,(h i a).2.2.2⟩⟩
def A0k {p q:Rat} :QZ p q=0↔p=q:=by
 unfold QZ;by_cases a:p<q
 . rw[qK a];exact⟨fun h=>by omega,fun h=>by subst h;exact absurd a (Rat.lt_irrefl)⟩
 . rw[qH a];by_cases b:q<p
   . rw[qK b];exact⟨fun h=>by omega,fun h=>by subst h;exact absurd b (Rat.lt_irrefl)⟩
   . rw[qH b];exact⟨fun _=>Rat.le_antisymm (Rat.not_lt.1 b) (Rat.not_lt.1 a),fun _=>rfl⟩
def KZ {p:Prop} (h:¬p):(false=true↔p):=⟨fun a=>(by cases a),fun hp=>absurd hp h⟩
def Qr (x:A5 Q9.args) (ar:awf Q9.args x) (a9:Q9.pre x):Hv x:=by
 obtain⟨⟨P,Q,L,U⟩,n,_⟩:=x;change N7 at L;change N7 at U;change Int at n;obtain⟨M,W,a7,am⟩:0<=n/\n<=16384/\T2 K1 L/\T2 K1 U:=a9;simp only[Hv,iB,I5,Nz,L6];refine⟨⟨M,W⟩, ?_⟩;rintro⟨af,_⟩ _ E;change Bool at af;simp only at E⊢;refine⟨fun _=>⟨M,W⟩, ?_⟩;rintro⟨ag,_⟩ l;change Bool at ag;simp only at l⊢;by_cases y:G4 P n
 case neg=>
  rw[E,rG y];exact⟨fun _=>KZ fun h=>y h.1,fun h=>by simp at h⟩
 have l:=(l (by rw[E,rL y];rfl)).2;by_cases H:G4 Q n
 case neg=>
  rw[l,rG H];exact⟨fun _=>KZ fun h=>H h.2.1,fun h=>by simp at h⟩
 rw[E,l,rL y,rL H];refine⟨fun h=>by simp at h,fun _=>⟨trivial, ?_⟩⟩;rintro⟨ah,_⟩ _ F;change Bool at ah;simp only at F⊢;refine⟨fun _=>trivial, ?_⟩;rintro⟨ai,_⟩ o;change Bool at ai;simp only at o⊢;by_cases k:sqr L n
 case neg=>
  rw[F,rG k];exact⟨fun _=>KZ fun h=>k h.2.2.1,fun h=>by simp at h⟩
 have o:=(o (by rw[F,rL k];rfl)).2;by_cases z:sqr U n
 case neg=>
  rw[o,rG z];exact⟨fun _=>KZ fun h=>z h.2.2.2.1,fun h=>by simp at h⟩
 rw[F,o,rL k,rL z];refine⟨fun h=>by simp at h,fun _=>⟨trivial, ?_⟩⟩;rintro⟨one,_⟩ _ N;change C7 at one;simp only at N⊢;have V:=A3p y H k z;obtain⟨ad,ae,Z⟩:=k;obtain⟨aj,ak,a1⟩:=z;have ao:(L.2.2.length:Int)=n:=Z.2.2.2.2.1.trans ad;have aq:(U.2.2.length:Int)=n:=a1.2.2.2.2.1.trans aj;have X:rv one=1:=by rw[N];exact kN 1
 have aa:E7 one:=by rw[N, <-dV];exact R3 (EO (by decide)) (by decide)
 refine⟨fun p=>0<=p.1/\p.1<=n/\∀i:Nat,(i:Int)<p.1->kH L U n i,fun p=>(n-p.1).toNat,⟨qI _,M,fun i T=>by omega⟩, ?_⟩;rintro⟨t,_⟩ _ r;change Int at t;simp only at r⊢;obtain⟨A,au,r⟩:=r;refine⟨fun u=> ?_,fun u=> ?_⟩
 . have u:=qA u;have Y:F8 (gx [] L.2.2 t) n:=by have:=Z.2.2.2.2.2 _ (I7 (d:= []) A (show t<(L.2.2.length:Int)by omega));rwa[ae]at this
   have ac:F8 (gx [] U.2.2 t) n:=by have:=a1.2.2.2.2.2 _ (I7 (d:= []) A (show t<(U.2.2.length:Int)by omega));rwa[ak]at this
   have ab:=a7 _ (I7 (d:= []) A (show t<(L.2.2.length:Int)by omega));have R:((t.toNat:Nat):Int)=t:=by omega
   have a0:=A1f Y (i:=t.toNat) (by omega);have a2:=B0w ac (i:=t.toNat);rw[R]at a0 a2;have G:kH L U n t.toNat↔((∀j:Nat,(j:Int)<n->t.toNat<j->A4 (gx [] L.2.2 t) (j:Int)=0)/\A4 (gx [] L.2.2 t) t=1)/\(∀j:Nat,j<t.toNat->A4 (gx [] U.2.2 t) (j:Int)=0)/\A4 (gx [] U.2.2 t) t≠0:=by
    unfold kH el;rw[R];exact(and_assoc (a:=∀j:Nat,(j:Int)<n->t.toNat<j->A4 (L.2.2.getD t.toNat []) (j:Int)=0)).symm
   rw[<-a0, <-a2]at G;have O:¬kH L U n t.toNat->¬Y9 (P,Q,L,U) n:=fun h hh=>h (V.1 hh t.toNat (by omega))
   have f:∀ {v:List D1},((v.length:Int)=0)↔v= []:=fun {v} =>⟨fun h=>qO (by omega),fun h=>by rw[h];rfl⟩
   have an:=Ba Y;have w:(gx [] L.2.2 t)≠ []->i64.wrap (((gx [] L.2.2 t).length:Int)-1)=((gx [] L.2.2 t).length:Int)-1:=fun h=>by
    have:=uP.2 h;exact wv (by omega)
   refine⟨⟨A,by omega⟩,⟨A,by omega⟩,fun h=> ?_,fun h=> ?_,fun h=> ?_, ?_⟩
   . have h:=mt f.2 (qB h);have:=uP.2 h;rw[w h];omega
   . simp only[rD]at h;have h:=mt f.2 (qB h.1);have:=uP.2 h;rw[w h];omega
   . simp only[rD]at h;have h:=mt f.2 (qB h.1);have ap:=uP.2 h;rw[w h];exact⟨Z8 (ab _ (I7 (by omega) (by omega))) (by decide),aa⟩
   rintro⟨c,_⟩ b;change Int at c;simp only at b⊢;refine⟨fun h=>KZ (O fun s=> ?_),fun h=>⟨fun g=>⟨qI _, ?_⟩,fun g=>KZ (O fun s=> ?_),fun g=> ?_⟩⟩
   . obtain⟨⟨D,J,a6⟩,_⟩:=G.1 s;rw[w D]at b h;have B:decide (((gx [] L.2.2 t).length:Int)=0)=false:=rG (mt f.1 D);have I:decide ((gx D6 (gx [] L.2.2 t) (((gx [] L.2.2 t).length:Int)-1)).1≠t)=false:=rG (by rw[uY];exact J);rw[B,I]at b h;have b:=(b rfl).2;rw[X,a6]at b;rw[b,A0k.2 rfl]at h;simp at h
   . have:=mt f.2 (qB g);have:=uP.2 this;omega
   . obtain⟨_,D,J⟩:=G.1 s;rw[rG (mt f.1 D),rG (by rw[uY];exact J)]at g;simp at g
   . simp only[rD]at h g;have B:=mt f.2 (qB h.1.1);rw[w B]at b h;have I:=uY.1 (qB h.1.2);have a3:=uY.1 (qB h.2);have b:=(b (by rw[h.1.1,h.1.2];rfl)).2;rw[a3,X]at b;have a4:=mt f.2 (qB g.1);have a5:=uY.1 (qB g.2);have s:=G.2 ⟨⟨B,I,A0k.1 b.symm⟩,a4,a5⟩;rw[wv (by omega)];refine⟨⟨by omega,by omega,fun i T=> ?_⟩,by omega⟩;by_cases a8:i=t.toNat
     . subst a8;exact s
     . exact r i (by omega)
 . have u:=qB u;exact⟨fun _=>V.2 fun i T=>r i (by omega),fun _=>trivial⟩
noncomputable def AS:H1:= [(97,Ar)]
def Zz:An:= {loop:= [(3,⟨[1,3,24],[0,1,2,3,4,5,6,7,8,9,10,13],[(25,false,vI)],[],[(11, .nest (.mp false (.int .i64) false .bool) 134 4),(12, .row (.int .i64) 3)]⟩),(13,⟨[3,5,44,45,46,59,60],[0,1,2,3,4,5,6,7,9,10,12,13],[(61,false,vI)],[],[(11, .nest (.mp false (.int .i64) false .bool) 134 4)]⟩),(9,⟨[3,44,45],[0,1,2,3,4,5,6,7,10,12,13],[(46,false,vI)],[],[(9, .row (.sl tE) 67),(11, .nest (.mp false (.int .i64) false .bool) 134 4)]⟩)],plan:= [(1,[1,4,7,10],[],true,(.p 0 (.q 1 (.p 3 (.q 4 (.p 6 (.q 7 (.p 9 (.q 10 (.al [2,5,8,11] [12] (.e 13 (.p 14 .done)))))))))))),(11,[3],[8],true,(pZ9 0 3 (.q 3 (.p 4 (.p 5 (.e 6 (.p 7 (.e 8 .done)))))))),(15,[3,5],[9],false,(pZ9 0 3 (.q 3 (.p 4 (.q 5 (.p 6 (.p 8 (.e 7 (.e 9 .done)))))))))]}
noncomputable def Sr:H1:= []
def Rc:An:= {plan:= [(1,[0,3,4,7,10],[],false,(.q 0 (.p 1 (.p 2 (.q 3 (.q 4 (.p 5 (.p 6 (.q 7 (.p 8 (.p 9 (.q 10 (.p 11 (.e 12 (.e 13 (.p 14 .done))))))))))))))))]}
noncomputable def Ss:H1:= []
def Re:An:= {plan:= [(1,[0,3,4,7,10],[],false,(.q 0 (.p 1 (.p 2 (.q 3 (.q 4 (.p 5 (.p 6 (.q 7 (.p 8 (.p 9 (.q 10 (.p 11 (.e 12 (.e 13 (.p 14 .done))))))))))))))))]}
noncomputable def Su:H1:= []
def Rf:An:= {plan:= [(1,[0,3,4,7,10],[],false,(.q 0 (.p 1 (.p 2 (.q 3 (.q 4 (.p 5 (.p 6 (.q 7 (.p 8 (.p 9 (.q 10 (.p 11 (.e 12 (.e 13 (.p 14 .done))))))))))))))))]}
noncomputable def Sv:H1:= []
def Rh:An:= {plan:= [(1,[0,3,4,7,10],[],false,(.q 0 (.p 1 (.p 2 (.q 3 (.q 4 (.p 5 (.p 6 (.q 7 (.p 8 (.p 9 (.q 10 (.p 11 (.e 12 (.e 13 (.p 14 .done))))))))))))))))]}
noncomputable def AT:H1:= [(98,Ez (BM ⟨prog,OW⟩ [(20,Sr,Rc),(23,Ss,Re),(28,Su,Rf),(33,Sv,Rh)] f98.results.toList (f98.body.getD .skip) f98.ntmps))]
def AA:An:= {join:= [(8,⟨[1,6,14,15],[1,2,3,4,5,6,7,9,10,13,14,15],[(5,false,vI)],[],[(11, .nest (.mp false (.int .i64) false .bool) 134 4)]⟩),(10,⟨[1,6],[1,2,3,4,5,6,7,9,10,13,14,15],[(5,false,vI)],[],[(11, .nest (.mp false (.int .i64) false .bool) 134 4)]⟩),(14,⟨[1,3],[1,2,3,4,5,6,7,15],[],[(13,100,[.fix 9, .fix 10, .fix 11, .own (.int .i64) 3])],[(9, .row (.sl tE) 67),(10, .nest (.sl tE) 67 70),(11, .nest (.mp false (.int .i64) false .bool) 134 4)]⟩),(20,⟨[3],[1,2,3,4,5,6,7,9,10,13,17],[(2,false,vI)],[],[(11, .nest (.mp false (.int .i64) false .bool) 134 4)]⟩)],loop:= [(4,⟨[1,6,14],[1,2,3,4,5,6,7,9,10,13,14,15],[(5,false,vI),(15,false,vI)],[],[(11, .nest (.mp false (.int .i64) false .bool) 134 4)]⟩),(16,⟨[1,3,66],[1,2,3,4,5,6,7,9,10,11,13,15,17],[(2,false,vI)],[],[(19, .itM false (.int .i64) false .bool 18)]⟩)],plan:= [(13,[1,4,7,10],[14,17],false,(.q 1 (.p 2 (.p 3 (.q 4 (.p 5 (.p 6 (.q 7 (.p 8 (.p 9 (.q 10 (pZ9 11 3 (.or 0 (.e 14 (.p 15 (.p 16 (.e 17 .done)))) (.e 14 (.e 0 (.p 15 (.p 16 (.e 17 .done)))))))))))))))))),(18,[3,6,9,11,14,17,22,25,28,30,33,36],[],true,(pZ9 0 3 (.q 3 (.p 4 (.p 5 (.q 6 (.p 7 (.p 8 (.q 9 (.p 10 (.q 11 (.p 12 (.p 13 (.q 14 (.p 15 (.p 16 (.q 17 (pZ9 18 4 (.q 22 (.p 23 (.p 24 (.q 25 (.p 26 (.p 27 (.q 28 (.p 29 (.q 30 (.p 31 (.p 32 (.q 33 (.p 34 (.p 35 (.q 36 (pZ9 37 8 .done))))))))))))))))))))))))))))))))))]}
noncomputable def Sw:H1:= []
def Ri:An:= {loop:= [(1,⟨[0,2,6,7],[1,2,3,4,5,6,7,9,10,13,15,16,17],[(8,false,vI)],[],[(11, .nest (.mp false (.int .i64) false .bool) 134 4)]⟩)],plan:= [(3,[0,3,5],[9],false,(.q 0 (.p 1 (.p 2 (.q 3 (.p 4 (.q 5 (.p 6 (.p 8 (.e 7 (.e 9 .done)))))))))))]}
noncomputable def Qk:H1:= []
def Od:An:= {loop:= [(1,⟨[0,2,6,7],[1,2,3,4,5,6,7,9,10,13,15,16,17,18,19],[(8,false,vI)],[],[(11, .nest (.mp false (.int .i64) false .bool) 134 4)]⟩)],plan:= [(3,[0,3,5],[9],false,(.q 0 (.p 1 (.p 2 (.q 3 (.p 4 (.q 5 (.p 6 (.p 8 (.e 7 (.e 9 .done)))))))))))]}
noncomputable def AU:H1:= [(36,X7),(38,S6),(96,K3),(100,X6),(101,Cs),(99,Ez (BM ⟨prog,OW⟩ [(29,Sw,Ri),(107,Qk,Od)] f99.results.toList (f99.body.getD .skip) f99.ntmps))]
def AB:An:= {join:= [(10,⟨[1,3,4,8,9,10],[1,2,3,4,5,6,7,9,10,13,15,16,17,18],[(12,false,[.own (.int .i64) 3])],[],[(11, .nest (.mp false (.int .i64) false .bool) 134 4)]⟩),(14,⟨[1,3,4,8,9,10,15,53,54,55],[1,2,3,4,5,6,7,9,10,11,13,15,16,17,18,19],[(16,false,[.fixB 20])],[(20,31,[.val .bool, .val (.sl (.int .u32)), .val (.sl (.int .u32))])],[]⟩),(15,⟨[1,3,4,8,9,10,15,16,53,54,55],[1,2,3,4,5,6,7,9,11,13,15,16,17,18,19,20],[],[],[(10, .nest (.sl tE) 67 70)]⟩)],loop:= [(7,⟨[1,3,4,8,9,10,44],[1,2,3,4,5,6,7,9,10,11,13,15,16,17,18],[(12,false,[.own (.int .i64) 3])],[],[(20, .itM false (.int .i64) false .bool 19)]⟩),(18,⟨[1,3,4,8,9,10,15,53,54,55,114,115],[1,2,3,4,5,6,7,9,10,13,15,16,17,18,19],[(116,false,vI)],[],[(11, .nest (.mp false (.int .i64) false .bool) 134 4)]⟩),(11,⟨[1,3,4,8,9,10,53,54],[1,2,3,4,5,6,7,13,15,16,17,18,19],[(55,false,vI)],[],[(9, .row (.sl tE) 67),(10, .nest (.sl tE) 67 70),(11, .nest (.mp false (.int .i64) false .bool) 134 4)]⟩)],plan:= [(13,[0,3,6,9],[12],true,(.q 0 (.p 1 (.p 2 (.q 3 (.p 4 (.p 5 (.q 6 (.p 7 (.q 9 (.or 8 (.or 10 (.e 11 (.e 12 .done)) (.e 11 (.e 10 (.e 12 .done)))) (.e 11 (.e 8 (.e 10 (.e 12 .done))))))))))))))),(14,[5,8,13],[16,18],false,(.p 4 (.q 5 (.p 6 (.p 7 (.q 8 (.p 9 (.p 10 (.p 12 (.q 13 (.p 14 (.or 0 (.p 1 (.p 2 (.or 3 (.or 11 (.e 15 (.e 16 (.p 17 (.e 18 .done)))) (.e 15 (.e 11 (.e 16 (.p 17 (.e 18 .done)))))) (.or 11 (.or 3 (.e 15 (.e 16 (.p 17 (.e 18 .done)))) (.e 15 (.or 3 (.e 16 (.p 17 (.e 18 .done))) (.e 16 (.e 3 (.p 17 (.e 18 .done))))))) (.e 15 (.or 3 (.e 11 (.e 16 (.p 17 (.e 18 .done)))) (.e 11 (.or 3 (.e 16 (.p 17 (.e 18 .done))) (.e 16 (.e 3 (.p 17 (.e 18 .done)))))))))))) (.or 11 (.or 0 (.p 1 (.p 2 (.or 3 (.e 15 (.e 16 (.p 17 (.e 18 .done)))) (.e 15 (.or 3 (.e 16 (.p 17 (.e 18 .done))) (.e 16 (.e 3 (.p 17 (.e 18 .done))))))))) (.e 15 (.or 0 (.p 1 (.p 2 (.or 3 (.e 16 (.p 17 (.e 18 .done))) (.e 16 (.e 3 (.p 17 (.e 18 .done))))))) (.e 16 (.e 0 (.p 1 (.p 2 (.e 3 (.p 17 (.e 18 .done)))))))))) (.e 15 (.or 0 (.p 1 (.p 2 (.or 3 (.e 11 (.e 16 (.p 17 (.e 18 .done)))) (.e 11 (.or 3 (.e 16 (.p 17 (.e 18 .done))) (.e 16 (.e 3 (.p 17 (.e 18 .done))))))))) (.e 11 (.or 0 (.p 1 (.p 2 (.or 3 (.e 16 (.p 17 (.e 18 .done))) (.e 16 (.e 3 (.p 17 (.e 18 .done))))))) (.e 16 (.e 0 (.p 1 (.p 2 (.e 3 (.p 17 (.e 18 .done)))))))))))))))))))))))),(15,[0,3,5,8,11,12,14],[17],true,(.q 0 (.p 1 (.p 2 (.q 3 (.p 4 (.q 5 (.p 6 (.p 7 (.q 8 (.p 9 (.p 10 (.q 11 (.q 12 (.q 14 (.e 13 (.e 15 (.p 16 (.e 17 .done))))))))))))))))))),(20,[0,3,5],[9],false,(.q 0 (.p 1 (.p 2 (.q 3 (.p 4 (.q 5 (.p 6 (.p 8 (.e 7 (.e 9 .done)))))))))))]}
def Oc:An:= {join:= [(13,⟨[2,5,6,7,8,45,46],[1,2,3,4,5,6,7],[(9,false,vI),(10,false,vI),(11,false,[.val .bool])],[(13,100,[.fix 9, .fix 10, .fix 11, .own (.int .i64) 3])],[(9, .row (.sl tE) 67),(10, .nest (.sl tE) 67 70),(11, .nest (.mp false (.int .i64) false .bool) 134 4)]⟩),(16,⟨[2,5,6,7,8,9,10,45,46],[1,4,5,6,9,10,11,13,15],[],[],[(2, .row (.int .i64) 3),(3, .row (.int .i64) 3),(7, .row (.int .i64) 3)]⟩),(22,⟨[2,5,6,7,12,13,79,80,81],[1,2,3,5,6,9,11,13,14],[],[],[(4, .row (.sl tE) 67),(10, .nest (.sl tE) 67 70)]⟩)],loop:= [(10,⟨[2,5,6,7,45],[1,4,5,6],[(46,false,vI)],[(13,100,[.fix 9, .fix 10, .fix 11, .own (.int .i64) 3])],[(2, .row (.int .i64) 3),(3, .row (.int .i64) 3),(7, .row (.int .i64) 3),(9, .row (.sl tE) 67),(10, .nest (.sl tE) 67 70),(11, .nest (.mp false (.int .i64) false .bool) 134 4)]⟩),(19,⟨[2,5,7,79,80],[1,2,3,6,9,11,13,14],[(6,false,[.val (.sl (.int .i64))]),(81,false,vI)],[],[(4, .row (.sl tE) 67),(5, .row (.sl tE) 67),(10, .nest (.sl tE) 67 70)]⟩)],plan:= [(6,[],[16],true,(.p 0 (.p 2 (pZ9 4 3 (pZ9 9 3 (.al [1,3,7,12,15] [8,13,14] (.e 16 .done))))))),(15,[1],[12,14,16],false,(.p 0 (.q 1 (.p 2 (.p 3 (pZ9 5 7 (.or 4 (.e 12 (.p 13 (.e 14 (.p 15 (.e 16 .done))))) (.e 12 (.e 4 (.p 13 (.e 14 (.p 15 (.e 16 .done))))))))))))),(21,[7],[15,17],false,(.p 0 (.p 1 (pZ9 3 4 (.q 7 (.p 8 (.p 9 (.p 11 (.or 2 (.or 10 (.e 12 (.p 13 (.e 14 (.e 15 (.p 16 (.e 17 .done)))))) (.e 12 (.p 13 (.or 10 (.e 14 (.e 15 (.p 16 (.e 17 .done)))) (.e 14 (.e 10 (.e 15 (.p 16 (.e 17 .done))))))))) (.or 10 (.or 2 (.e 12 (.p 13 (.e 14 (.e 15 (.p 16 (.e 17 .done)))))) (.e 12 (.p 13 (.or 2 (.e 14 (.e 15 (.p 16 (.e 17 .done)))) (.e 14 (.or 2 (.e 15 (.p 16 (.e 17 .done))) (.e 15 (.e 2 (.p 16 (.e 17 .done)))))))))) (.e 12 (.p 13 (.or 2 (.or 10 (.e 14 (.e 15 (.p 16 (.e 17 .done)))) (.e 14 (.e 10 (.e 15 (.p 16 (.e 17 .done)))))) (.or 10 (.or 2 (.e 14 (.e 15 (.p 16 (.e 17 .done)))) (.e 14 (.or 2 (.e 15 (.p 16 (.e 17 .done))) (.e 15 (.e 2 (.p 16 (.e 17 .done))))))) (.e 14 (.or 2 (.e 10 (.e 15 (.p 16 (.e 17 .done)))) (.e 10 (.or 2 (.e 15 (.p 16 (.e 17 .done))) (.e 15 (.e 2 (.p 16 (.e 17 .done)))))))))))))))))))))),(22,[2,7,10],[17],true,(.p 0 (.p 1 (.q 2 (pZ9 3 4 (.q 7 (.p 8 (.p 9 (.q 10 (.p 11 (.e 12 (pZ9 13 4 (.e 17 .done)))))))))))))]}
noncomputable def Qj:H1:= [(35,O1),(52,O9),(60,O2),(57,Ez (BM ⟨prog,OW⟩ [(44,AS,Zz)] f57.results.toList (f57.body.getD .skip) f57.ntmps)),(58,Ez (BM ⟨prog,OW⟩ [(51,AT,AA)] f58.results.toList (f58.body.getD .skip) f58.ntmps)),(59,Ez (BM ⟨prog,OW⟩ [(76,AU,AB)] f59.results.toList (f59.body.getD .skip) f59.ntmps))]
abbrev B9y:=(List (List EE)×List Nat)×Unit
abbrev C0g:=Int×(List (Int×Bool)×List (Int×Bool))×Unit
abbrev C0h:=Int×(List (List (Int×Bool))×List Nat)×List Int×Unit
abbrev IC:=Int×(List (List (Int×Bool))×List Nat)×Unit
abbrev C0i:=Int×Int×(List (List (Int×Bool))×List Nat)×Unit
abbrev C0j:=Int×Int×Bool×List Int×List (List EE)×(List (List EE)×List Nat)×(List (List (Int×Bool))×List Nat)×Unit
abbrev C0m:=Int×List (List EE)×(List (List (Int×Bool))×List Nat)×Unit
abbrev C0n:=Int×List (List EE)×(List (List EE)×List Nat)×(List (List (Int×Bool))×List Nat)×Unit
abbrev C0o:=Int×List Int×List Int×List Int×List Int×List (List EE)×(List (List EE)×List Nat)×(List (List (Int×Bool))×List Nat)×Unit
abbrev C0q:=List (List EE)×(List (List EE)×List Nat)×Unit
abbrev C0u:=List Int×(List (Int×Bool)×List (Int×Bool))×Unit
abbrev C0v:=List Int×(List (List (Int×Bool))×List Nat)×Unit
abbrev C1b:=List Int×Int×List (List EE)×List (List EE)×(List (List EE)×List Nat)×Unit
abbrev C1f:=List Int×List (List EE)×(List (List EE)×List Nat)×(List (List (Int×Bool))×List Nat)×Unit
abbrev C1g:=List Int×List Int×List Int×Unit
def Gy:A5 Q5.args->Prop:=fun(x:Ci)=>let ai:=(64:Nat);let bd:=(281474976710656:Int);let bb:=x.1.2.1.toNat;let ac:=(6:Int);let ab:=(4:Int);let b7:=(9223372036854775807:Int);let ba:=(x.1.2.2.length:Int);let ad:=x.1.1.toNat;let X:=(140737488355328:Nat);let Q:Prop:=(∀(v:List EE),v∈ []->T1 v);let D:=(1:Int);let d:=(0:Int);let V:Prop:=(d<=x.1.2.1/\x.1.2.1<=x.1.2.1/\(↑(8:Nat):Int)*x.1.2.1<=bd/\x.1.2.1<=b7);let F:Prop:=(d<=x.1.1/\x.1.1<=x.1.1/\(↑(8:Nat):Int)*x.1.1<=bd/\x.1.1<=b7);let A:Prop:=(∀(T:Nat),(1:Nat)<=T->Lj x.1.1.toNat x.1.1.toNat (el x.1) T->∀(i j:Nat),i<x.1.1.toNat->qs (T+T) (el (d,d,[]) i j)/\qs (T+T) (el (d,d,[]) i j));let t:Prop:=(d<=x.1.1/\x.1.1<=x.1.1/\(↑(24:Nat):Int)*x.1.1<=bd/\x.1.1<=b7);True/\∀(r:Ax),True/\True->r.1=decide (B6 x.1)->((!r.1)=true->(¬B6 x.1->([],[],(d,d,[]),d,d,[])=YJ/\D=D)/\(B6 x.1->(x.1.1≠x.1.2.1->([],[],(d,d,[]),d,d,[])=YJ/\D=ab)/\(x.1.1=x.1.2.1->(¬nonsing x.1.1.toNat (el x.1)->([],[],(d,d,[]),d,d,[])=YJ/\D=ac)/\(nonsing x.1.1.toNat (el x.1)->Y9 ([],[],(d,d,[]),d,d,[]) x.1.1/\D=d/\Q/\Q/\A/\∀(i j:Nat),i<x.1.1.toNat->j<x.1.1.toNat->nV ([],[],(d,d,[]),d,d,[]) x.1.1.toNat i j=el x.1 (ix [] i) (ix [] j)))))/\((!r.1)=false->(decide (x.1.1≠x.1.2.1)=true->(¬B6 x.1->([],[],(d,d,[]),d,d,[])=YJ/\ab=D)/\(B6 x.1->(x.1.1≠x.1.2.1->([],[],(d,d,[]),d,d,[])=YJ/\ab=ab)/\(x.1.1=x.1.2.1->(¬nonsing x.1.1.toNat (el x.1)->([],[],(d,d,[]),d,d,[])=YJ/\ab=ac)/\(nonsing x.1.1.toNat (el x.1)->Y9 ([],[],(d,d,[]),d,d,[]) x.1.1/\ab=d/\Q/\Q/\A/\∀(i j:Nat),i<x.1.1.toNat->j<x.1.1.toNat->nV ([],[],(d,d,[]),d,d,[]) x.1.1.toNat i j=el x.1 (ix [] i) (ix [] j)))))/\(decide (x.1.1≠x.1.2.1)=false->F/\F/\t/\t/\F/\t/\t/\V/\V/\∃(I:C0h->Prop),∃(w: _->Nat),I (d,(List.replicate bb [],Nj (Ty.mp false (Ty.int i64) false Ty.bool) bb),List.replicate bb d,())/\∀(p:C0h),let ah:=p.1.toNat;(Ty.int i64).wf p.1/\p.2.1.1.length.le 9223372036854775807/\QB p.2.2.1/\True->I p->(decide (p.1<x.1.2.1)=true->(d<=p.1/\p.1<(↑p.2.1.1.length:Int))/\(d<=p.1/\p.1<(p.2.2.1.length:Int))/\I (i64.wrap (p.1+D),(p.2.1.1.set ah [],LS ah p.2.1.2),List.set p.2.2.1 ah p.1,())/\w (i64.wrap (p.1+D),(p.2.1.1.set ah [],LS ah p.2.1.2),List.set p.2.2.1 ah p.1,())<w p)/\(decide (p.1<x.1.2.1)=false->∃(I:C0m->Prop),∃(w: _->Nat),I (d,List.replicate ad [],p.2.1,())/\∀(z:C0m),let E:=(gx [] x.1.2.2 z.1);let bh:=(↑E.length:Int);(Ty.int i64).wf z.1/\CO z.2.1/\z.2.2.1.1.length.le 9223372036854775807/\True->I z->(decide (z.1<ba)=true->(d<=z.1/\z.1<ba)/\Jr E/\∀(r:Qp),Zy r.1/\True->JJ (A4 E) r.1->(d<=z.1/\z.1<(z.2.1.length:Int))/\∃(I_1:IC->Prop),∃(an: _->Nat),I_1 (d,z.2.2.1,())/\∀(p:IC),let b3:=(gx D6 E p.1);let al:=b3.1.toNat;let bm:=(i64.wrap (z.1+D),List.set z.2.1 z.1.toNat r.1,p.2.1,());(Ty.int i64).wf p.1/\p.2.1.1.length.le 9223372036854775807/\True->I_1 p->(decide (p.1<bh)=true->(d<=p.1/\p.1<bh)/\(d<=b3.1/\b3.1<(↑p.2.1.1.length:Int))/\¬Int.toNat b3.1∈p.2.1.2/\I_1 (i64.wrap (p.1+D),(p.2.1.1.set al (Er (Ty.int i64) z.1 true (p.2.1.1.getD al [])),p.2.1.2),())/\an (i64.wrap (p.1+D),(p.2.1.1.set al (Er (Ty.int i64) z.1 true (p.2.1.1.getD al [])),p.2.1.2),())<an p)/\(decide (p.1<bh)=false->I bm/\w bm<w z))/\(decide (z.1<ba)=false->∃(I:C0o->Prop),∃(w: _->Nat),I (d,p.2.2.1,List.replicate ad d,List.replicate ad d,List.replicate ad d,z.2.1,(List.replicate ad [],Nj tE.sl ad),z.2.2.1,())/\∀(b:C0o),let bq:Prop:=(d<=b.1/\b.1<(b.2.2.2.1.length:Int));let av:=(b.2.2.1.length:Int);let a3:=(↑b.2.1.length:Int);(Ty.int i64).wf b.1/\(Ty.int i64).sl.wf b.2.1/\QB b.2.2.1/\QB b.2.2.2.1/\QB b.2.2.2.2.1/\CO b.2.2.2.2.2.1/\b.2.2.2.2.2.2.1.1.length.le 9223372036854775807/\b.2.2.2.2.2.2.2.1.1.length.le 9223372036854775807/\True->I b->(decide (b.1<x.1.1)=true->∃(J:C0j->Prop),(∃(J_1:IC->Prop),(∃(I:C0i->Prop),∃(w: _->Nat),I (d,d,b.2.2.2.2.2.2.2.1,())/\∀(a:C0i),let bv:=(↑a.2.2.1.1.length:Int);let Z:=a.1.toNat;let a2:=a.2.1.toNat;let H:Prop:=((↑(a.2.2.1.1.getD (b.2.1.getD a2 d).toNat []).length:Int)<(↑((a.2.2.1.1.set (b.2.1.getD a2 d).toNat (a.2.2.1.1.getD (b.2.1.getD a2 d).toNat [])).getD (b.2.1.getD Z d).toNat []).length:Int));(Ty.int i64).wf a.1/\(Ty.int i64).wf a.2.1/\a.2.2.1.1.length.le 9223372036854775807/\True->I a->(decide (a.2.1<a3)=true->∃(J:IC->Prop),((d<=a.2.1/\a.2.1<a3)/\(d<=b.2.1.getD a2 d/\b.2.1.getD a2 d<bv)/\¬(b.2.1.getD a2 d).toNat∈a.2.2.1.2/\(a.2.2.1.1.getD (b.2.1.getD a2 d).toNat []).length<=9223372036854775807/\(d<=a.1/\a.1<a3)/\(d<=b.2.1.getD Z d/\b.2.1.getD Z d<bv)/\¬(b.2.1.getD Z d).toNat∈a.2.2.1.2/\((a.2.2.1.1.set (b.2.1.getD a2 d).toNat (a.2.2.1.1.getD (b.2.1.getD a2 d).toNat [])).getD (b.2.1.getD Z d).toNat []).length<=9223372036854775807/\(decide H=true->J (a.2.1,((a.2.2.1.1.set (b.2.1.getD a2 d).toNat (a.2.2.1.1.getD (b.2.1.getD a2 d).toNat [])).set (b.2.1.getD Z d).toNat ((a.2.2.1.1.set (b.2.1.getD a2 d).toNat (a.2.2.1.1.getD (b.2.1.getD a2 d).toNat [])).getD (b.2.1.getD Z d).toNat []),a.2.2.1.2),()))/\(decide H=false->J (a.1,((a.2.2.1.1.set (b.2.1.getD a2 d).toNat (a.2.2.1.1.getD (b.2.1.getD a2 d).toNat [])).set (b.2.1.getD Z d).toNat ((a.2.2.1.1.set (b.2.1.getD a2 d).toNat (a.2.2.1.1.getD (b.2.1.getD a2 d).toNat [])).getD (b.2.1.getD Z d).toNat []),a.2.2.1.2),())))/\∀(h:IC),let P:=h.1.toNat;let bo:Prop:=((↑(h.2.1.1.getD (b.2.1.getD P d).toNat []).length:Int)<=D);(Ty.int i64).wf h.1/\h.2.1.1.length.le 9223372036854775807/\True->J h->(d<=h.1/\h.1<a3)/\(d<=b.2.1.getD P d/\b.2.1.getD P d<(↑h.2.1.1.length:Int))/\¬(b.2.1.getD P d).toNat∈h.2.1.2/\(h.2.1.1.getD (b.2.1.getD P d).toNat []).length<=9223372036854775807/\(decide bo=true->J_1 (h.1,(h.2.1.1.set (b.2.1.getD P d).toNat (h.2.1.1.getD (b.2.1.getD P d).toNat []),h.2.1.2),()))/\(decide bo=false->I (h.1,i64.wrap (a.2.1+D),(h.2.1.1.set (b.2.1.getD P d).toNat (h.2.1.1.getD (b.2.1.getD P d).toNat []),h.2.1.2),())/\w (h.1,i64.wrap (a.2.1+D),(h.2.1.1.set (b.2.1.getD P d).toNat (h.2.1.1.getD (b.2.1.getD P d).toNat []),h.2.1.2),())<w a))/\(decide (a.2.1<a3)=false->J_1 (a.1,a.2.2.1,())))/\∀(a:IC),let az:=(i64.wrap (a.1+D));let G:Prop:=((Int.toNat a.1+(List.drop az.toNat (List.take a3.toNat b.2.1)).length)*(8:Nat)<=X/\Int.toNat a.1+(List.drop az.toNat (List.take a3.toNat b.2.1)).length<=9223372036854775807);let B:=a.1.toNat;let bp:=(↑(a.2.1.1.getD (b.2.1.getD B d).toNat []).length:Int);(Ty.int i64).wf a.1/\a.2.1.1.length.le 9223372036854775807/\True->J_1 a->(d<=a.1/\a.1<a3)/\(d<=b.2.1.getD B d/\b.2.1.getD B d<(↑a.2.1.1.length:Int))/\¬(b.2.1.getD B d).toNat∈a.2.1.2/\(a.2.1.1.getD (b.2.1.getD B d).toNat []).length<=9223372036854775807/\(decide (bp=d)=true->J (d,d,false,b.2.1,b.2.2.2.2.2.1,b.2.2.2.2.2.2.1,(a.2.1.1.set (b.2.1.getD B d).toNat (a.2.1.1.getD (b.2.1.getD B d).toNat []),a.2.1.2),()))/\(decide (bp=d)=false->(d<=a.1/\a.1<a3)/\∃(J_2:C1f->Prop),((d<=d/\d<=a.1/\a.1<=a3)/\(d<=i64.wrap (a.1+D)/\i64.wrap (a.1+D)<=a3/\a3<=a3)/\(G/\J_2 (List.take B b.2.1++List.drop az.toNat (List.take a3.toNat b.2.1),b.2.2.2.2.2.1,b.2.2.2.2.2.2.1,(a.2.1.1.set (b.2.1.getD B d).toNat (a.2.1.1.getD (b.2.1.getD B d).toNat []),a.2.1.2),()))/\G/\J_2 (List.take B b.2.1++List.drop az.toNat (List.take a3.toNat b.2.1),b.2.2.2.2.2.1,b.2.2.2.2.2.2.1,(a.2.1.1.set (b.2.1.getD B d).toNat (a.2.1.1.getD (b.2.1.getD B d).toNat []),a.2.1.2),()))/\∀(h:C1f),let aw:=(h.2.1.length:Int);(Ty.int i64).sl.wf h.1/\CO h.2.1/\h.2.2.1.1.length.le 9223372036854775807/\h.2.2.2.1.1.length.le 9223372036854775807/\True->J_2 h->∃(J_3:IC->Prop),((d<=b.2.1.getD B d/\b.2.1.getD B d<(↑h.2.2.2.1.1.length:Int))/\¬(b.2.1.getD B d).toNat∈h.2.2.2.1.2/\∃(I:C0g->Prop),∃(w: _->Nat),I ((-1:Int),(h.2.2.2.1.1.getD (b.2.1.getD B d).toNat [],h.2.2.2.1.1.getD (b.2.1.getD B d).toNat []),())/\∀(l:C0g),let ao:=(decide (l.1<d));let bs:=(↑(List.getD h.2.1 l.1.toNat []).length:Int);(Ty.int i64).wf l.1/\(∀(x:Int×Bool),x∈l.2.1.2->R2 x.1/\True)/\True->I l->(l.2.1.2= []->(false=true->False)/\(false=false->J_3 (l.1,(h.2.2.2.1.1.set (b.2.1.getD B d).toNat l.2.1.1,h.2.2.2.1.2),())))/\∀(ak:List (Int×Bool)) (a4:Int×Bool) (am:List (Int×Bool)),let bt:=(↑(List.getD h.2.1 a4.1.toNat []).length:Int);let b0:=(l.2.1.1,ak++am);let U:=(K4 (decide (bt=bs)) (decide (a4.1<l.1)) false);let b5:=(decide (bt<bs));l.2.1.2=ak++a4::am->(true=true->(decide (l.1<d)=false->d<=a4.1/\a4.1<aw)/\(decide (l.1<d)=false->d<=l.1/\l.1<aw)/\(K4 ao true b5=false->d<=a4.1/\a4.1<aw)/\(K4 ao true b5=false->d<=l.1/\l.1<aw)/\(K4 (K4 ao true b5) true U=true->I (a4.1,b0,())/\w (a4.1,b0,())<w l)/\(K4 (K4 ao true b5) true U=false->I (l.1,b0,())/\w (l.1,b0,())<w l))/\(true=false->J_3 (l.1,(h.2.2.2.1.1,(b.2.1.getD B d).toNat::h.2.2.2.1.2),())))/\∀(p:IC),(Ty.int i64).wf p.1/\p.2.1.1.length.le 9223372036854775807/\True->J_3 p->J (p.1,b.2.1.getD B d,true,h.1,h.2.1,h.2.2.1,p.2.1,())))/\∀(a:C0j),let b1:=a.2.1.toNat;let bn:Prop:=(d<=a.2.1/\a.2.1<(b.2.2.2.2.1.length:Int));let R:=(List.set b.2.2.1 b.1.toNat a.1,List.set b.2.2.2.1 b.1.toNat a.2.1,List.set b.2.2.2.2.1 b1 b.1,());let af:=(List.getD a.2.2.2.2.1 a.1.toNat []);let ag:=(↑af.length:Int);(Ty.int i64).wf a.1/\(Ty.int i64).wf a.2.1/\Ty.bool.wf a.2.2.1/\(Ty.int i64).sl.wf a.2.2.2.1/\CO a.2.2.2.2.1/\a.2.2.2.2.2.1.1.length.le 9223372036854775807/\a.2.2.2.2.2.2.1.1.length.le 9223372036854775807/\True->J a->((!a.2.2.1)=true->(¬B6 x.1->([],[],(d,d,[]),d,d,[])=YJ/\ac=D)/\(B6 x.1->(x.1.1≠x.1.2.1->([],[],(d,d,[]),d,d,[])=YJ/\ac=ab)/\(x.1.1=x.1.2.1->(¬nonsing x.1.1.toNat (el x.1)->([],[],(d,d,[]),d,d,[])=YJ/\ac=ac)/\(nonsing x.1.1.toNat (el x.1)->Y9 ([],[],(d,d,[]),d,d,[]) x.1.1/\ac=d/\Q/\Q/\A/\∀(i j:Nat),i<x.1.1.toNat->j<x.1.1.toNat->nV ([],[],(d,d,[]),d,d,[]) x.1.1.toNat i j=el x.1 (ix [] i) (ix [] j)))))/\((!a.2.2.1)=false->∃(J:C1g->Prop),((d<=b.1/\b.1<av)/\(bq/\bn/\J R)/\bq/\bn/\J R)/\∀(h:C1g),QB h.1/\QB h.2.1/\QB h.2.2.1/\True->J h->(d<=a.1/\a.1<(a.2.2.2.2.1.length:Int))/\∃(I_1:IC->Prop),∃(an: _->Nat),I_1 (d,a.2.2.2.2.2.2.1,())/\∀(l:IC),let bw:=(↑l.2.1.1.length:Int);let ay:=(gx D6 af l.1);let ar:=ay.1.toNat;(Ty.int i64).wf l.1/\l.2.1.1.length.le 9223372036854775807/\True->I_1 l->(decide (l.1<ag)=true->(d<=l.1/\l.1<ag)/\(d<=ay.1/\ay.1<bw)/\¬Int.toNat ay.1∈l.2.1.2/\I_1 (i64.wrap (l.1+D),(l.2.1.1.set ar (Ng (Ty.int i64) a.1 (l.2.1.1.getD ar [])),l.2.1.2),())/\an (i64.wrap (l.1+D),(l.2.1.1.set ar (Ng (Ty.int i64) a.1 (l.2.1.1.getD ar [])),l.2.1.2),())<an l)/\(decide (l.1<ag)=false->JK K1 af/\∀(a7:H5),FP a7.1/\True->a7.1=rc (A4 af a.2.1)->E7 a7.1/\∀(a9:lE),FP a9.1/\True/\True->(rv a7.1=(0:Rat)->a9.2.1=false)/\(rv a7.1≠(0:Rat)->a9.1=rc (rv a7.1)⁻¹/\a9.2.1=true)->∃(J:C0v->Prop),((d<=a.2.1/\a.2.1<bw)/\¬Int.toNat a.2.1∈l.2.1.2/\∃(I:C0u->Prop),∃(w: _->Nat),I ([],(l.2.1.1.getD b1 [],l.2.1.1.getD b1 []),())/\∀(p:C0u),(Ty.int i64).sl.wf p.1/\(∀(x:Int×Bool),x∈p.2.1.2->R2 x.1/\True)/\True->I p->(p.2.1.2= []->(false=true->False)/\(false=false->J (p.1,(l.2.1.1.set b1 p.2.1.1,l.2.1.2),())))/\∀(ak:List (Int×Bool)) (a4:Int×Bool) (am:List (Int×Bool)),let bj:=(p.1++ [a4.1],(p.2.1.1,ak++am),());p.2.1.2=ak++a4::am->(true=true->((p.1.length+ [a4.1].length)*(8:Nat)<=X/\p.1.length+ [a4.1].length<=9223372036854775807)/\I bj/\w bj<w p)/\(true=false->J (p.1,(l.2.1.1,Int.toNat a.2.1::l.2.1.2),())))/\∀(f:C0v),let bc:=(↑f.1.length:Int);(Ty.int i64).sl.wf f.1/\f.2.1.1.length.le 9223372036854775807/\True->J f->∃(I_2:C0n->Prop),∃(bx: _->Nat),I_2 (d,a.2.2.2.2.1,a.2.2.2.2.2.1,f.2.1,())/\∀(g:C0n),let Y:=(i64.wrap (b.1+D),a.2.2.2.1,h.1,h.2.1,h.2.2.1,g.2.1,g.2.2.1,g.2.2.2.1,());let e:=g.1.toNat;let W:Prop:=(d<=f.1.getD e d/\f.1.getD e d<(g.2.1.length:Int));let K:=(List.getD g.2.1 (f.1.getD e d).toNat []);let a6:Prop:=(d<=f.1.getD e d/\f.1.getD e d<(↑g.2.2.1.1.length:Int));(Ty.int i64).wf g.1/\CO g.2.1/\g.2.2.1.1.length.le 9223372036854775807/\g.2.2.2.1.1.length.le 9223372036854775807/\True->I_2 g->(decide (g.1<bc)=true->(d<=g.1/\g.1<bc)/\∃(J:lA->Prop),(W/\(JK K1 K/\∀(r:H5),FP r.1/\True->r.1=rc (A4 K a.2.1)->((E7 r.1/\E7 a9.1)/\∀(y:H5),FP y.1/\True->y.1=rc (rv r.1*rv a9.1)->J (y.1.1.1,y.1.1.2,y.1.2,()))/\(E7 r.1/\E7 a9.1)/\∀(y:H5),FP y.1/\True->y.1=rc (rv r.1*rv a9.1)->J (y.1.1.1,y.1.1.2,y.1.2,()))/\JK K1 K/\∀(r:H5),FP r.1/\True->r.1=rc (A4 K a.2.1)->(E7 r.1/\E7 a9.1)/\∀(y:H5),FP y.1/\True->y.1=rc (rv r.1*rv a9.1)->J (y.1.1.1,y.1.1.2,y.1.2,()))/\∀(aa:lA),let be:=(aa.1,aa.2.1);let a5:=(b.1,be,aa.2.2.1);let a8:Prop:=(((g.2.2.1.1.getD (f.1.getD e d).toNat []).length+ [a5].length)*ai<=X/\(g.2.2.1.1.getD (f.1.getD e d).toNat []).length+ [a5].length<=9223372036854775807);Ty.bool.wf aa.1/\(Ty.int u32).sl.wf aa.2.1/\(Ty.int u32).sl.wf aa.2.2.1/\True->J aa->∃(J:B9y->Prop),let n:Prop:=(¬(f.1.getD e d).toNat∈g.2.2.1.2/\a8/\a6/\(f.1.getD e d).toNat=(f.1.getD e d).toNat/\J ((g.2.2.1.1.set (f.1.getD e d).toNat (g.2.2.1.1.getD (f.1.getD e d).toNat []++ [a5]),g.2.2.1.2),()));let c:Prop:=(a8/\a6/\(f.1.getD e d).toNat=(f.1.getD e d).toNat/\J ((g.2.2.1.1.set (f.1.getD e d).toNat (g.2.2.1.1.getD (f.1.getD e d).toNat []++ [a5]),g.2.2.1.2),()));let O:Prop:=(c/\a8/\a6/\(f.1.getD e d).toNat=(f.1.getD e d).toNat/\J ((g.2.2.1.1.set (f.1.getD e d).toNat (g.2.2.1.1.getD (f.1.getD e d).toNat []++ [a5]),g.2.2.1.2),()));(a6/\((n/\¬(f.1.getD e d).toNat∈g.2.2.1.2/\a8/\a6/\(f.1.getD e d).toNat=(f.1.getD e d).toNat/\J ((g.2.2.1.1.set (f.1.getD e d).toNat (g.2.2.1.1.getD (f.1.getD e d).toNat []++ [a5]),g.2.2.1.2),()))/\(¬(f.1.getD e d).toNat∈g.2.2.1.2/\c/\c/\a8/\a6/\(f.1.getD e d).toNat=(f.1.getD e d).toNat/\J ((g.2.2.1.1.set (f.1.getD e d).toNat (g.2.2.1.1.getD (f.1.getD e d).toNat []++ [a5]),g.2.2.1.2),()))/\n/\¬(f.1.getD e d).toNat∈g.2.2.1.2/\c/\a8/\a6/\(f.1.getD e d).toNat=(f.1.getD e d).toNat/\J ((g.2.2.1.1.set (f.1.getD e d).toNat (g.2.2.1.1.getD (f.1.getD e d).toNat []++ [a5]),g.2.2.1.2),()))/\(¬(f.1.getD e d).toNat∈g.2.2.1.2/\(c/\c/\a8/\a6/\(f.1.getD e d).toNat=(f.1.getD e d).toNat/\J ((g.2.2.1.1.set (f.1.getD e d).toNat (g.2.2.1.1.getD (f.1.getD e d).toNat []++ [a5]),g.2.2.1.2),()))/\O/\a8/\a6/\(f.1.getD e d).toNat=(f.1.getD e d).toNat/\J ((g.2.2.1.1.set (f.1.getD e d).toNat (g.2.2.1.1.getD (f.1.getD e d).toNat []++ [a5]),g.2.2.1.2),()))/\(n/\¬(f.1.getD e d).toNat∈g.2.2.1.2/\c/\a8/\a6/\(f.1.getD e d).toNat=(f.1.getD e d).toNat/\J ((g.2.2.1.1.set (f.1.getD e d).toNat (g.2.2.1.1.getD (f.1.getD e d).toNat []++ [a5]),g.2.2.1.2),()))/\¬(f.1.getD e d).toNat∈g.2.2.1.2/\O/\a8/\a6/\(f.1.getD e d).toNat=(f.1.getD e d).toNat/\J ((g.2.2.1.1.set (f.1.getD e d).toNat (g.2.2.1.1.getD (f.1.getD e d).toNat []++ [a5]),g.2.2.1.2),()))/\∀(bi:B9y),bi.1.1.length.le 9223372036854775807/\True->J bi->W/\E7 (be,aa.2.2.1)/\∀(y:H5),FP y.1/\True->y.1=rc (-rv (be,aa.2.2.1))->(JK K1 K/\sz K1 y.1/\JK K1 af)/\∀(b4:Qp),let N:=(List.set g.2.1 (f.1.getD e d).toNat b4.1);let b8:=(↑(N.getD (f.1.getD e d).toNat []).length:Int);Zy b4.1/\True->JJ (fun(i:Int)=>A4 K i+rv y.1*A4 af i) b4.1->W/\∃(I:IC->Prop),∃(w: _->Nat),I (d,g.2.2.2.1,())/\∀(a0:IC),let ax:=(gx D6 af a0.1);let au:=ax.1.toNat;(Ty.int i64).wf a0.1/\a0.2.1.1.length.le 9223372036854775807/\True->I a0->(decide (a0.1<ag)=true->(d<=a0.1/\a0.1<ag)/\(d<=ax.1/\ax.1<(↑a0.2.1.1.length:Int))/\¬Int.toNat ax.1∈a0.2.1.2/\I (i64.wrap (a0.1+D),(a0.2.1.1.set au (Ng (Ty.int i64) (f.1.getD e d) (a0.2.1.1.getD au [])),a0.2.1.2),())/\w (i64.wrap (a0.1+D),(a0.2.1.1.set au (Ng (Ty.int i64) (f.1.getD e d) (a0.2.1.1.getD au [])),a0.2.1.2),())<w a0)/\(decide (a0.1<ag)=false->(d<=f.1.getD e d/\f.1.getD e d<(↑N.length:Int))/\∃(I:IC->Prop),∃(w: _->Nat),I (d,a0.2.1,())/\∀(a1:IC),let bk:=(i64.wrap (g.1+D),List.set g.2.1 (f.1.getD e d).toNat b4.1,bi.1,a1.2.1,());let m:=(gx D6 (N.getD (f.1.getD e d).toNat []) a1.1);let b2:=m.1.toNat;(Ty.int i64).wf a1.1/\a1.2.1.1.length.le 9223372036854775807/\True->I a1->(decide (a1.1<b8)=true->(d<=a1.1/\a1.1<b8)/\(d<=m.1/\m.1<(↑a1.2.1.1.length:Int))/\¬Int.toNat m.1∈a1.2.1.2/\I (i64.wrap (a1.1+D),(a1.2.1.1.set b2 (Er (Ty.int i64) (f.1.getD e d) true (a1.2.1.1.getD b2 [])),a1.2.1.2),())/\w (i64.wrap (a1.1+D),(a1.2.1.1.set b2 (Er (Ty.int i64) (f.1.getD e d) true (a1.2.1.1.getD b2 [])),a1.2.1.2),())<w a1)/\(decide (a1.1<b8)=false->I_2 bk/\bx bk<bx g)))/\(decide (g.1<bc)=false->I Y/\w Y<w b))))/\(decide (b.1<x.1.1)=false->∃(I:C1b->Prop),∃(w: _->Nat),I (b.2.2.2.2.1,d,List.replicate ad [],List.replicate ad [],b.2.2.2.2.2.2.1,())/\∀(a:C1b),let bu:=(x.1.1,x.1.1,a.2.2.1);let b6:=(a.1.length:Int);let s:=a.2.1.toNat;let o:=(b.2.2.1,b.2.2.2.1,bu,x.1.1,x.1.1,a.2.2.2.1);let k:Prop:=(d<=a.2.1/\a.2.1<(a.2.2.1.length:Int));let u:=(List.getD b.2.2.1 s d);let b9:=(List.getD b.2.2.2.2.2.1 u.toNat []);(Ty.int i64).sl.wf a.1/\(Ty.int i64).wf a.2.1/\CO a.2.2.1/\CO a.2.2.2.1/\a.2.2.2.2.1.1.length.le 9223372036854775807/\True->I a->(decide (a.2.1<av)=true->(d<=a.2.1/\a.2.1<av)/\∃(J:C0q->Prop),((d<=List.getD b.2.2.1 s d/\List.getD b.2.2.1 s d<(↑a.2.2.2.2.1.1.length:Int))/\((¬u.toNat∈a.2.2.2.2.1.2/\True/\∀(r:H5),let bf:=(a.2.1,r.1);FP r.1/\True->r.1=ri D->(((a.2.2.2.2.1.1.getD u.toNat []).length+ [bf].length)*ai<=X/\(a.2.2.2.2.1.1.getD u.toNat []).length+ [bf].length<=9223372036854775807)/\k/\J (List.set a.2.2.1 s (a.2.2.2.2.1.1.getD u.toNat []++ [bf]),(a.2.2.2.2.1.1,u.toNat::a.2.2.2.2.1.2),()))/\True/\∀(r:H5),let ap:=(a.2.1,r.1);let L:Prop:=(((a.2.2.2.2.1.1.getD u.toNat []).length+ [ap].length)*ai<=X/\(a.2.2.2.2.1.1.getD u.toNat []).length+ [ap].length<=9223372036854775807);FP r.1/\True->r.1=ri D->(¬u.toNat∈a.2.2.2.2.1.2/\L/\k/\J (List.set a.2.2.1 s (a.2.2.2.2.1.1.getD u.toNat []++ [ap]),(a.2.2.2.2.1.1,u.toNat::a.2.2.2.2.1.2),()))/\¬u.toNat∈a.2.2.2.2.1.2/\L/\k/\J (List.set a.2.2.1 s (a.2.2.2.2.1.1.getD u.toNat []++ [ap]),(a.2.2.2.2.1.1,u.toNat::a.2.2.2.2.1.2),()))/\(¬u.toNat∈a.2.2.2.2.1.2/\(True/\∀(r:H5),let bg:=(a.2.1,r.1);FP r.1/\True->r.1=ri D->(((a.2.2.2.2.1.1.getD u.toNat []).length+ [bg].length)*ai<=X/\(a.2.2.2.2.1.1.getD u.toNat []).length+ [bg].length<=9223372036854775807)/\k/\J (List.set a.2.2.1 s (a.2.2.2.2.1.1.getD u.toNat []++ [bg]),(a.2.2.2.2.1.1,u.toNat::a.2.2.2.2.1.2),()))/\True/\∀(r:H5),let aq:=(a.2.1,r.1);let q:Prop:=(((a.2.2.2.2.1.1.getD u.toNat []).length+ [aq].length)*ai<=X/\(a.2.2.2.2.1.1.getD u.toNat []).length+ [aq].length<=9223372036854775807);let S:Prop:=(q/\k/\J (List.set a.2.2.1 s (a.2.2.2.2.1.1.getD u.toNat []++ [aq]),(a.2.2.2.2.1.1,u.toNat::a.2.2.2.2.1.2),()));FP r.1/\True->r.1=ri D->S/\S/\q/\k/\J (List.set a.2.2.1 s (a.2.2.2.2.1.1.getD u.toNat []++ [aq]),(a.2.2.2.2.1.1,u.toNat::a.2.2.2.2.1.2),()))/\True/\∀(r:H5),let ae:=(a.2.1,r.1);let aj:Prop:=(((a.2.2.2.2.1.1.getD u.toNat []).length+ [ae].length)*ai<=X/\(a.2.2.2.2.1.1.getD u.toNat []).length+ [ae].length<=9223372036854775807);let M:Prop:=(¬u.toNat∈a.2.2.2.2.1.2/\aj/\k/\J (List.set a.2.2.1 s (a.2.2.2.2.1.1.getD u.toNat []++ [ae]),(a.2.2.2.2.1.1,u.toNat::a.2.2.2.2.1.2),()));let C:Prop:=(aj/\k/\J (List.set a.2.2.1 s (a.2.2.2.2.1.1.getD u.toNat []++ [ae]),(a.2.2.2.2.1.1,u.toNat::a.2.2.2.2.1.2),()));FP r.1/\True->r.1=ri D->(M/\¬u.toNat∈a.2.2.2.2.1.2/\aj/\k/\J (List.set a.2.2.1 s (a.2.2.2.2.1.1.getD u.toNat []++ [ae]),(a.2.2.2.2.1.1,u.toNat::a.2.2.2.2.1.2),()))/\(¬u.toNat∈a.2.2.2.2.1.2/\C/\C/\aj/\k/\J (List.set a.2.2.1 s (a.2.2.2.2.1.1.getD u.toNat []++ [ae]),(a.2.2.2.2.1.1,u.toNat::a.2.2.2.2.1.2),()))/\M/\¬u.toNat∈a.2.2.2.2.1.2/\C/\aj/\k/\J (List.set a.2.2.1 s (a.2.2.2.2.1.1.getD u.toNat []++ [ae]),(a.2.2.2.2.1.1,u.toNat::a.2.2.2.2.1.2),()))/\∀(h:C0q),CO h.1/\h.2.1.1.length.le 9223372036854775807/\True->J h->(d<=List.getD b.2.2.1 s d/\List.getD b.2.2.1 s d<(b.2.2.2.2.2.1.length:Int))/\(JK K1 b9/\List.length a.1<=100000)/\∀(a7:List EE×Bool×Unit),let bl:=(a.1,i64.wrap (a.2.1+D),h.1,List.set a.2.2.2.1 s a7.1,h.2.1,());Zy a7.1/\True/\True->(G4 a.1 b6->(∀(j:Int),A4 b9 j≠(0:Rat)->d<=j/\j<b6)->JJ (fun(i:Int)=>if d<=i/\i<b6 then A4 b9 (↑(List.idxOf i a.1):Int)else(0:Rat)) a7.1/\a7.2.1=true)->(d<=a.2.1/\a.2.1<(a.2.2.2.1.length:Int))/\I bl/\w bl<w a)/\(decide (a.2.1<av)=false->(¬B6 x.1->o=YJ/\d=D)/\(B6 x.1->(x.1.1≠x.1.2.1->o=YJ/\d=ab)/\(x.1.1=x.1.2.1->(¬nonsing x.1.1.toNat (el x.1)->o=YJ/\d=ac)/\(nonsing x.1.1.toNat (el x.1)->Y9 o x.1.1/\d=d/\(∀(v:List EE),v∈a.2.2.1->T1 v)/\(∀(v:List EE),v∈a.2.2.2.1->T1 v)/\(∀(T:Nat),(1:Nat)<=T->Lj x.1.1.toNat x.1.1.toNat (el x.1) T->∀(i j:Nat),i<x.1.1.toNat->qs (T+T) (el bu i j)/\qs (T+T) (el (x.1.1,x.1.1,a.2.2.2.1) i j))/\∀(i j:Nat),i<x.1.1.toNat->j<x.1.1.toNat->nV o x.1.1.toNat i j=el x.1 (ix b.2.2.1 i) (ix b.2.2.2.1 j))))))))))
def AY (x:A5 Q5.args):B7r prog OW Qj Oc Q5 f24 x=Gy x:=by kernel_rfl
def C1x (n:Nat) (M:N7) (rest:List Int) (rows lower:List (List D1)) (cols:List Q6) (q:Int×Int×Bool×List Int×List (List D1)×NR×NB×Unit):Prop:=q.2.2.2.2.1=rows/\q.2.2.2.2.2.1.1=lower/\eV n q.2.2.2.2.2.1.2/\q.2.2.2.2.2.2.1.1=cols/\eV n q.2.2.2.2.2.2.1.2/\(q.2.2.1=false->¬nonsing n (el M))/\(q.2.2.1=true->q.2.1∈rest/\q.1∈keys (cols.getD q.2.1.toNat [])/\q.2.2.2.1.Nodup/\∀x,x∈q.2.2.2.1↔x∈rest/\x≠q.2.1)
def B5a (n:Nat) (rest:List Int) (cols:List Q6) (q:Int×NB×Unit):Prop:=0<=q.1/\q.1<(rest.length:Int)/\q.2.1.1=cols/\eV n q.2.1.2
def B8t (n:Nat) (rest:List Int) (cols:List Q6) (q:Int×Int×NB×Unit):Prop:=0<=q.1/\q.1<(rest.length:Int)/\0<=q.2.1/\q.2.1<=(rest.length:Int)/\q.2.2.1.1=cols/\eV n q.2.2.1.2
def C1y (n:Nat) (rest:List Int) (b:Nat) (rows lower:List (List D1)) (cols:List Q6) (q:List Int×List (List D1)×NR×NB×Unit):Prop:=q.1=rest.take b++rest.drop (b+1)/\q.2.1=rows/\q.2.2.1.1=lower/\eV n q.2.2.1.2/\q.2.2.2.1.1=cols/\eV n q.2.2.2.1.2
def C2g (es:Q6) (q:Int×(Q6×Q6)×Unit):Prop:=q.2.1.1=es/\(∀y∈q.2.1.2,y∈es)/\((q.1<0/\q.2.1.2.length=es.length)\/q.1∈keys es)
def C2h (n:Nat) (cols:List Q6) (c:Int) (q:Int×NB×Unit):Prop:=q.1∈keys (cols.getD c.toNat [])/\q.2.1.1=cols/\eV n q.2.1.2
def C2e (es:Q6) (q:List Int×(Q6×Q6)×Unit):Prop:=q.2.1.1=es/\(q.1++keys q.2.1.2).Perm (keys es)
def C2f (n:Nat) (cols:List Q6) (c:Int) (q:List Int×NB×Unit):Prop:=q.1.Perm (keys (cols.getD c.toNat []))/\q.2.1.1=cols/\eV n q.2.1.2
def L3 (n:Nat) (M:N7) (k:Nat) (rest P:List Int) (rows lower:List (List D1)) (r c:Int) (a:List Int) (q:Int×List (List D1)×NR×NB×Unit):Prop:=0<=q.1/\q.1<=(a.length:Int)/\(∀s,1<=s->Lj n n (el M) s->CI n k (s+s) rest P rows lower r c (a.take q.1.toNat) q.2.1 q.2.2.1.1 q.2.2.2.1.1)/\eV n q.2.2.1.2/\eV n q.2.2.2.1.2
def B8z (x:Rat) (q:Bool×List Int×List Int×Unit):Prop:=((q.1,q.2.1),q.2.2.1)=rc x
def C2b (n:Nat) (P place:List Int) (rows lower:List (List D1)) (q:List Int×Int×List (List D1)×List (List D1)×NR×Unit):Prop:=q.1=place/\0<=q.2.1/\q.2.1<=(n:Int)/\q.2.2.1.length=n/\q.2.2.2.1.length=n/\q.2.2.2.2.1.1=lower/\(∀m∈q.2.2.2.2.1.2,n<=m\/∃a:Nat,(a:Int)<q.2.1/\m=ix P a)/\(∀a:Nat,(a:Int)<q.2.1->q.2.2.1.getD a []=lower.getD (ix P a) []++ [((a:Int),rc 1)])/\∀a:Nat,(a:Int)<q.2.1->JJ (fun i=>if 0<=i/\i<(n:Int)then A4 (rows.getD (ix P a) []) ((List.idxOf i place:Nat):Int)else 0) (q.2.2.2.1.getD a [])
def EI.okFin {n k:Nat} {S:Nat->Nat} {A:Nat->Nat->Rat} {rest P Q place:List Int} {rows lower:List (List D1)} {cols:List Q6} (h:EI n k S A rest P Q place rows lower cols) (b:n<=16384) {a:Nat} (d:a<k) (f:S a<=K1):JK K1 (rows.getD (ix P a) []):=by
 obtain⟨b,c,_⟩:=h.can _ (h.elim.plt a d);have:=Ba (n:=(n:Int)) (v:=rows.getD (ix P a) []) ⟨b.1,fun e he=>⟨(c e he).1,(c e he).2,(b.2 e he).1⟩⟩;exact⟨b.1,GN b fun j=>L5 (h.fin a d j) f,by omega⟩
def EI.cnt {n k:Nat} {S:Nat->Nat} {A:Nat->Nat->Rat} {rest P Q place:List Int} {rows lower:List (List D1)} {cols:List Q6} (h:EI n k S A rest P Q place rows lower cols) (a:n<=16384) {i:Int} (b:0<=i) (c:i<(rest.length:Int)):(0<=rest.getD i.toNat 0/\rest.getD i.toNat 0<((cols.length:Nat):Int))/\(rest.getD i.toNat 0).toNat<n/\(cols.getD (rest.getD i.toNat 0).toNat []).length<=9223372036854775807/\rest.getD i.toNat 0∈rest:=by
 have a:rest.getD i.toNat 0∈rest:=E8 (by omega);obtain⟨b,c1⟩:=h.crange a;have:=h.colLen a;rw[h.lcols];exact⟨⟨b,c1⟩,by omega,by omega,a⟩
set_option maxHeartbeats 4000000
def AZ (x:A5 Q5.args) (bx:awf Q5.args x) (f8:Q5.pre x):Gy x:=by
 obtain⟨⟨R,C,D⟩,_⟩:=x;have f0:OM (R,C,D):=Rz bx.1.2.2.2;change Int at R C;change List (List D1)at D;obtain⟨fh,ew⟩:T2 K1 (R,C,D)/\(B6 (R,C,D)->R=C->∃T:Nat,1<=T/\8*T+8<=K1/\Lj R.toNat R.toNat (el (R,C,D)) T):=f8;simp only[Gy];refine⟨trivial, ?_⟩;rintro⟨r,_⟩ _ M;simp only at M⊢;by_cases a6:B6 (R,C,D)
 case neg=>
  have M:r=false:=by rw[M];exact rG a6
  rw[M];exact⟨fun _=>⟨fun _=>⟨rfl,trivial⟩,fun h=>absurd h a6⟩,fun h=>(by cases h)⟩
 have M:r=true:=by rw[M];exact rL a6
 rw[M];obtain⟨g2,g3,g4,g5,ed,ee⟩:=id a6;simp only at g2 g3 g4 g5 ed ee;refine⟨fun h=>(by cases h),fun _=>⟨fun bs=> ?_,fun cd=> ?_⟩⟩
 . have bs:=qA bs;exact⟨fun h=>absurd a6 h,fun _=>⟨fun _=>⟨rfl,trivial⟩,fun h=>absurd h bs⟩⟩
 have cd:R=C:=qM (qB cd);subst cd;obtain⟨n,rfl⟩:∃n:Nat,R=(n:Int):=⟨R.toNat,by omega⟩;obtain⟨W,co,gu,bw⟩:=ew a6 rfl;rw[qU]at bw;simp only[qU];have az:0<=(n:Int)/\(n:Int)<=(n:Int)/\8*(n:Int)<=281474976710656/\(n:Int)<=9223372036854775807:=⟨by omega,qI _,by omega,by omega⟩;have bf:0<=(n:Int)/\(n:Int)<=(n:Int)/\24*(n:Int)<=281474976710656/\(n:Int)<=9223372036854775807:=⟨by omega,qI _,by omega,by omega⟩;refine⟨az,az,bf,bf,az,bf,bf,az,az,HC n,fun p=>((n:Int)-p.1).toNat,HC.init, ?_⟩;rintro⟨t,⟨cols,dd⟩,left,_⟩ _ J;change Int at t;change List Q6 at cols;simp only;have bq:=J.1;have dp:=J.2.1;have f1:cols.length=n:=J.2.2.1;have f2:left.length=n:=J.2.2.2.2.2.1;simp only at bq dp;refine⟨fun f=> ?_,fun f=> ?_⟩
 . have f:=qA f;rw[wv (by omega)];exact⟨⟨bq,by omega⟩,⟨bq,by omega⟩,J.next f,by omega⟩
 have f:=qB f;have ck:(n:Int)<=t:=by omega
 have gl:(D.length:Int)=(n:Int):=ed;refine⟨BR n D,fun p=>((n:Int)-p.1).toNat,BR.init J ck, ?_⟩;rintro⟨X,eb,⟨cols1,d0⟩,_⟩ _ ak;change Int at X;change List (List D1)at eb;change List Q6 at cols1;simp only;have ar:=ak.1;have dx:=ak.2.1;have fe:eb.length=n:=ak.2.2.1;simp only at ar dx;refine⟨fun A=> ?_,fun A=> ?_⟩
 . have A:=qA A;have fi:X<(n:Int):=by omega
   have cj:=I7 (d:=([]:List D1)) ar A;rw[Rt ar A]at cj⊢;have cr:=ee _ cj;have a5:=oZ a6 fh cj;refine⟨⟨ar,A⟩, .inl ⟨a5.1,a5.2.1,a5.2.2⟩, ?_⟩;rintro⟨av,_⟩ _ bx;change List D1 at av;simp only at bx⊢;refine⟨⟨ar,by omega⟩,MJ n (fun i=>A4 (D.getD i [])) X (D.getD X.toNat []),fun p=>(((D.getD X.toNat []).length:Int)-p.1).toNat,ak.row, ?_⟩;rintro⟨bz,⟨cols2,d1⟩,_⟩ _ b6;change Int at bz;change List Q6 at cols2;simp only;have et:=b6.1;have eu:=b6.2.1;simp only at et eu;have e0:∀e∈D.getD X.toNat [],0<=e.1/\e.1<(n:Int):=fun e a1=>⟨(cr.2 e a1).1,(cr.2 e a1).2.1⟩
   have f6:=a5.2.2;refine⟨fun H=> ?_,fun H=> ?_⟩
   . have H:=qA H;rw[wv (by omega)];obtain⟨u,w,a8⟩:=b6.rng e0 H;exact⟨u,w,a8,b6.next e0 H,by omega⟩
   . have H:=qB H;rw[wv (by omega)];exact⟨ak.next fi cr bx b6 (by omega),by omega⟩
 have A:=qB A;have dq:(n:Int)<=X:=by omega
 refine⟨B3h n ((n:Int),(n:Int),D),fun p=>((n:Int)-p.1).toNat,B3h.init a6 f0 rfl rfl J ck ak dq, ?_⟩;clear J bq dp f1 f2 ak ar dx fe f ck A dq;rintro⟨k,rest,P,Q,place,rows,⟨lower,gf⟩,⟨cols,dd⟩,_⟩ _ ⟨cu,fk,ai,b1,d2⟩;change Int at k;change List Int at rest P Q place;change List (List D1)at rows lower;change List Q6 at cols;simp only at cu fk ai b1 d2⊢;have a:=ai W co bw;refine⟨fun b7=> ?_,fun b7=> ?_⟩
 . have b7:=qA b7;have ci:k.toNat<n:=by omega
   have b4:W+W<=K1:=by omega
   have gs:=a.more ci;have b9:=a.lrows;have dk:=a.llow;have dj:=a.lcols;have gt:rest.length<=n:=LA a.rnd fun x hx=>a.crange hx
   refine⟨C1x n ((n:Int),(n:Int),D) rest rows lower cols,⟨B5a n rest cols,⟨B8t n rest cols,fun q=>((rest.length:Int)-q.2.1).toNat,⟨qI _,by simp only;omega,qI _,by simp only;omega,rfl,d2⟩, ?_⟩, ?_⟩, ?_⟩
   . rintro⟨b,j,⟨b0,cz⟩,_⟩ _ ⟨a0,a2,aa,ct,rfl,O⟩;change Int at b j;simp only at a0 a2 aa ct O⊢;refine⟨fun l=> ?_,fun l=>⟨a0,a2,rfl,O⟩⟩;have l:=qA l;obtain⟨c2,bc,c3,aw⟩:=a.cnt (by omega) aa l;obtain⟨eg,eh,ei,g9⟩:=a.cnt (by omega) a0 a2;simp only[HX];refine⟨B5a n rest b0,⟨⟨aa,l⟩,c2,O _ bc,c3,⟨a0,a2⟩,eg,O _ eh,ei,fun _=>⟨aa,l,rfl,O⟩,fun _=>⟨a0,a2,rfl,O⟩⟩, ?_⟩;rintro⟨ef,⟨cols2,d1⟩,_⟩ _ ⟨ax,ay,rfl,af⟩;change Int at ef;simp only at ax ay af⊢;obtain⟨bg,bh,bi,gj⟩:=a.cnt (by omega) ax ay;rw[wv (by omega)];exact⟨⟨ax,ay⟩,bg,af _ bh,bi,fun _=>⟨ax,ay,rfl,af⟩,fun _=>⟨⟨ax,ay,by simp only;omega,by simp only;omega,rfl,af⟩,by omega⟩⟩
   . rintro⟨b,⟨b0,cz⟩,_⟩ _ ⟨a0,a2,rfl,O⟩;change Int at b;simp only at a0 a2 O⊢;obtain⟨c2,bc,c3,aw⟩:=a.cnt (by omega) a0 a2;simp only[HX];refine⟨⟨a0,a2⟩,c2,O _ bc,c3,fun ah=> ?_,fun ah=> ?_⟩
     . have ah:=qA ah;exact⟨rfl,rfl,b1,rfl,O,fun _=>a.stuck aw (qO (g3l.1 ah)),fun h=>(by cases h)⟩
     have ah:=qB ah;rw[wv (by omega)];simp only[qU,uW];rw[show(b+1).toNat=b.toNat+1 from by omega];have b8:b.toNat+(List.drop (b.toNat+1) rest).length<=n:=by rw[sQ];omega
     generalize ab:rest.getD b.toNat 0=c at*;obtain⟨be,c1⟩:=a.crange aw;have cl:=a.pick (b:=b.toNat) (by omega);rw[ab]at cl;refine⟨⟨a0,a2⟩,C1y n rest b.toNat rows lower b0,⟨⟨qI _,a0,by omega⟩,⟨by omega,by omega,qI _⟩,⟨⟨by omega,by omega⟩,rfl,rfl,rfl,b1,rfl,O⟩,⟨by omega,by omega⟩,rfl,rfl,rfl,b1,rfl,O⟩, ?_⟩;rintro⟨fs,ea,⟨gw,gg⟩,⟨cols2,d1⟩,_⟩ _ ⟨ag,rfl,rfl,b2,rfl,ao⟩;change List Int at fs;simp only at ag b2 ao⊢;obtain⟨gp,d9⟩:=a.col c aw;have ff:∀B:Int×Bool,B∈cols2.getD c.toNat []->0<=B.1/\B.1<(ea.length:Int):=fun B a7=>by
      obtain⟨c8,g6,_⟩:=(d9 B.1).1 (jI a7);rw[b9];exact⟨c8,g6⟩
     have bs:0<(cols2.getD c.toNat []).length:=by
      rcases vC (cols2.getD c.toNat []).length with N|N
      . exact absurd (g3l.2 N) ah
      . exact N
     have cb:c<(cols2.length:Int):=by rw[dj];exact c1
     refine⟨C2h n cols2 c,⟨⟨be,cb⟩,ao _ bc,C2g (cols2.getD c.toNat []),fun q=>q.2.1.2.length,⟨rfl,fun B a7=>a7, .inl ⟨by show(-1:Int)<0;decide,rfl⟩⟩, ?_⟩, ?_⟩
     . rintro⟨i,⟨es,left⟩,_⟩ _ ⟨rfl,ad,G⟩;change Int at i;change Q6 at left;simp only at ad G⊢;refine⟨fun a3=>⟨fun h=>(by cases h),fun _=>⟨?_,HX _ _ _,ao⟩⟩,fun l1 B l2 a3=>⟨fun _=> ?_,fun h=>(by cases h)⟩⟩
       . rcases G with⟨_,G⟩ |G
         . rw[a3]at G;simp only[yE]at G;omega
         . exact G
       have a7:=ff B (ad B (by rw[a3];simp));have fj:B.1∈keys (cols2.getD c.toNat []):=jI (ad B (by rw[a3];simp));have dy:∀z∈l1++l2,z∈cols2.getD c.toNat []:=fun z N=>ad z (by
        rw[a3];rcases qZ.1 N with N|N
        . exact sL _ N
        . exact tJ _ (qL _ N))
       have bo:(l1++l2).length<left.length:=by rw[a3,rQ,rQ,rE];omega
       have ac:¬i<0->i∈keys (cols2.getD c.toNat [])/\0<=i/\i<(ea.length:Int):=fun h=>by
        rcases G with⟨H,_⟩ |H
        . exact absurd H h
        . obtain⟨c8,g6,_⟩:=(d9 i).1 H;rw[b9];exact⟨H,c8,g6⟩
       have f3:∀ {q:Bool},K4 (decide (i<0)) true q=false->¬i<0:=fun {q} h H=>by
        rw[rL H]at h;cases h
       refine⟨fun _=>a7,fun h=>(ac (qB h)).2,fun _=>a7,fun h=>(ac (f3 h)).2,fun _=>⟨⟨rfl,dy, .inr fj⟩,bo⟩,fun h=>⟨⟨rfl,dy, .inr (ac ?_).1⟩,bo⟩⟩;intro H;rw[rL H]at h;cases h
     . rintro⟨i,⟨g7,gc⟩,_⟩ _ ⟨ad,rfl,bb⟩;exact⟨rfl,rfl,b2,rfl,bb,fun h=>(by cases h),fun _=>⟨aw,ad,ag▸cl.1,ag▸cl.2⟩⟩
   . rintro⟨r,c,e5,fr,o,⟨Y,c6⟩,⟨b0,cz⟩,_⟩ _ ⟨rfl,rfl,O,rfl,af,e3,e4⟩;change Int at r c;change Bool at e5;change List Int at fr;simp only at O af e3 e4⊢;cases e5 with
     |false=>exact⟨fun _=>⟨fun h=>absurd a6 h,fun _=>⟨fun h=>absurd rfl h,fun _=>⟨fun _=>⟨rfl,trivial⟩,fun h=>absurd h (e3 rfl)⟩⟩⟩,fun h=>(by cases h)⟩
     |true=>
     obtain⟨ab,M,fc,fd⟩:=e4 rfl;obtain⟨be,c1⟩:=a.crange ab;obtain⟨fo,fp,fq,e9⟩:=a.row ab M;have em:=a.lP;have gm:=a.lQ;have bv:=a.lpl;refine⟨fun h=>(by cases h),fun _=> ?_⟩;have fm:0<=k/\k<(P.length:Int):=⟨cu,by omega⟩;have e6:0<=k/\k<(Q.length:Int):=⟨cu,by omega⟩;have e7:0<=c/\c<(place.length:Int):=⟨be,by omega⟩;refine⟨fun q=>q.1=P.set k.toNat r/\q.2.1=Q.set k.toNat c/\q.2.2.1=place.set c.toNat k,⟨fm,⟨e6,e7,rfl,rfl,rfl⟩,e6,e7,rfl,rfl,rfl⟩, ?_⟩;rintro⟨P',Q',e8,_⟩ _ ⟨bg,bh,bi⟩;simp only at bg bh bi⊢;have cn:JK K1 (o.getD r.toNat []):=a.okRow b4 (by omega) (by omega);have ba:∀e∈o.getD r.toNat [],0<=e.1/\e.1<(n:Int):=(a.can r.toNat (by omega)).2.1;have fa:=(a.can r.toNat (by omega)).2.2;have du:T4 o r.toNat c.toNat=A4 (o.getD r.toNat []) c:=by unfold T4;rw[show((c.toNat:Nat):Int)=c from by omega]
     rw[du]at e9;generalize cm:o.getD r.toNat []=y at*;have gr:=cn.2.2;refine⟨⟨fo,by rw[b9];exact fp⟩,DR n rest (inC b0) r y,fun p=>((y.length:Int)-p.1).toNat,⟨qI _,qF _,dj,af,fun j l=>⟨a.crange l,gI ⟨(a.col j l).1,fun x=>xR⟩⟩⟩, ?_⟩;rintro⟨t,⟨cols1,d0⟩,_⟩ _ E;change Int at t;change List Q6 at cols1;simp only;have fu:=E.1;have fw:=E.2.1;simp only at fu fw;refine⟨fun f=> ?_,fun f=> ?_⟩
     . have f:=qA f;rw[wv (by omega)];obtain⟨u,w,a8⟩:=E.rng ba f;exact⟨u,w,a8,E.next ba f,by omega⟩
     have f:=qB f;have cf:∀s,1<=s->Lj n n (el ((n:Int),(n:Int),D)) s->CI n k.toNat (s+s) rest P o Y r c [] o Y cols1:=fun s u w=>CI.init (ai s u w) ab M E.2.2.1 fun j l=>by
      have c8:=(E.2.2.2.2 j l).2;simp only at c8;rw[G9 (show(y.length:Int)<=t by omega)]at c8;rw[cm];exact c8
     have d3:eV n d0:=E.2.2.2.1;have ez:cols1.length=n:=E.2.2.1;clear E;obtain⟨ch,bn⟩:=(cf W co bw).col c ab;have dh:∀x∈keys (cols1.getD c.toNat []),0<=x/\x<(n:Int):=fun x hx=>⟨((bn x).1 hx).2.1,((bn x).1 hx).2.2.1⟩
     have df:(keys (cols1.getD c.toNat [])).length<=n:=LA ch dh;refine⟨cn, ?_⟩;rintro⟨v,_⟩ _ cp;change C7 at v;simp only at cp⊢;have cq:qs (W+W) (A4 y c):=fa c;refine⟨by rw[cp];exact R3 (L5 cq b4) (by decide), ?_⟩;rintro⟨cs,h0,_⟩ _ aq;change C7 at cs;simp only at aq⊢;rw[cp,L9]at aq;obtain⟨aq,_⟩:=aq.2 e9;have cb:c<(cols1.length:Int):=by rw[ez];exact c1
     refine⟨C2f n cols1 c,⟨⟨be,cb⟩,d3 _ (by omega),C2e (cols1.getD c.toNat []),fun q=>q.2.1.2.length,⟨rfl,wO _⟩, ?_⟩, ?_⟩
     . rintro⟨c4,⟨es,left⟩,_⟩ _ ⟨rfl,G⟩;change List Int at c4;change Q6 at left;simp only at G⊢;refine⟨fun a3=>⟨fun h=>(by cases h),fun _=>⟨?_,HX _ _ _,d3⟩⟩,fun l1 B l2 a3=>⟨fun _=> ?_,fun h=>(by cases h)⟩⟩
       . subst a3;rw[show keys []= []from rfl,wC]at G;exact G
       subst a3;have dt:(c4++ [B.1]++keys (l1++l2)).Perm (keys (cols1.getD c.toNat [])):=by
        refine List.Perm.trans ?_ G;rw[uS];refine g2p c4 ?_;unfold keys;rw[vG,vG,rW,List.singleton_append];exact List.perm_middle.symm
       have en:=dt.length_eq;rw[rQ,rQ,rB]at en;have bo:(l1++l2).length<(l1++B::l2).length:=by rw[rQ,rQ,rE];omega
       exact⟨⟨by rw[rB];omega,by rw[rB];omega⟩,⟨rfl,dt⟩,bo⟩
     rintro⟨Z,⟨g8,gd⟩,_⟩ _ ⟨b3,rfl,d4⟩;change List Int at Z;simp only at b3 d4⊢;have f7:Z.Nodup:=b3.nodup_iff.2 ch;have dr:∀x,x∈Z↔x≠r/\0<=x/\x<(n:Int)/\(∀g,g<k.toNat->x.toNat≠ix P g)/\T4 o x.toNat c.toNat≠0:=fun x=>by rw[b3.mem_iff];exact bn x
     have f6:Z.length<=n:=by
      rw[b3.length_eq];exact df
     refine⟨L3 n ((n:Int),(n:Int),D) k.toNat rest P o Y r c Z,fun q=>((Z.length:Int)-q.1).toNat,⟨qI _,qF _,cf,O,d4⟩, ?_⟩;clear cf ch bn dh df b3;rintro⟨X,cw,⟨cv,ej⟩,⟨c5,ge⟩,_⟩ _ ⟨c0,g1,bk,bj,c7⟩;change Int at X;simp only at c0 g1 bk bj c7⊢;have aj:=bk W co bw;refine⟨fun A=> ?_,fun A=> ?_⟩
     . have A:=qA A;have ey:Z.getD X.toNat 0∈Z:=E8 (by omega);have cg:Z.getD X.toNat 0∉Z.take X.toNat:=fun hh=>by
        obtain⟨g,V,ap⟩:=vX.1 hh;rw[qY]at V;rw[g1f,P8 _ _ (show X.toNat<Z.length by omega)]at ap;have:=(xV f7).1 ap;omega
       have dz:=Qm (d:=(0:Int)) c0 A;rw[S9 c0 A]at dz;obtain⟨ad,G,bb,e2,gv⟩:=(dr _).1 ey;generalize Z.getD X.toNat 0=i at*;have a9:i.toNat<n:=by omega
       have dc:((i.toNat:Nat):Int)=i:=by omega
       have fg:cw.getD i.toNat []=o.getD i.toNat []:=aj.ru _ a9 (by rw[dc];exact cg);have dn:cv.getD i.toNat []=Y.getD i.toNat []:=by rw[aj.lo _ a9,qH (by rw[dc];exact cg)]
       have b8:=a.lowLen a9;have gk:=a.two (i:=r.toNat) (j:=i.toNat) (by omega) a9 (by omega) fq e2;have a5:=a.okRow b4 (by omega) a9;have dw:=(a.can _ a9).2.2;have ac:0<=i/\i<(cw.length:Int):=⟨G,by rw[aj.lrows];exact bb⟩;have de:0<=i/\i<(cv.length:Int):=⟨G,by rw[aj.llow];exact bb⟩;have ep:i.toNat∉ej:=bj _ a9;rw[fg,dn];have eo:T4 o i.toNat c.toNat=A4 (o.getD i.toNat []) c:=by unfold T4;rw[show((c.toNat:Nat):Int)=c from by omega]
       have gn:4*(W+W)+1<=K1:=by omega
       have fb:qs (W+W+(W+W)) (A4 (o.getD i.toNat []) c/A4 y c):=Wz (dw c) cq;have F:∀(ae:QQ×Unit),FP ae.1/\True->ae.1=rc (A4 (o.getD i.toNat []) c)->(E7 ae.1/\E7 cs)/\∀(au:QQ×Unit),FP au.1/\True->au.1=rc (rv ae.1*rv cs)->B8z (A4 (o.getD i.toNat []) c/A4 y c) (au.1.1.1,au.1.1.2,au.1.2,()):=fun ae _ h1=>by
        refine⟨⟨by rw[h1];exact R3 (L5 (dw c) b4) (by decide),by rw[aq];exact R3 (L5 (A9v cq) b4) (by decide)⟩,fun au _ c8=> ?_⟩;rw[h1,aq,L9,L9, <-tI]at c8;exact c8
       refine⟨⟨c0,A⟩,B8z (A4 (o.getD i.toNat []) c/A4 y c),⟨ac,⟨a5,fun ae av h=>⟨F ae av h,F ae av h⟩⟩,a5,F⟩, ?_⟩;rintro⟨d6,d7,d8,_⟩ _ ce;change Bool at d6;change List Int at d7 d8;have ce:((d6,d7),d8)=rc (A4 (o.getD i.toNat []) c/A4 y c):=ce;simp only;rw[ce];refine⟨fun q=>q.1.1=cv.set i.toNat (Y.getD i.toNat []++ [(k,rc (A4 (o.getD i.toNat []) c/A4 y c))])/\eV n q.1.2, ?_, ?_⟩
       . have L1:((Y.getD i.toNat []).length+ [(k,rc (A4 (o.getD i.toNat []) c/A4 y c))].length)*64<=140737488355328/\(Y.getD i.toNat []).length+ [(k,rc (A4 (o.getD i.toNat []) c/A4 y c))].length<=9223372036854775807:=by
          have N:∀z:Nat,z<=n->(z+1)*64<=140737488355328/\z+1<=9223372036854775807:=fun z N=>⟨by omega,by omega⟩
          exact N _ (qX b8 (by omega))
         repeat' apply And.intro
         all_goals first
          |exact de.1
          |exact de.2
          |exact ep
          |exact L1.1
          |exact L1.2
          |exact rfl
          |exact bj
          |exact True.intro
       rintro⟨⟨gz,gi⟩,_⟩ _ ⟨di,d5⟩;simp only at di d5⊢;have dv:qs K1 (A4 (o.getD i.toNat []) c/A4 y c):=L5 fb (by omega);refine⟨ac,R3 dv (by decide), ?_⟩;rintro⟨fl,_⟩ _ bt;change C7 at fl;simp only at bt⊢;rw[L9]at bt;refine⟨⟨a5,by rw[bt];exact BY (oT dv),cn⟩, ?_⟩;rintro⟨nw,_⟩ _ a4;change List D1 at nw;simp only at a4⊢;have a4:JJ (fun j=>A4 (o.getD i.toNat []) j-A4 (o.getD i.toNat []) c/A4 y c*A4 y j) nw:=⟨a4.1,fun j=>(a4.2 j).trans (by dsimp only;rw[bt,L9,g4s, <-tG])⟩;have bu:∀e∈nw,0<=e.1/\e.1<(n:Int):=fun e a1=>qM fun hh=>by
        refine(a4.1.2 e a1).1 ?_;rw[<-H4 a4.1.1 a1];refine(a4.2 e.1).trans ?_;dsimp only;rw[D2 (v:=o.getD i.toNat []) (i:=e.1) fun B a7 c8=>hh (by rw[<-c8];exact(a.can _ a9).2.1 B a7),D2 (v:=y) (i:=e.1) fun B a7 c8=>hh (by rw[<-c8];exact ba B a7),sE,tG,wN,rJ]
       have gq:nw.length<=n:=by
        have:=Ba (n:=(n:Int)) (v:=nw) ⟨a4.1.1,fun e a1=>⟨(bu e a1).1,(bu e a1).2,(a4.1.2 e a1).1⟩⟩;omega
       refine⟨ac,DR n rest (inC c5) i y,fun p=>((y.length:Int)-p.1).toNat,⟨qI _,qF _,aj.lcols,c7,fun j l=>⟨a.crange l,gI ⟨(aj.col j l).1,fun x=>xR⟩⟩⟩, ?_⟩;rintro⟨bz,⟨cx,ga⟩,_⟩ _ E;change Int at bz;change List Q6 at cx;simp only;have fx:=E.1;have fy:=E.2.1;simp only at fx fy;refine⟨fun f=> ?_,fun f=> ?_⟩
       . have f:=qA f;rw[wv (by omega)];obtain⟨u,w,a8⟩:=E.rng ba f;exact⟨u,w,a8,E.next ba f,by omega⟩
       have f:=qB f;have dm:∀j:Int,j∈rest->gH (inC c5) i y j (cx.getD j.toNat []):=fun j l=>by
        have c8:=(E.2.2.2.2 j l).2;simp only at c8;rwa[G9 (show(y.length:Int)<=bz by omega)]at c8
       rw[show(cw.set i.toNat nw).getD i.toNat []=nw from C4 (by rw[aj.lrows];exact a9)];refine⟨by rw[qS];exact ac,ZJ n rest (fun j x=>inC c5 j x/\¬(x=i/\∃e∈y,e.1=j)) i nw,fun p=>((nw.length:Int)-p.1).toNat,⟨qI _,qF _,E.2.2.1,E.2.2.2.1,fun j l=>⟨a.crange l,A6h ⟨(dm j l).1,(dm j l).2⟩⟩⟩, ?_⟩;rintro⟨ec,⟨cy,gb⟩,_⟩ _ I;change Int at ec;change List Q6 at cy;simp only;have fz:=I.1;have g0:=I.2.1;simp only at fz g0;refine⟨fun f=> ?_,fun f=> ?_⟩
       . have f:=qA f;rw[wv (by omega)];obtain⟨u,w,a8⟩:=I.rng bu f;exact⟨u,w,a8,I.next bu f,by omega⟩
       have f:=qB f;rw[wv (by omega)];refine⟨⟨by simp only;omega,by simp only;omega,fun s u w=> ?_,d5,I.2.2.2.1⟩,by omega⟩;have f5:=CI.next (ai s u w) ab M (bk s u w) G bb ad e2 cg (q:=A4 (o.getD i.toNat []) c/A4 y c) (by rw[eo,du]) (nw:=nw) (by rw[cm];exact a4) (cols2:=cy) I.2.2.1 fun j l=>by
        have c8:=(I.2.2.2.2 j l).2;simp only at c8;rw[G9 (show(nw.length:Int)<=ec by omega)]at c8;rw[cm];exact c8
       simp only;rw[dz,di, <-dn];rwa[show((k.toNat:Nat):Int)=k from by omega]at f5
     . have A:=qB A;rw[wv (by omega)];refine⟨⟨by simp only;omega,by simp only;omega,fun s u w=> ?_,bj,c7⟩,by omega⟩;have db:=bk s u w;rw[G9 (by omega)]at db;have er:=CI.doneT (ai s u w) u w ab M db dr fc fd;simp only;rw[show(k+1).toNat=k.toNat+1 from by omega,bg,bh,bi];rwa[show((k.toNat:Nat):Int)=k from by omega]at er
 . have b7:=qB b7;have ci:k=(n:Int):=by omega
   subst ci;simp only[qU]at ai a;have b9:=a.lrows;have dk:=a.llow;have em:=a.lP;have f9:=a.places;refine⟨C2b n P place rows lower,fun q=>((n:Int)-q.2.1).toNat,⟨rfl,qI _,qF _,rN,rN,rfl,fun m J=> .inl (g1r fun h=>b1 m h J),fun g V=>by simp only at V;omega,fun g V=>by simp only at V;omega⟩, ?_⟩;rintro⟨e8,j,L,U,⟨Y,c6⟩,_⟩ _ ⟨rfl,aa,ct,am,an,rfl,cc,c9,ca⟩;change Int at j;change List (List D1)at L U;simp only at aa ct am an cc c9 ca⊢;refine⟨fun l=> ?_,fun l=> ?_⟩
   . have l:=qA l;have I:j.toNat<n:=by omega
     have ek:P.getD j.toNat 0=(ix P j.toNat:Int):=a.P0 _ I;have bp:=a.elim.plt _ I;have b8:=a.lowLen bp;have f4:ix P j.toNat∉c6:=fun J=>by
      rcases cc _ J with h| ⟨g,V,ap⟩
      . omega
      . have:=a.elim.pinj _ _ I (show g<n by omega) ap;omega
     have a5:=a.okFin (by omega) I (show W+W<=K1 by omega);rw[ek];simp only[qU];have u:0<=j/\j<(P.length:Int):=⟨aa,l⟩;have w:0<=(ix P j.toNat:Int)/\(ix P j.toNat:Int)<(Y.length:Int):=⟨qF _,by rw[dk];exact uB.2 bp⟩;have a8:0<=j/\j<(L.length:Int):=⟨aa,by rw[am];omega⟩;have N:∀z:Nat,z<=n->(z+1)*64<=140737488355328/\z+1<=9223372036854775807:=fun z N=>⟨by omega,by omega⟩
     refine⟨u,fun q=>q.1=L.set j.toNat (Y.getD (ix P j.toNat) []++ [(j,rc 1)])/\q.2.1.1=Y/\q.2.1.2=ix P j.toNat::c6, ?_, ?_⟩
     . repeat' first
        |exact f4
        |exact True.intro
        |exact u.1
        |exact u.2
        |exact w.1
        |exact w.2
        |exact a8.1
        |exact a8.2
        |exact rfl
        |exact(N _ (qX b8 (qR _))).1
        |exact(N _ (qX b8 (qR _))).2
        |apply And.intro
        | (rintro⟨r,_⟩ _ M
           have M:r=rc 1:=M.trans (HV 1);subst M)
     rintro⟨L4,⟨gy,gh⟩,_⟩ _ ⟨ag,b2,ao⟩;simp only at ag b2 ao⊢;refine⟨⟨w.1,by rw[b9];exact uB.2 bp⟩,⟨a5,by rw[a.lpl];omega⟩, ?_⟩;rintro⟨av,h2,_⟩ _ ds;change List D1 at av;simp only at ds⊢;have bv:=a.lpl;obtain⟨e1,_⟩:=ds (by rw[bv];exact f9.1) fun i ex=>by
      rw[bv];obtain⟨e,a1,rfl⟩:=Yz ex;exact(a.can _ bp).2.1 e a1
     rw[bv]at e1;rw[wv (by omega)];refine⟨⟨aa,by rw[an];omega⟩,⟨rfl,by simp only;omega,by simp only;omega,by simp only;rw[ag,qS];exact am,by simp only;rw[qS];exact an,b2,fun m J=> ?_,fun g V=> ?_,fun g V=> ?_⟩,by omega⟩
     . simp only at J⊢;rw[ao]at J;rcases qT.1 J with h|h
       . exact .inr ⟨j.toNat,by omega,h⟩
       . rcases cc m h with h| ⟨g,V,ap⟩
         . exact .inl h
         . exact .inr ⟨g,by omega,ap⟩
     . simp only at V⊢;rw[ag];by_cases b5:g=j.toNat
       . subst b5;rw[C4 (by rw[am];exact I),show((j.toNat:Nat):Int)=j from by omega]
       . rw[F4 b5];exact c9 g (by omega)
     . simp only at V⊢;by_cases b5:g=j.toNat
       . subst b5;rw[C4 (by rw[an];exact I)];exact e1
       . rw[F4 b5];exact ca g (by omega)
   . have l:=qB l;have I:j=(n:Int):=by omega
     subst I;have bl:∀g,g<n->L.getD g []=Y.getD (ix P g) []++ [((g:Int),rc 1)]:=fun g V=>c9 g (by omega)
     have bm:∀g,g<n->JJ (fun i=>if 0<=i/\i<(n:Int)then A4 (rows.getD (ix P g) []) ((List.idxOf i e8:Nat):Int)else 0) (U.getD g []):=fun g V=>ca g (by omega)
     have da:=a.done (by omega) am an bl bm;exact⟨fun h=>absurd a6 h,fun _=>⟨fun h=>absurd rfl h,fun _=>⟨fun h=>absurd a.elim.nonsing h,fun _=>⟨da.1,trivial,(a.cans am an bl bm).1,(a.cans am an bl bm).2,fun s u w g b V=>(ai s u w).sizes (fun g=>by omega) bl bm V b,da.2⟩⟩⟩⟩
def FV:An:= {}
abbrev C0b:=(List Int×List Int×MM×Int×Int×List (List EE))×List QQ×Unit
def Mi:A5 W6.args->Prop:=fun(x:C0b)=>let e:=(4:Int);let d:=(1:Int);let c:=(0:Int);let b:=(↑x.1.1.length:Int);let a:=(x.1.1.length:Int);let f:Prop:=((x.2.1.length:Int)≠a);(c<=a/\a<=(16384:Int)/\T2 K1 x.1.2.2.1/\T2 K1 x.1.2.2.2)/\Nz fun r=>(r.1=true↔Y9 x.1 a)->(iB ((!r.1)) ((¬Y9 x.1 b->d=d)/\(Y9 x.1 b->(x.2.1.length≠x.1.1.length->d=e)/\(x.2.1.length=x.1.1.length->d=c))) ((iB (decide f) ((¬Y9 x.1 b->e=d)/\(Y9 x.1 b->(x.2.1.length≠x.1.1.length->e=e)/\(x.2.1.length=x.1.1.length->e=c))) ((¬Y9 x.1 b->c=d)/\(Y9 x.1 b->(x.2.1.length≠x.1.1.length->c=e)/\(x.2.1.length=x.1.1.length->c=c))))))
def NQ:An:= {loop:= [(12,⟨[1,2,7,8,9,30,31,55,56],[0],[(57,false,vI)],[],[(1, .row tQ 31)]⟩),(7,⟨[1,2,7,8,30],[0],[(31,false,vI)],[],[(1, .row tQ 31)]⟩),(24,⟨[2,7,8,13,15,16,80,81,95,96],[0,2],[(97,false,vI)],[],[(1, .row tQ 31)]⟩),(19,⟨[2,7,8,13,80],[0],[(81,false,vI)],[],[(1, .row tQ 31),(2, .row tQ 31)]⟩)],plan:= [(14,[5,7,10,12],[15],true,(pZ9 0 5 (.q 5 (.p 6 (.q 7 (.p 8 (.p 9 (.q 10 (.p 11 (.q 12 (.e 13 (.p 14 (.e 15 .done))))))))))))),(26,[5,7,10,12],[15],true,(pZ9 0 5 (.q 5 (.p 6 (.q 7 (.p 8 (.p 9 (.q 10 (.p 11 (.q 12 (.e 13 (.p 14 (.e 15 .done))))))))))))),(28,[5,9],[15],true,(pZ9 0 5 (.q 5 (pZ9 6 3 (.q 9 (.e 10 (pZ9 11 4 (.e 15 .done)))))))),(29,[2,5,9],[11],true,(.p 0 (.p 1 (.q 2 (.p 3 (.p 4 (.q 5 (pZ9 6 3 (.q 9 (.p 10 (.e 11 .done)))))))))))]}
abbrev C0p:=Int×List QQ×List QQ×Unit
def Tt:A5 Bu.args->Prop:=fun(x:C0b)=>let M:=(1:Nat);let A:=(↑x.1.1.length:Int);let q:=(1:Int);let g:=(0:Int);let d:=(x.1.1.length:Int);let v:Prop:=(g<=d/\d<=d/\(↑(56:Nat):Int)*d<=(281474976710656:Int)/\d<=(9223372036854775807:Int));(List.length x.1.1<=16384/\T2 K1 x.1.2.2.1/\T2 K1 x.1.2.2.2)/\Ed fun r=>(¬Y9 x.1 d->r.1=q)/\(Y9 x.1 d->(List.length x.2.1≠List.length x.1.1->r.1=4)/\(List.length x.2.1=List.length x.1.1->r.1=g))->(iB (decide (r.1≠g)) ((¬Y9 x.1 A->Lk QQ= []/\r.1=q)/\(Y9 x.1 A->(x.2.1.length≠x.1.1.length->Lk QQ= []/\r.1=4)/\(x.2.1.length=x.1.1.length->r.1=g/\0=x.1.1.length/\(∀(e:QQ),e∈ []->e=rc (rv e))/\(∀(s T:Nat),M<=s->M<=T->T2 s x.1.2.2.1->T2 s x.1.2.2.2->LQ T x.2.1->LQ (hK s (gK s T x.1.1.length) x.1.1.length+s) [])/\∀(i:Nat),i<x.1.1.length->(B9 x.1.1.length fun(j:Nat)=>nV x.1 x.1.1.length i j*rv ([].getD (ix x.1.2.1 j) zr))=rv (x.2.1.getD (ix x.1.1 i) zr)))) (v/\∃(I:lD->Prop),∃(b: _->Nat),I (g,List.replicate d.toNat dQ,())/\∀(p:lD),let E:=p.1.toNat;let m:=(gx [] x.1.2.2.1.2.2 p.1);let B:=(↑m.length:Int);let L:=(i64.wrap (B-q));let a:=(↑(List.drop g.toNat (List.take L.toNat m)).length:Int);(Ty.int i64).wf p.1/\WfL p.2.1/\True->I p->(iB (decide (p.1<d)) ((g<=p.1/\p.1<d)/\(g<=gx g x.1.1 p.1/\gx g x.1.1 p.1<(x.2.1.length:Int))/\(g<=p.1/\p.1<(p.2.1.length:Int))/\(g<=p.1/\p.1<(x.1.2.2.1.2.2.length:Int))/\(g<=g/\g<=i64.wrap (B-q)/\i64.wrap (B-q)<=B)/\∃(I_1:lD->Prop),∃(h: _->Nat),I_1 (g,List.set p.2.1 E (gx dQ x.2.1 (gx g x.1.1 p.1)),())/\∀(N:lD),let K:=(List.getD N.2.1 E dQ);let F:=(i64.wrap (p.1+q),N.2.1,());let D:=(N.2.1.length:Int);let c:=(gx D6 (List.drop g.toNat (List.take L.toNat m)) N.1);let t:=(List.getD N.2.1 c.1.toNat dQ);(Ty.int i64).wf N.1/\WfL N.2.1/\True->I_1 N->(iB (decide (N.1<a)) ((g<=N.1/\N.1<a)/\(g<=p.1/\p.1<D)/\(g<=c.1/\c.1<D)/\(sz K1 K/\sz K1 c.2/\sz K1 t)/\I5 fun r=>let z:=(i64.wrap (N.1+q),List.set N.2.1 E r.1,());(rv t=(0:Rat)->r.1=List.getD N.2.1 E dQ)/\(rv t≠(0:Rat)->r.1=rc (rv K-rv c.2*rv t))->(g<=p.1/\p.1<D)/\I_1 z/\h z<h N) (I F/\b F<b p))) (v/\∃(I:C0p->Prop),∃(b: _->Nat),I (g,p.2.1,List.replicate d.toNat dQ,())/\∀(p:C0p),let a:=(i64.wrap (d-q)-p.1);let k:=(i64.wrap a);let l:=(gx [] x.1.2.2.2.2.2 k);let J:=(gx D6 l g);let y:=(↑l.length:Int);let o:=(↑(List.drop q.toNat (List.take y.toNat l)).length:Int);(Ty.int i64).wf p.1/\WfL p.2.1/\WfL p.2.2.1/\True->I p->(iB (decide (p.1<d)) ((g<=i64.wrap a/\i64.wrap a<(x.1.2.2.2.2.2.length:Int))/\(g<=q/\q<=y/\y<=y)/\∃(I_1:lD->Prop),∃(h: _->Nat),I_1 (g,p.2.1,())/\∀(N:lD),let G:=(N.2.1.length:Int);let w:=(List.getD N.2.1 k.toNat dQ);let d:Prop:=(g<=i64.wrap a/\i64.wrap a<G);let f:=(gx D6 (List.drop q.toNat (List.take y.toNat l)) N.1);let u:=(List.getD N.2.1 f.1.toNat dQ);(Ty.int i64).wf N.1/\WfL N.2.1/\True->I_1 N->(iB (decide (N.1<o)) ((g<=N.1/\N.1<o)/\d/\(g<=f.1/\f.1<G)/\(sz K1 w/\sz K1 f.2/\sz K1 u)/\I5 fun r=>let C:=(i64.wrap (N.1+q),List.set N.2.1 k.toNat r.1,());(rv u=(0:Rat)->r.1=List.getD N.2.1 k.toNat dQ)/\(rv u≠(0:Rat)->r.1=rc (rv w-rv f.2*rv u))->d/\I_1 C/\h C<h N) (d/\(g<=g/\g<y)/\(E7 w/\E7 J.2)/\∀(r:lE),let H:=(List.set N.2.1 k.toNat r.1);let n:=(i64.wrap (p.1+q),List.set N.2.1 k.toNat r.1,List.set p.2.2.1 (gx g x.1.2.1 k).toNat (H.getD k.toNat dQ),());FP r.1/\True/\True->(rv J.2=(0:Rat)->r.2.1=false)/\(rv J.2≠(0:Rat)->r.1=rc (rv w/rv J.2)/\r.2.1=true)->d/\(g<=i64.wrap a/\i64.wrap a<(x.1.2.1.length:Int))/\(g<=i64.wrap a/\i64.wrap a<(↑H.length:Int))/\(g<=gx g x.1.2.1 k/\gx g x.1.2.1 k<(p.2.2.1.length:Int))/\I n/\b n<b p))) ((¬Y9 x.1 A->p.2.2.1= []/\g=q)/\(Y9 x.1 A->(x.2.1.length≠x.1.1.length->p.2.2.1= []/\g=(4:Int))/\(x.2.1.length=x.1.1.length->g=g/\List.length p.2.2.1=x.1.1.length/\(∀(e:QQ),e∈p.2.2.1->e=rc (rv e))/\(∀(s T:Nat),M<=s->M<=T->T2 s x.1.2.2.1->T2 s x.1.2.2.2->LQ T x.2.1->LQ (hK s (gK s T x.1.1.length) x.1.1.length+s) p.2.2.1)/\∀(i:Nat),i<x.1.1.length->(B9 x.1.1.length fun(j:Nat)=>nV x.1 x.1.1.length i j*rv (List.getD p.2.2.1 (ix x.1.2.1 j) zr))=rv (x.2.1.getD (ix x.1.1 i) zr)))))))))
def zok (k:Nat) (q:Rat) (x:C7):Prop:=sz k x/\Wk x/\rv x=q
def B1a {k:Nat} {q:Rat} (h:qs k q):zok k q (rc q):=⟨BY h,A1d q,L9 q⟩
def lS {j k:Nat} {q:Rat} {x:C7} (h:zok j q x) (a:j<=k):zok k q x:=⟨H0 h.1 a,h.2⟩
def Gz {s T:Nat} :∀ {a b:Nat},a<=b->gK s T a<=gK s T b
 |a,0,h=>by have:a=0:=by omega
            subst this;exact qR _
 |a,b+1,h=>by
  by_cases c:a=b+1
  . subst c;exact qR _
  . have:=Gz (s:=s) (T:=T) (a:=a) (b:=b) (by omega);simp only[gK];omega
def Iv {s T:Nat} :∀ {a b:Nat},a<=b->hK s T a<=hK s T b
 |a,0,h=>by have:a=0:=by omega
            subst this;exact qR _
 |a,b+1,h=>by
  by_cases c:a=b+1
  . subst c;exact qR _
  . have:=Iv (s:=s) (T:=T) (a:=a) (b:=b) (by omega);simp only[hK];omega
def B2g {v:List D1} {i:Nat} (a:∀e∈v,0<=e.1/\e.1<(i:Int)) (h:Nat->Rat):Rq v (fun j=>h j.toNat)=B9 i fun j=>A4 v (j:Int)*h j:=by
 rw[A0s a];exact A8 fun j _=>by rw[qU]
def lR {s j k:Nat} {a f b r:C7} {x y:Rat} (d:zok j x a) (w:Wk f) (z:sz s f) (D:1<=s) (v:zok k y b) (A:1<=j) (B:1<=k) (t:rv b=0->r=a) (u:rv b≠0->r=rc (rv a-rv f*rv b)):zok (j+(s+k)+1) (x-rv f*y) r:=by
 obtain⟨g,h,i⟩:=id d;obtain⟨l,n,o⟩:=id v;subst i o;by_cases c:rv b=0
 . rw[t c,c,sE,tG,wN,rJ];exact lS d (by omega)
 . rw[u c];exact B1a (A9w (Pm h g A) (EP (Pm w z D) (Pm n l B)))
def FW (s T n i:Nat) (Lm:Nat->Nat->Rat) (b:Nat->Rat) (z:List C7):Prop:=z.length=n/\∀j,j<i->zok (gK s T j) (rv (z.getD j zr)) (z.getD j zr)/\rv (z.getD j zr)+B9 j (fun m=>Lm j m*rv (z.getD m zr))=b j
def FI (s T i:Nat) (c:Rat) (w:List D1) (b:List C7) (t:Nat) (z:List C7):Prop:=∃a,z=b.set i a/\Wk a/\rv a=c-Rq (w.take t) (fun j=>rv (b.getD j.toNat zr))/\∀m:Nat,(∀e∈w.take t,e.1<(m:Int))->sz (gK s T m) a
variable {s T n i:Nat} {c:Rat} {w:List D1} {z0 z:List C7} {Lm:Nat->Nat->Rat} {b:Nat->Rat}
def FI.init {x:C7} (a:zok T c x):FI s T i c w z0 0 (z0.set i x):=
 ⟨x,rfl,a.2.1,by rw[a.2.2];simp only[g0x,Rq];rw[tG,wN,rJ],fun m _=>H0 a.1 (Gz (rI m))⟩
def FI.next (l:FW s T n i Lm b z0) (hT:1<=T) (hs:1<=s) (hi:i<n) (hasc:asc w) (hw:∀e∈w,0<=e.1/\e.1<(i:Int)/\sz s e.2/\Wk e.2) {t:Int} (t0:0<=t) (t1:t<(w.length:Int)) (h:FI s T i c w z0 t.toNat z):
 (z.length=n/\sz (gK s T i) (z.getD i zr)/\sz (gK s T i) (z.getD (gx D6 w t).1.toNat zr))/\∀r,(rv (z.getD (gx D6 w t).1.toNat zr)=0->r=z.getD i zr)->(rv (z.getD (gx D6 w t).1.toNat zr)≠0->r=rc (rv (z.getD i zr)-rv (gx D6 w t).2*rv (z.getD (gx D6 w t).1.toNat zr)))->FI s T i c w z0 (t+1).toNat (z.set i r):=by
 obtain⟨v,rfl,F,I,M⟩:=h;have E:=I7 (d:=D6) t0 t1;obtain⟨Q,R,A,B⟩:=hw _ E;have D:∀y∈w.take t.toNat,y.1<(gx D6 w t).1:=fun y hy=>by
  have f:(w.take (t+1).toNat).Pairwise (fun a b=>a.1<b.1):=zL hasc;rw[show(t+1).toNat=t.toNat+1 from by omega,rR,H2 (d:=D6) t0 t1,tA]at f;exact f.2.2 y hy (gx D6 w t) (by simp)
 have J:=YX (d:=D6) t0 t1 (fun j=>rv (z0.getD j.toNat zr));have N:∀m:Nat,(∀e∈w.take (t+1).toNat,e.1<(m:Int))->(gx D6 w t).1<(m:Int):=fun m k=>k _ (by
  rw[show(t+1).toNat=t.toNat+1 from by omega,rR,H2 (d:=D6) t0 t1];simp)
 generalize gx D6 w t=e at*;have H:e.1.toNat≠i:=by omega
 have G:=l.1;rw[F4 H,C4 (by omega)];obtain⟨u,_⟩:=l.2 e.1.toNat (by omega);have f:=M e.1.toNat fun y hy=>by have:=D y hy;omega
 have o:∀m,1<=gK s T m:=fun m=>qX hT (Gz (rI m))
 refine⟨⟨by rw[qS];exact G,H0 f (Gz (by omega)),H0 u.1 (Gz (by omega))⟩,fun r O P=> ?_⟩;have g:=lR (x:=rv v) ⟨f,F,rfl⟩ B A hs u (o _) (o _) O P;refine⟨r,by rw[g4e],g.2.1, ?_,fun m k=> ?_⟩
 . rw[g.2.2,J,I];grind
 . refine H0 g.1 (qX ?_ (Gz (show e.1.toNat+1<=m by have:=N m k;omega)));simp only[gK];omega
def FI.done (k:FW s T n i Lm b z0) (G:i<n) (r:∀e∈w,0<=e.1/\e.1<(i:Int)) (x:∀j,j<i->A4 w (j:Int)=Lm i j) {t:Nat} (F:w.length<=t) (h:FI s T i (b i) w z0 t z):FW s T n (i+1) Lm b z:=by
 obtain⟨d,rfl,D,l,o⟩:=h;have E:=k.1;rw[qQ F]at l o;have c:∀j,j<i->(z0.set i d).getD j zr=z0.getD j zr:=fun j A=>F4 (by omega)
 refine⟨by rw[qS];exact E,fun j A=> ?_⟩;by_cases B:j=i
 . subst B;rw[C4 (by omega)];refine⟨⟨o j fun e y=>(r e y).2,D,rfl⟩, ?_⟩;rw[l,B2g r (fun m=>rv (z0.getD m zr)),A8 (f:=fun m=>Lm j m*rv ((z0.set j d).getD m zr)) (g:=fun m=>A4 w (m:Int)*rv (z0.getD m zr)) fun m a=>by rw[c m a,x m a]];grind
 . rw[c j (by omega)];obtain⟨u,v⟩:=k.2 j (by omega);refine⟨u, ?_⟩;rw[<-v];congr 1;exact A8 fun m a=>by rw[c m (by omega)]
end Go.Proofs.YtljgpjhcieidbaaGreat
