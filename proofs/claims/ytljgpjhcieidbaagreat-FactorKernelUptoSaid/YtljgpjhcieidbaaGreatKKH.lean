/- Part. -/
import Derived.Test.YtljgpjhcieidbaaGreatKKG
set_option linter.all false
namespace Go.Proofs.YtljgpjhcieidbaaGreat
open Go.Proofs.Tryz
open Go.Vc Go.Gw
open Go.IntKind (i64 u64 u32)
def grown (n m i j:Nat) (f:Nat->Nat->Rat) (rows:List (List C6)):Prop:=rows.length=n/\∀k,k<n->rows.getD k []=(List.range (if k<i then m else if k=i then j else 0)).map fun l=>rc (f k l)
def A9p {m:N0} (i:Int) (a:0<=i) (b:i<m.1):gx [] (LM m) i=dl m.2.1 (A3 (m.2.2.getD i.toNat [])):=by
 rw[V2 a (by rw[A3c];omega),A9o (by omega)]
def B4s {m:N0} {i:Int} (a:0<=i) (b:i<m.1):(gx [] (LM m) i).length=m.2.1.toNat:=by rw[A9p i a b,MF]
def SE (x:A4 Io.args) (J:awf Io.args x) (I:Io.pre x):LD x:=by
 obtain⟨⟨R,C,D⟩,X,_⟩:=x;have H:Yb (R,C,D):=Jx J.1.2.2.2;change Int at R C;change List (List C8)at D;change List C6 at X;obtain⟨A,T,l,r,E,t,M,V,hK,B⟩:∃A T l:Nat,1<=A/\1<=T/\Q8 A (R,C,D)/\Mq T X/\C<=(l:Int)/\(A+T+1)*(l+1)<=2199023255552/\A<=K1:=I;have u:=B1w t B;simp only[LD,iB,Mj];refine⟨u, ?_⟩;rintro⟨w,_⟩ _ f;simp only at f⊢;by_cases a:A7 (R,C,D)
 case neg=>
  have f:w=false:=by rw[f];exact rC a
  rw[f];exact⟨fun _=>⟨fun _=>⟨by trivial,by trivial⟩,fun h=>absurd h a⟩,fun h=>(by cases h)⟩
 have f:w=true:=by rw[f];exact rE a
 rw[f];obtain⟨y,O,P,Q,_,_⟩:=id a;simp only at y O P Q;refine⟨fun h=>(by cases h),fun _=>⟨fun h=> ?_,fun h=> ?_⟩⟩
 . have h:=qA h;exact⟨fun c=>absurd a c,fun _=>⟨fun _=>⟨by trivial,by trivial⟩,fun c=>absurd c h⟩⟩
 have G:=uT.1 (qB h);refine⟨⟨u,a⟩, ?_⟩;rintro⟨e,_⟩ _ k;simp only at k⊢;have W:e.length=R.toNat:=by rw[k];exact A3c _
 let F:Nat->C6:=fun i=>rc (C0 X.length fun j=>el (R,C,D) i j*rv (X.getD j zr))
 refine⟨fun p=>0<=p.2.1/\p.2.1<=R/\p.1=(List.range p.2.1.toNat).map F,fun p=>(R-p.2.1).toNat,⟨qG _,y,rfl⟩, ?_⟩;rintro⟨v,i,_⟩ _ ⟨g,N,n⟩;change Int at i;change List C6 at v;simp only at g N n⊢;refine⟨fun b=> ?_,fun b=> ?_⟩
 . have b:=qA b;have s:(gx [] e i).length=X.length:=by
    have:(gx [] e i).length=C.toNat:=by rw[k];exact B4s g b
    omega
   refine⟨⟨g,by omega⟩,⟨A,T,l,r,E, ?_,M,by omega,hK⟩, ?_⟩
   . exact B9b a H t r _ (by rw[<-k];exact G5 (d:=([]:List C6)) g (by omega))
   . rintro⟨q,U,_⟩ _ o;simp only at o⊢;obtain⟨o,_⟩:=o s;have Y:v.length=i.toNat:=by rw[n];simp
     rw[wv (by omega)];refine⟨⟨by rw[rA];omega,by rw[rA];omega⟩,⟨by omega,by omega, ?_⟩,by omega⟩;rw[mS F g,n,o,s];have z:C0 X.length (fun j=>rv ((gx [] e i).getD j zr)*rv (X.getD j zr))=C0 X.length fun j=>el (R,C,D) i.toNat j*rv (X.getD j zr):=B6 fun j hj=>by
      rw[k,A9p i g b,SJ _ (by show(j:Int)<C;omega),H8];rfl
     rw[z]
 . have b:=qB b;exact⟨fun c=>absurd a c,fun _=>⟨fun c=>absurd G c,fun _=>⟨by rw[n,show i=R from by omega],by trivial⟩⟩⟩
def jQ:An:= {}
def jR:An:= {}
def HY:An:= {plan:= [(1,[3,7],[],true,(pZ9 0 3 (.q 3 (pZ9 4 3 (.q 7 (.p 8 (.p 9 .done))))))),(4,[3,7,10],[],true,(pZ9 0 3 (.q 3 (pZ9 4 3 (.q 7 (.p 8 (.p 9 (.q 10 (.p 11 (.e 12 (.p 13 .done)))))))))))]}
def LR:An:= {}
def CE:An:= {join:= [(12,⟨[0,1,2,6,7,8,9,10,11],[1,2,3],[],[(0,81,[.val (.sl (.int .i64)), .val (.int .i64)]),(4,31,[.val .bool, .val (.sl (.int .u32)), .val (.sl (.int .u32))])],[]⟩)],loop:= [(7,⟨[0,1,2,6,7,8],[1,2],[(9,false,[.own tQ 31]),(10,false,vI)],[(0,81,[.val (.sl (.int .i64)), .val (.int .i64)])],[]⟩),(3,⟨[0,1,2,6],[1],[(7,false,[.own (.sl tQ) 56]),(8,false,vI)],[(0,81,[.val (.sl (.int .i64)), .val (.int .i64)])],[]⟩)]}
def PD:A4 Lc.args->Prop:=fun(x:Dh)=>let b:=(u64.wrap x.2.1);let a:=(u64.wrap x.1);u64.wrap x.2.1≠0/\(0<x.2.1->(0:Int)<=i64.wrap (a.tmod b)/\i64.wrap (a.tmod b)<x.2.1/\i64.wrap (a.tmod b)=a.tmod x.2.1)
def oQ:A4 Hr.args->Prop:=fun(x:Ry)=>(x.1,(0:Int))=(x.1,(0:Int))
def Nr:A4 S9.args->Prop:=fun(x:(Wf×Int)×Int×Unit)=>let e:=(1:Int);let d:=(↑x.1.1.length:Int);let c:=(x.1.1.length:Int);let b:=(0:Int);let a:=(i64.wrap (x.1.2+e)-e);(iB (decide (c<=x.1.2)) ((b<=b/\b<x.2.1)/\x.1.1=x.1.1/\b<=x.1.2/\x.1.2<=d) ((b<=i64.wrap a/\i64.wrap a<c)/\b<x.2.1/\Fg fun r=>(b<x.2.1->b<=r.1/\r.1<x.2.1/\r.1=(u64.wrap (gx b x.1.1 (i64.wrap a))).tmod x.2.1)->(b<=r.1/\r.1<x.2.1)/\x.1.1=x.1.1/\b<=i64.wrap (x.1.2+e)/\i64.wrap (x.1.2+e)<=d))
abbrev Wr:=(Wf×Int)×Unit
def Sc:A4 Av.args->Prop:=fun(x:Wr)=>let b:=(x.1.1.length:Int);let a:=(0:Int);(a<(13:Int)/\a<=x.1.2/\x.1.2<=b)/\∀(r:D6) (o:Wr),let c:=(o.1.1.length:Int);O4 r.1/\True->((Ty.int i64).sl.pair (Ty.int i64)).wf o.1/\True->a<=r.1/\r.1<13->o.1.1=x.1.1/\a<=o.1.2/\o.1.2<=b->(a<(4:Int)/\a<=o.1.2/\o.1.2<=c)/\∀(e:D6) (d:Wr),O4 e.1/\True->((Ty.int i64).sl.pair (Ty.int i64)).wf d.1/\True->a<=e.1/\e.1<4->d.1.1=o.1.1/\a<=d.1.2/\d.1.2<=c->True/\K7 fun f=>f.1=rc (Rat.divInt (i64.wrap (r.1-6)) (i64.wrap (1+e.1)))->fW f.1/\d.1.1=x.1.1/\a<=d.1.2/\d.1.2<=(↑x.1.1.length:Int)
def rT7 (P:MM×Unit->Prop):Prop:=∀r:MM×Unit,WfM r.1/\True->P r
abbrev C3o:=List (List QQ)×Int×Wf×Int×Unit
abbrev C3w:=Wf×Int×Bool×Wf×Wf×Unit
abbrev C4g:=List QQ×Int×Wf×Int×Unit
def Jk:A4 O8.args->Prop:=fun(x:(Wf×Int)×Int×Int×Unit)=>let g:=(140737488355328:Nat);let c:=(0:Int);∃(I:C3o->Prop),∃(h: _->Nat),I ([],c,x.1.1,x.1.2,())/\∀(p:C3o),tQ.sl.sl.wf p.1/\(Ty.int i64).wf p.2.1/\(Ty.int i64).sl.wf p.2.2.1/\(Ty.int i64).wf p.2.2.2.1/\True->I p->(iB (decide (p.2.1<x.2.1)) (∃(I_1:C4g->Prop),∃(i: _->Nat),I_1 ([],c,p.2.2.1,p.2.2.2.1,())/\∀(k:C4g),let a:Prop:=(k.2.1<x.2.2.1);let e:=(k.2.2.1.length:Int);let b:=(p.1++ [k.1],i64.wrap (p.2.1+1),k.2.2.1,k.2.2.2.1,());tQ.sl.wf k.1/\(Ty.int i64).wf k.2.1/\(Ty.int i64).sl.wf k.2.2.1/\(Ty.int i64).wf k.2.2.2.1/\True->I_1 k->(iB (decide a) (True/\K7 fun r=>r.1=rc (0:Rat)->∃(J:C3w->Prop),((c<(3:Int)/\c<=k.2.2.2.1/\k.2.2.2.1<=e)/\∀(n:D6) (o:Wr),let f:=(o.1.1.length:Int);O4 n.1/\True->((Ty.int i64).sl.pair (Ty.int i64)).wf o.1/\True->c<=n.1/\n.1<3->o.1.1=k.2.2.1/\c<=o.1.2/\o.1.2<=e->(iB (decide (c<n.1)) ((c<=o.1.2/\o.1.2<=f)/\∀(r:C9) (m:Wr),HO r.1/\True->((Ty.int i64).sl.pair (Ty.int i64)).wf m.1/\True->fW r.1->m.1.1=o.1.1/\c<=m.1.2/\m.1.2<=f->J (m.1.1,m.1.2,r.1.1.1,r.1.1.2,r.1.2,())) (J (o.1.1,o.1.2,r.1.1.1,r.1.1.2,r.1.2,()))))/\∀(p:C3w),let a:=((p.2.2.1,p.2.2.2.1),p.2.2.2.2.1);let d:=(k.1++ [a],i64.wrap (k.2.1+1),p.1,p.2.1,());(Ty.int i64).sl.wf p.1/\(Ty.int i64).wf p.2.1/\Ty.bool.wf p.2.2.1/\(Ty.int u32).sl.wf p.2.2.2.1/\(Ty.int u32).sl.wf p.2.2.2.2.1/\True->J p->((k.1.length+ [a].length)*(56:Nat)<=g/\k.1.length+ [a].length<=9223372036854775807)/\I_1 d/\i d<i k) (((p.1.length+ [k.1].length)*(24:Nat)<=g/\p.1.length+ [k.1].length<=9223372036854775807)/\I b/\h b<h p))) (((∀(l:List QQ),l∈p.1->Mq K1 l/\(↑l.length:Int)=x.2.2.1)/\c<=x.2.2.1/\x.2.2.1<=16384/\p.1.length<=(16384:Nat))/\rT7 fun r=>jD p.1.length x.2.2.1.toNat (fun(i j:Nat)=>rv ((p.1.getD i []).getD j zr)) r.1->A5r x.2.1.toNat x.2.2.1.toNat r.1/\p.2.2.1=x.1.1/\c<=p.2.2.2.1/\p.2.2.2.1<=(↑x.1.1.length:Int)))
def YC (x:A4 Hr.args) (_:awf Hr.args x) (_:Hr.pre x):oQ x:=rfl
def Zk (x:A4 S9.args) (f:awf S9.args x) (d:S9.pre x):Nr x:=by
 obtain⟨⟨l,i⟩,n,_⟩:=x;have k:l.length<=9223372036854775807:=f.1.1.1;change Int at i n;change Wf at l;obtain⟨b,g,j⟩:0<n/\0<=i/\i<=(l.length:Int):=d;simp only[Nr,iB,Fg];refine⟨fun h=>⟨⟨by omega,b⟩,by trivial,g,j⟩,fun h=> ?_⟩;have h:=qB h;rw[wv (a:=i+1) (by omega),wv (a:=i+1-1) (by omega)];refine⟨⟨by omega,by omega⟩,b, ?_⟩;rintro⟨r,_⟩ _ c;exact⟨⟨(c b).1,(c b).2.1⟩,by trivial,by omega,by omega⟩
def YB (x:A4 Lc.args) (j:awf Lc.args x) (i:Lc.pre x):PD x:=by
 obtain⟨a,b,_⟩:=x;change Int at a b;have h:0<b:=i;have c:MO .i64 b:=j.2.1;unfold MO at c;rw[show i64.min= -9223372036854775808 from by decide,show i64.max=9223372036854775807 from by decide]at c;simp only[PD];have e:u64.wrap b=b:=by simp[IntKind.wrap,IntKind.bits,IntKind.signed];omega
 have d:0<=u64.wrap a:=by simp[IntKind.wrap,IntKind.bits,IntKind.signed];omega
 rw[e];have f:0<=(u64.wrap a).tmod b:=zE _ d;have g:(u64.wrap a).tmod b<b:=Int.tmod_lt_of_pos _ h;rw[wv (by omega)];exact⟨by omega,fun _=>⟨f,g,rfl⟩⟩
def lZ {a b:Int} (d:a.natAbs<4294967296) (c:0<b) (f:b.natAbs<4294967296):fW (rc (Rat.divInt a b)):=by
 refine⟨_, ?_,rfl⟩;rw[UL c];exact JR (by omega) (Ep (by simpa using d)) (Ep (by simpa using f))
def DI (x:A4 Av.args) (v:awf Av.args x) (k:Av.pre x):Sc x:=by
 obtain⟨⟨l,i⟩,_⟩:=x;change Int at i;change Wf at l;obtain⟨t,u⟩:0<=i/\i<=(l.length:Int):=k;simp only[Sc,K7];refine⟨⟨by omega,t,u⟩, ?_⟩;rintro⟨f,_⟩ ⟨⟨r,n⟩,_⟩ _ _ h a;change Int at n f;change Wf at r;simp only at h a⊢;obtain⟨rfl,b,c⟩:=a;refine⟨⟨by omega,b,c⟩, ?_⟩;rintro⟨g,_⟩ ⟨⟨s,o⟩,_⟩ _ _ j a;change Int at o g;change Wf at s;simp only at j a⊢;obtain⟨rfl,b,c⟩:=a;refine⟨trivial, ?_⟩;rintro⟨q,_⟩ _ d;simp only at d⊢;rw[wv (by omega),wv (by omega)]at d;exact⟨by rw[d];exact lZ (by omega) (by omega) (by omega),by trivial,b,c⟩
def B4y {x:C6} (h:fW x):qs 1 (rv x):=by
 obtain⟨q,a,rfl⟩:=h;rw[H8];exact a
def B4z {x:C6} (h:fW x) {k:Nat} (a:1<=k):sz k x:=by
 obtain⟨q,b,rfl⟩:=h;exact⟨qY b.1 a,qY b.2 a⟩
def Uo (x:A4 O8.args) (aa:awf O8.args x) (Y:O8.pre x):Jk x:=by
 obtain⟨⟨l,t⟩,R,C,_⟩:=x;change Int at t R C;change Wf at l;obtain⟨a7,ab,B,c1,a5,a6⟩:0<=R/\R<=20/\0<=C/\C<=20/\0<=t/\t<=(l.length:Int):=Y;simp only[Jk,iB,K7,rT7];refine⟨fun p=>0<=p.2.1/\p.2.1<=R/\(p.1.length:Int)=p.2.1/\(∀v∈p.1,(v.length:Int)=C/\∀e∈v,fW e)/\p.2.2.1=l/\0<=p.2.2.2.1/\p.2.2.2.1<=(l.length:Int),fun p=>(R-p.2.1).toNat,⟨qG _,a7,rfl,fun e a=>(by cases a),rfl,a5,a6⟩, ?_⟩;rintro⟨o,a3,w,Z,_⟩ _ ⟨U,V,W,f,G,n,r⟩;change Int at a3 Z;change Wf at w;change List (List C6)at o;simp only at U V W f G n r⊢;subst G;refine⟨fun h=> ?_,fun h=> ?_⟩
 . have h:=qA h;refine⟨fun p=>0<=p.2.1/\p.2.1<=C/\(p.1.length:Int)=p.2.1/\(∀e∈p.1,fW e)/\p.2.2.1=w/\0<=p.2.2.2.1/\p.2.2.2.1<=(w.length:Int),fun p=>(C-p.2.1).toNat,⟨qG _,B,rfl,fun e a=>(by cases a),rfl,n,r⟩, ?_⟩;rintro⟨a8,a2,y,a0,_⟩ _ ⟨P,Q,T,i,F,j,k⟩;change Int at a2 a0;change Wf at y;change List C6 at a8;simp only at P Q T i F j k⊢;subst F;refine⟨fun h=> ?_,fun h=> ?_⟩
   . have h:=qA h;refine⟨trivial, ?_⟩;rintro⟨ac,_⟩ _ M;simp only at M⊢;refine⟨fun p=>p.1=y/\0<=p.2.1/\p.2.1<=(y.length:Int)/\fW ((p.2.2.1,p.2.2.2.1),p.2.2.2.2.1),⟨⟨by omega,j,k⟩, ?_⟩, ?_⟩
     . rintro⟨b,_⟩ ⟨⟨z,u⟩,_⟩ _ _ s g;change Int at u b;change Wf at z;simp only at s g⊢;obtain⟨rfl,c,d⟩:=g;refine⟨fun _=>⟨⟨c,d⟩, ?_⟩,fun _=> ?_⟩
       . rintro⟨q,_⟩ ⟨⟨a4,a1⟩,_⟩ _ _ I g;change Int at a1;change Wf at a4;simp only at I g⊢;obtain⟨rfl,N,O⟩:=g;exact⟨by trivial,N,O,I⟩
       . exact⟨by trivial,c,d,⟨0,I7 (by decide),M⟩⟩
     . rintro⟨z,u,A,m,a9,_⟩ _ ⟨c,d,D,E⟩;change Int at u;change Wf at z;simp only at c d D E⊢;subst c;rw[wv (by omega)];refine⟨⟨by rw[rA];omega,by rw[rA];omega⟩,⟨by omega,by omega,by rw[rR,rA];omega,fun e a=> ?_,by trivial,d,D⟩,by omega⟩;rcases qZ.1 a with a|a
       . exact i e a
       . rw[qX.1 a];exact E
   . have h:=qB h;rw[wv (by omega)];refine⟨⟨by rw[rA];omega,by rw[rA];omega⟩,⟨by omega,by omega,by rw[rR,rA];omega,fun e a=> ?_,by trivial,j,k⟩,by omega⟩;rcases qZ.1 a with a|a
     . exact f e a
     . rw[qX.1 a];exact⟨by omega,i⟩
 . have h:=qB h;refine⟨⟨fun v J=>⟨fun e a=>B4z ((f v J).2 e a) (by decide),(f v J).1⟩,B,by omega,by omega⟩, ?_⟩;rintro⟨m,_⟩ _ H;simp only at H⊢;refine⟨⟨_,fun b A=> ?_,by rw[show R.toNat=o.length from by omega];exact H⟩,by trivial,n,r⟩;by_cases s:b<o.length
   . by_cases X:A<(o.getD b []).length
     . exact B4y ((f _ (D2 s)).2 _ (D2 X))
     . rw[qE (l:=o.getD b []),rT (by omega)];exact I7 (by decide)
   . rw[qE (l:=o),rT (by omega)];exact I7 (by decide)
def Cp:An:= {}
def Dd:An:= {loop:= [(4,⟨[0,1,2,3,8],[],[(9,false,vI)],[],[(0, .row tE 70)]⟩),(1,⟨[0,1,2,3],[],[(8,false,vI)],[],[(0, .row tE 70)]⟩)],plan:= [(4,[8,13],[],false,(pZ9 0 8 (.q 8 (pZ9 9 4 (.q 13 (.e 14 (.p 15 (.p 16 .done)))))))),(6,[9,13],[15,17],true,(pZ9 0 9 (.q 9 (pZ9 10 3 (.q 13 (.p 14 (.e 15 (.p 16 (.e 17 .done)))))))))]}
def Hz:An:= {join:= [(16,⟨[0,1,2,6],[],[],[],[(0, .row tE 70)]⟩)],loop:= [(2,⟨[0,1,2,6],[],[(7,false,vI),(8,false,vI)],[],[(0, .row tE 70)]⟩),(9,⟨[0,1,2,6],[],[(7,false,vI),(8,false,vI)],[],[(0, .row tE 70)]⟩),(7,⟨[0,1,2],[],[(6,false,vI)],[],[(0, .row tE 70)]⟩)]}
def IJ:An:= {}
def II:An:= {join:= [(14,⟨[3,18,19,20],[],[(4,false,vI)],[],[(0, .row tE 70)]⟩)],loop:= [(8,⟨[3,18,19],[],[(4,false,vI),(20,false,vI)],[],[(0, .row tE 70)]⟩)],plan:= [(10,[8,10],[],true,(pZ9 0 8 (.q 8 (.p 9 (.q 10 (.p 11 (.p 12 .done))))))),(11,[8,10],[14],true,(pZ9 0 8 (.q 8 (.p 9 (.q 10 (.e 11 (.p 12 (.p 13 (.e 14 .done)))))))))]}
def R2:A4 F3.args->Prop:=fun(x:List EE×((EE×EE×Unit->Prop)×(EE×EE×Unit->Int))×Unit)=>let a:=(x.1.length:Int);Go.Proofs.Tryz.prog=Go.Proofs.Tryz.prog/\false=false/\((Yf x.2.1.1 fun(z:RR)=>x.2.1.2 z)/\a=a/\List.length x.1<=20)/\∀(r:Unit) (o:Gj),True->tE.sl.wf o.1/\True->True->o.1.Perm x.1/\Wo (fun(z:RR)=>x.2.1.2 z) o.1->True/\o.1.Perm x.1/\Wo x.2.1.2 o.1
abbrev RU:=Int×List EE×Unit
def S2:A4 F6.args->Prop:=fun(x:List EE×Int×Int×((EE×EE×Unit->Prop)×(EE×EE×Unit->Int))×Unit)=>let m:=(0:Int);let i:=(1:Int);∃(I:RU->Prop),∃(a: _->Nat),I (i64.wrap (x.2.1+i),x.1,())/\∀(p:RU),(Ty.int i64).wf p.1/\Mk p.2.1/\True->I p->(iB (decide (p.1<x.2.2.1)) (∃(I_1:RU->Prop),∃(o: _->Nat),I_1 (p.1,p.2.1,())/\∀(n:RU),let l:=(n.2.1.length:Int);let k:=n.1.toNat;let j:=(i64.wrap (p.1+i),n.2.1,());let g:Prop:=(x.2.1<n.1);let d:=(i64.wrap (n.1-i));let h:=(List.set n.2.1 k (List.getD n.2.1 d.toNat D5));let f:=(List.getD n.2.1 k D5,List.getD n.2.1 d.toNat D5,());let e:=(i64.wrap (n.1-i),h.set d.toNat (List.getD n.2.1 k D5),());let c:Prop:=(m<=i64.wrap (n.1-i)/\i64.wrap (n.1-i)<l);let b:Prop:=(m<=n.1/\n.1<l);let d:Prop:=(x.2.2.2.1.2 f<m);(Ty.int i64).wf n.1/\Mk n.2.1/\True->I_1 n->(decide g=true->b)/\(decide g=true->c)/\Go.Proofs.Tryz.prog=Go.Proofs.Tryz.prog/\(decide g=true->x.2.2.2.1.1 f)/\((decide g=true->(Ty.int i64).wf (x.2.2.2.1.2 f))->(iB (I5 (decide g) (decide d) false) (c/\b/\b/\(m<=i64.wrap (n.1-i)/\i64.wrap (n.1-i)<(↑h.length:Int))/\I_1 e/\o e<o n) (I j/\a j<a p)))) (True/\List.Perm p.2.1 x.1/\List.take x.2.1.toNat p.2.1=List.take x.2.1.toNat x.1/\List.drop x.2.2.1.toNat p.2.1=List.drop x.2.2.1.toNat x.1/\Wo x.2.2.2.1.2 (List.take (x.2.2.1.toNat-x.2.1.toNat) (List.drop x.2.1.toNat p.2.1))))
abbrev A7p:=Int×Int×List EE×Unit
def Ad:A4 H9.args->Prop:=fun(x:List EE×Int×((EE×EE×Unit->Prop)×(EE×EE×Unit->Int))×Unit)=>let h:=(0:Int);∃(I:A7p->Prop),∃(a: _->Nat),I (h,(20:Int),x.1,())/\∀(p:A7p),let g:=(p.2.2.1.length:Int);let d:=p.1.toNat;let b:Prop:=(List.length p.2.2.1<=100000);(Ty.int i64).wf p.1/\(Ty.int i64).wf p.2.1/\Mk p.2.2.1/\True->I p->(iB (decide (p.2.1<=x.2.1)) (Go.Proofs.Tryz.prog=Go.Proofs.Tryz.prog/\false=false/\((Yf x.2.2.1.1 fun(z:RR)=>x.2.2.1.2 z)/\h<=p.1/\p.1<=p.2.1/\p.2.1<=g/\b)/\∀(r:Unit) (o:Gj),let e:=(p.2.1,i64.wrap (p.2.1+20),o);True->tE.sl.wf o.1/\True->True->o.1.Perm p.2.2.1/\List.take d o.1=List.take d p.2.2.1/\List.drop p.2.1.toNat o.1=List.drop p.2.1.toNat p.2.2.1/\Wo (fun(z:RR)=>x.2.2.1.2 z) (List.take (Int.toNat p.2.1-Int.toNat p.1) (List.drop d o.1))->I e/\a e<a p) (Go.Proofs.Tryz.prog=Go.Proofs.Tryz.prog/\false=false/\((Yf x.2.2.1.1 fun(z:RR)=>x.2.2.1.2 z)/\h<=p.1/\p.1<=x.2.1/\x.2.1<=g/\b)/\∀(r:Unit) (o:Gj),True->tE.sl.wf o.1/\True->True->o.1.Perm p.2.2.1/\List.take d o.1=List.take d p.2.2.1/\List.drop x.2.1.toNat o.1=List.drop x.2.1.toNat p.2.2.1/\Wo (fun(z:RR)=>x.2.2.1.2 z) (List.take (Int.toNat x.2.1-Int.toNat p.1) (List.drop d o.1))->∃(I:RU->Prop),∃(a: _->Nat),I ((20:Int),o)/\∀(p:RU),(Ty.int i64).wf p.1/\Mk p.2.1/\True->I p->(iB (decide (p.1<x.2.1)) (∃(I_1:A7p->Prop),∃(b: _->Nat),I_1 (h,i64.wrap (2*p.1),p.2.1,())/\∀(i:A7p),let f:Prop:=(i64.wrap (i.1+p.1)<x.2.1);(Ty.int i64).wf i.1/\(Ty.int i64).wf i.2.1/\Mk i.2.2.1/\True->I_1 i->(iB (decide (i.2.1<=x.2.1)) (Go.Proofs.Tryz.prog=Go.Proofs.Tryz.prog/\false=false/\False/\∀(r:Unit) (o:Gj),let c:=(i.2.1,i64.wrap (i.2.1+i64.wrap (2*p.1)),o);True->tE.sl.wf o.1/\True->True->True->I_1 c/\b c<b i) (∃(J:Gj->Prop),((iB (decide f) (Go.Proofs.Tryz.prog=Go.Proofs.Tryz.prog/\false=false/\False/\∀(r:Unit) (o:Gj),True->tE.sl.wf o.1/\True->True->True->J o) (J (i.2.2.1,()))))/\aG fun j=>let f:=(i64.wrap (p.1*2),j);J j->I f/\a f<a p))) (True/\List.Perm p.2.1 x.1/\Wo x.2.2.1.2 p.2.1))))
def Oc:A4 Z4.args->Prop:=fun(x:RR)=>True/\Fg fun r=>r.1=O6 x.1.1 x.2.1.1->r.1=O6 x.1.1 x.2.1.1
def Ob:A4 T2.args->Prop:=fun(x:Gj)=>let m:=(1:Int);let g:=(0:Int);let l:=g.toNat;let e:=(x.1.length:Int);True/\Mj fun r=>r.1=decide (asc x.1)->(iB r.1 ((asc x.1->x.1=x.1)/\(¬asc x.1->asc x.1/\(∀(j:Int),A3 x.1 j=A3 x.1 j)/\List.length x.1<=20/\BM (16777216:Nat) x.1)) ((g<=e/\e<=e/\(↑(64:Nat):Int)*e<=(281474976710656:Int)/\e<=(9223372036854775807:Int))/\∃(b:RR->Prop),∃(a:RR->Int),(∀(y:RR),tE.wf y.1/\tE.wf y.2.1/\True->b y->True/\Fg fun z=>z.1=O6 y.1.1 y.2.1.1->false=false/\z.1=a y)/\(Yf b a/\(Kk (List.replicate e.toNat D5) x.1).length<=(20:Nat))/\∀(s:Unit) (o:Gj),True->tE.sl.wf o.1/\True->True->o.1.Perm (Kk (List.replicate e.toNat D5) x.1)/\Wo a o.1->∃(I:A7p->Prop),∃(c: _->Nat),I (g,g,o)/\∀(p:A7p),let n:=(i64.wrap (p.1-m));let i:=p.1.toNat;let h:=(p.2.2.1.length:Int);let f:=(List.getD p.2.2.1 p.2.1.toNat D5);let d:=(List.getD p.2.2.1 n.toNat D5);let k:Prop:=(p.2.1<(↑o.1.length:Int));let b:Prop:=(d.1=f.1);let a:Prop:=(g<=i64.wrap (p.1-m)/\i64.wrap (p.1-m)<h);(Ty.int i64).wf p.1/\(Ty.int i64).wf p.2.1/\Mk p.2.2.1/\True->I p->(iB (decide k) (∃(J:RU->Prop),((g<=p.2.1/\p.2.1<h)/\(decide (g<p.1)=true->a)/\(iB (I5 (decide (g<p.1)) (decide b) false) (a/\(G3 d.2/\G3 f.2)/\K7 fun r=>r.1=rc (rv d.2+rv f.2)->a/\J (p.1,List.set p.2.2.1 n.toNat (d.1,r.1),())) ((g<=p.1/\p.1<h)/\J (i64.wrap (p.1+m),List.set p.2.2.1 i f,()))))/\∀(q:RU),let k:=(q.1,i64.wrap (p.2.1+m),q.2.1,());(Ty.int i64).wf q.1/\Mk q.2.1/\True->J q->I k/\c k<c p) ((g<=g/\g<=p.1/\p.1<=h)/\(asc x.1->List.drop l (List.take i p.2.2.1)=x.1)/\(¬asc x.1->asc (List.drop l (List.take i p.2.2.1))/\(∀(j:Int),A3 (List.drop l (List.take i p.2.2.1)) j=A3 x.1 j)/\(List.drop l (List.take i p.2.2.1)).length<=(20:Nat)/\BM (16777216:Nat) (List.drop l (List.take i p.2.2.1)))))))
def UJ {a b:List C8} (h:a.Perm b) (j:Int):A3 a j=A3 b j:=by
 induction h with
 |nil=>rfl
 |cons e _ c=>rw[A3,A3,c]
 |swap e f l=>simp only[A3];rw[<-g0c, <-g0c,g2g (if f.1=j then rv f.2 else 0)]
 |trans _ _ c d=>rw[c,d]
def UI (e:C8) (j:Int):A3 [e] j=if e.1=j then rv e.2 else 0:=by
 simp only[A3,rG]
structure LN (o:List C8) (n i:Int) (c:List C8):Prop where
 n0:0<=n
 ni:n<=i
 il:i<=(o.length:Int)
 cl:c.length=o.length
 rest:∀j:Nat,i.toNat<=j->c.getD j D5=o.getD j D5
 ord:asc (c.take n.toNat)
 cm:∀j,A3 (c.take n.toNat) j=A3 (o.take i.toNat) j
 le:∀e∈c.take n.toNat,∃y∈o.take i.toNat,y.1=e.1
 szs:∀e∈c.take n.toNat,sz (65537*i.toNat) e.2/\Qa e.2
def LN.init (o:List C8):LN o 0 0 o:=⟨qG _,qG _,qF _,rfl,fun _ _=>rfl,List.Pairwise.nil,fun _=>rfl,fun e a=>(by cases a),fun e a=>(by cases a)⟩
def EG {α:Type} {l:List α} {k:Nat} {x:α} (h:k<l.length):(l.set k x).take (k+1)=l.take k++ [x]:=by
 rw[rS,yX (qT k),sH h];rfl
def Ul {α:Type} {l:List α} {k:Nat} (d:α) (h:k<l.length):l.take (k+1)=l.take k++ [l.getD k d]:=by
 rw[rS,qP h,Q9 _ _ h];rfl
variable {o c:List C8} {n i:Int}
def LN.bound (h:LN o n i c) (j:o.Pairwise fun a b=>a.1<=b.1) (r:i<(o.length:Int)):∀e∈c.take n.toNat,e.1<=(o.getD i.toNat D5).1:=fun e f=>by
 obtain⟨y,k,d⟩:=h.le e f;obtain⟨l,g,rfl⟩:=wA.1 k;rw[qU]at g;rw[g1g]at d;have s:=h.n0;have t:=h.ni;have:=uD.1 j l i.toNat (by omega) (by omega) (by omega);rw[Q9 _ _ (show i.toNat<o.length by omega), <-d];exact this
def LN.push (h:LN o n i c) (D:o.Pairwise fun a b=>a.1<=b.1) (G:BM 65536 o) (y:CQ o) (w:i<(o.length:Int)) (r:0<n->(c.getD (n-1).toNat D5).1≠(o.getD i.toNat D5).1):LN o (n+1) (i+1) (c.set n.toNat (o.getD i.toNat D5)):=by
 have A:=h.n0;have N:=h.ni;have v:=h.cl;have k:=h.bound D w;have f:(c.set n.toNat (o.getD i.toNat D5)).take (n+1).toNat=c.take n.toNat++ [o.getD i.toNat D5]:=by
  rw[show(n+1).toNat=n.toNat+1 from by omega];exact EG (by omega)
 have s:o.take (i+1).toNat=o.take i.toNat++ [o.getD i.toNat D5]:=by
  rw[show(i+1).toNat=i.toNat+1 from by omega];exact Ul D5 (by omega)
 have z:∀e∈c.take n.toNat,e.1<(o.getD i.toNat D5).1:=fun e d=>by
  have I:=k e d;have B:0<n:=by
   rcases g3u A with g|g
   . exact g
   . rw[<-g]at d;cases d
  have x:(n-1).toNat<c.length:=by omega
  have t:c.take n.toNat=c.take (n-1).toNat++ [c.getD (n-1).toNat D5]:=by
   rw[show n.toNat=(n-1).toNat+1 from by omega];exact Ul D5 x
  have M:=k (c.getD (n-1).toNat D5) (by rw[t];simp);have r:=r B;have j:=h.ord;rw[t]at d j;rcases qZ.1 d with d|d
  . have:=(sY.1 j).2.2 e d _ (qX.2 rfl);omega
  . rw[qX]at d;subst d;omega
 have l:o.getD i.toNat D5∈o:=D2 (by omega);refine⟨by omega,by omega,by omega,by rw[qN];exact v,fun u J=> ?_, ?_,fun u=> ?_,fun e d=> ?_,fun e d=> ?_⟩
 . rw[qE,sV (by omega), <-qE];exact h.rest u (by omega)
 . rw[f];exact kH h.ord z
 . rw[f,s,P6,P6,h.cm]
 . rw[f]at d;rw[s];rcases qZ.1 d with d|d
   . obtain⟨H,E,F⟩:=h.le e d;exact⟨H,sN _ E,F⟩
   . rw[qX]at d;subst d;exact⟨_,tJ _ (qX.2 rfl),rfl⟩
 . rw[f]at d;rcases qZ.1 d with d|d
   . exact⟨F8 (h.szs e d).1 (by omega),(h.szs e d).2⟩
   . rw[qX]at d;subst d;exact⟨F8 (G _ l) (by omega),y _ l⟩
def LN.add (h:LN o n i c) (O:BM 65536 o) (G:CQ o) (W:i<(o.length:Int)) (Z:0<n) (r:(c.getD (n-1).toNat D5).1=(o.getD i.toNat D5).1):sz (65537*i.toNat) (c.getD (n-1).toNat D5).2/\sz 65536 (o.getD i.toNat D5).2/\LN o n (i+1) (c.set (n-1).toNat ((c.getD (n-1).toNat D5).1,rc (rv (c.getD (n-1).toNat D5).2+rv (o.getD i.toNat D5).2))):=by
 have a0:=h.ni;have F:=h.cl;have s:(n-1).toNat<c.length:=by omega
 have w:c.take n.toNat=c.take (n-1).toNat++ [c.getD (n-1).toNat D5]:=by
  rw[show n.toNat=(n-1).toNat+1 from by omega];exact Ul D5 s
 have v:o.take (i+1).toNat=o.take i.toNat++ [o.getD i.toNat D5]:=by
  rw[show(i+1).toNat=i.toNat+1 from by omega];exact Ul D5 (by omega)
 have H:c.getD (n-1).toNat D5∈c.take n.toNat:=by rw[w];simp
 have u:o.getD i.toNat D5∈o:=D2 (by omega);obtain⟨A,T⟩:=h.szs _ H;have B:=O _ u;have U:=G _ u;refine⟨A,B, ?_⟩;have j:=h.ord;have l:=h.cm;have t:=h.le;have f:=h.szs;rw[w]at j l t f;have J:=h.rest;generalize Y:c.getD (n-1).toNat D5=z at*;generalize o.getD i.toNat D5=g at*;have d:∀x:C8,(c.set (n-1).toNat x).take n.toNat=c.take (n-1).toNat++ [x]:=fun x=>by
  rw[show n.toNat=(n-1).toNat+1 from by omega];exact EG s
 obtain⟨P,a1,Q⟩:=sY.1 j;have I:qs (65537*(i+1).toNat) (rv z.2+rv g.2):=by
  have a:1<=i.toNat:=by omega
  exact G9 (WZ (Gy T A (by omega)) (Gy U B (by decide))) (by omega)
 refine⟨h.n0,by omega,by omega,by rw[qN];exact F,fun y X=> ?_, ?_,fun y=> ?_,fun e b=> ?_,fun e b=> ?_⟩
 . rw[qE,sV (by omega), <-qE];exact J y (by omega)
 . rw[d];exact sY.2 ⟨P,wV _ _,fun D E V k=>by rw[qX]at k;subst k;exact Q D E z (qX.2 rfl)⟩
 . rw[d,v,P6,P6, <-l,P6,UI,UI,UI];simp only;rw[H8,r,g0c];congr 1;split
   . rfl
   . rw[rG]
 . rw[d]at b;rw[v];rcases qZ.1 b with a|a
   . obtain⟨R,M,N⟩:=t e (sN _ a);exact⟨R,sN _ M,N⟩
   . rw[qX]at a;subst a;exact⟨g,tJ _ (qX.2 rfl),r.symm⟩
 . rw[d]at b;rcases qZ.1 b with a|a
   . exact⟨F8 (f e (sN _ a)).1 (by omega),(f e (sN _ a)).2⟩
   . rw[qX]at a;subst a;exact⟨Iu I,gJ _⟩
def AG (x:A4 Z4.args) (a:awf Z4.args x) (_:Z4.pre x):Oc x:=by
 simp only[Oc,Fg];exact⟨trivial,fun r _ h=>h⟩
def Br (x:A4 F6.args) (a1:awf F6.args x) (P:F6.pre x):S2 x:=by
 obtain⟨l,a,b,⟨T,g⟩,_⟩:=x;change List (Int×(Bool×Wf)×Wf)at l;change Int at a b;obtain⟨⟨O,R,N⟩,V,W,X,Z⟩:Yf T g/\0<=a/\a<=b/\b<=(l.length:Int)/\l.length<=100000:=P;simp only[S2,iB];have Q:∀x y z:C8,¬g (y,x,())<0->¬g (z,y,())<0->¬g (z,x,())<0:=fun x y z v f=>R z y x f v
 refine⟨fun p=>a+1<=p.1/\(p.1<=b\/p.1=a+1)/\p.2.1.Perm l/\p.2.1.take a.toNat=l.take a.toNat/\p.2.1.drop b.toNat=l.drop b.toNat/\(∀s t,a.toNat<=s->s<t->t<p.1.toNat->t<b.toNat->¬g (p.2.1.getD t D5,p.2.1.getD s D5,())<0),fun p=>(b-p.1).toNat, ?_, ?_⟩
 . rw[wv (by omega)];refine⟨qG _, .inr rfl,wT _,rfl,rfl,fun s t v f k w=> ?_⟩;change t<(a+1).toNat at k;omega
 rintro⟨i,m,_⟩ _ ⟨M,v,f,k,w,E⟩;change Int at i;change List (Int×(Bool×Wf)×Wf)at m;simp only at M v f k w E⊢;have a0:=f.length_eq;refine⟨fun h=> ?_,fun h=> ?_⟩
 . have h:=qA h;refine⟨fun p=>a<=p.1/\p.1<=i/\p.2.1.Perm l/\p.2.1.take a.toNat=l.take a.toNat/\p.2.1.drop b.toNat=l.drop b.toNat/\B0n (fun x y=>¬g (y,x,())<0) D5 p.2.1 a.toNat i.toNat p.1.toNat,fun p=>(p.1-a).toNat,⟨by show a<=i;omega,qG _,f,k,w,A0k fun s t n o r=>E s t n o r (by omega)⟩, ?_⟩;rintro⟨j,y,_⟩ _ ⟨I,J,u,A,B,D⟩;change Int at j;change List (Int×(Bool×Wf)×Wf)at y;simp only at I J u A B D⊢;have a2:=u.length_eq;have H:i64.wrap (j-1)=j-1:=wv (by omega);rw[H];have G:(j-1).toNat=j.toNat-1:=by omega
   rw[G];refine⟨fun F=>⟨by omega,by omega⟩,fun F=> ?_,trivial,fun _=>O _ _,fun _=>⟨fun c=> ?_,fun c=> ?_⟩⟩
   . have F:=qA F;exact⟨by omega,by omega⟩
   . rw[H0]at c;simp only[qC,rP]at c;obtain⟨a4,U⟩:=c;refine⟨⟨by omega,by omega⟩,⟨by omega,by omega⟩,⟨by omega,by omega⟩,⟨by omega,by rw[qN];omega⟩,⟨by omega,by omega, ?_, ?_, ?_, ?_⟩,by omega⟩
     . exact(A1z (d:=D5) (l:=y) (j:=j.toNat) (by omega)).trans u
     . exact(A2a (d:=D5) (l:=y) (by omega)).trans A
     . exact(A1y (d:=D5) (l:=y) (by omega)).trans B
     . exact A5w D (by omega) (by omega) (by omega) (N _ _ U)
   . rw[H0]at c;simp only[vT,rO]at c;rw[wv (by omega)];refine⟨⟨by omega, .inl (by omega),u,A,B,fun s t n o r a3=> ?_⟩,by omega⟩;refine B0o D Q (by omega) (fun Y=> ?_) s t n o (by change t<(i+1).toNat at r;omega);rcases c with c|c
     . omega
     . exact c
 . have h:=qB h;refine⟨trivial,f,k,w, ?_⟩;unfold Wo;have:=WV (q:=fun x y=>¬g (y,x,())<0) (d:=D5) (l:=m) (a:=a.toNat) (b:=b.toNat) (by omega) fun s t n o r=>E s t n o (by omega) r
   exact this
def Gm (x:A4 H9.args) (O:awf H9.args x) (j:H9.pre x):Ad x:=by
 obtain⟨l,n,⟨G,c⟩,_⟩:=x;change List (Int×(Bool×Wf)×Wf)at l;change Int at n;obtain⟨u,N,J⟩:Yf G c/\n=(l.length:Int)/\l.length<=20:=j;simp only[Ad,iB,aG];refine⟨fun p=>(p.1=0/\p.2.1=20/\p.2.2.1=l)\/(p.1=20/\p.2.1=40/\n=20/\p.2.2.1.Perm l/\Wo c p.2.2.1),fun p=>(40-p.2.1).toNat, .inl ⟨rfl,rfl,rfl⟩, ?_⟩;rintro⟨b,r,m,_⟩ _ i;change Int at b r;change List (Int×(Bool×Wf)×Wf)at m;simp only at i⊢;refine⟨fun h=> ?_,fun h=> ?_⟩
 . have h:=qA h;obtain⟨rfl,rfl,rfl⟩:b=0/\r=20/\m=l:=by
    rcases i with s| ⟨_,s,_⟩
    . exact s
    . omega
   refine⟨trivial,trivial,⟨u,qG _,by omega,by omega,by omega⟩, ?_⟩;rintro H ⟨o,_⟩ _ _ _ ⟨d,f,k,a⟩;simp only at d f k a⊢;rw[wv (by omega)];refine⟨.inr ⟨by trivial,by trivial,by omega,d, ?_⟩,by simp⟩;have B:=d.length_eq;change Wo c ((o.drop 0).take (20-0))at a;rw[tZ,qR (by omega)]at a;exact a
 . have h:=qB h;have A:0<=b/\b<=n/\m.Perm l/\(b=0\/b=n/\Wo c m):=by
    rcases i with⟨rfl,rfl,rfl⟩ | ⟨rfl,rfl,I,j,s⟩
    . exact⟨qG _,by omega,wT _, .inl rfl⟩
    . exact⟨by decide,by omega,j, .inr ⟨by omega,s⟩⟩
   obtain⟨E,F,z,g⟩:=A;have M:=z.length_eq;refine⟨trivial,trivial,⟨u,E,F,by omega,by omega⟩, ?_⟩;rintro H ⟨o,_⟩ _ _ _ ⟨d,f,k,a⟩;simp only at d f k a⊢;have B:=d.length_eq;have D:Wo c o:=by
    rcases g with g| ⟨g,s⟩
    . change Wo c ((o.drop b.toNat).take (n.toNat-b.toNat))at a;rw[g]at a;change Wo c ((o.drop 0).take (n.toNat-0))at a;rw[tZ,qR (by omega)]at a;exact a
    . rw[qR (by omega),qR (by omega)]at f;rw[f];exact s
   refine⟨fun p=>p.1=20/\p.2.1.Perm l/\Wo c p.2.1,fun _=>0,⟨rfl,d.trans z,D⟩, ?_⟩;rintro⟨P,Q,_⟩ _ ⟨v,w,y⟩;simp only at v w y⊢;subst v;refine⟨fun t=> ?_,fun _=>⟨trivial,w,y⟩⟩;have t:=qA t;omega
def Bi (x:A4 F3.args) (g:awf F3.args x) (c:F3.pre x):R2 x:=by
 obtain⟨l,⟨d,f⟩,_⟩:=x;obtain⟨b,a⟩:Yf d f/\l.length<=20:=c;simp only[R2];refine⟨trivial,trivial,⟨b,trivial,a⟩, ?_⟩;rintro r ⟨o,_⟩ _ _ _ h;exact⟨trivial,h⟩
def nC:Yf (fun _=>True) (fun z=>O6 z.1.1 z.2.1.1):=by
 refine⟨fun _ _=>trivial,fun a b c=> ?_,fun a b=> ?_⟩
 . simp only[O6];split<;>split<;>split<;>(try split)<;>(try split)<;>(try split)<;>omega
 . simp only[O6];split<;>split<;>(try split)<;>(try split)<;>omega
def A8w {a b:Int} :¬O6 a b<0↔b<=a:=by
 unfold O6;split
 . omega
 . split<;>omega
def AF (x:A4 T2.args) (V:awf T2.args x) (r:T2.pre x):Ob x:=by
 obtain⟨t,_⟩:=x;have Q:CQ t:=BD V.1.2;change List C8 at t;have r:OF t:=r;simp only[Ob,iB,Fg,K7,Mj];refine⟨trivial, ?_⟩;rintro⟨X,_⟩ _ B;simp only at B⊢;subst B;refine⟨fun h=>⟨fun _=>by trivial,fun u=>absurd (qA h) u⟩,fun h=> ?_⟩;have w:=qB h;obtain⟨P,s⟩:=r.resolve_left w;refine⟨⟨by omega,by omega,by omega,by omega⟩,fun _=>True,fun z=>O6 z.1.1 z.2.1.1, ?_,⟨nC, ?_⟩, ?_⟩
 . rintro⟨k,l,_⟩ _ _;refine⟨trivial, ?_⟩;rintro⟨z,_⟩ _ s;exact⟨(by trivial),s⟩
 . rw[MB];exact P
 rintro X ⟨o,_⟩ _ _ _ ⟨j,E⟩;change List C8 at o;simp only[MB]at j E⊢;have a4:=j.length_eq;have U:o.Pairwise fun k l=>k.1<=l.1:=E.imp fun {k l} b=>A8w.1 b
 have D:BM 65536 o:=fun e f=>s e (j.mem_iff.1 f)
 have v:CQ o:=fun e f=>Q e (j.mem_iff.1 f)
 refine⟨fun p=>LN o p.1 p.2.1 p.2.2.1,fun p=>((o.length:Int)-p.2.1).toNat,LN.init o, ?_⟩;rintro⟨n,i,c,_⟩ _ a;change Int at n i;change List C8 at c;simp only at a⊢;have I:=a.n0;have a2:=a.ni;have u:=a.il;have N:=a.cl;have g:(c.length:Int)=(o.length:Int):=by rw[N]
 refine⟨fun d=> ?_,fun d=> ?_⟩
 . have d:=qA d;have M:c.getD i.toNat D5=o.getD i.toNat D5:=a.rest _ (qT _);have O:0<=i/\i<(c.length:Int):=⟨by omega,by rw[g];exact d⟩;have R:i64.wrap (n-1)=n-1:=wv (by omega);rw[R,M];refine⟨fun p=>LN o p.1 (i+1) p.2.1,⟨O,fun b=> ?_,fun b=> ?_,fun b=> ?_⟩, ?_⟩
   . have b:=qA b;exact⟨by omega,by rw[g];omega⟩
   . rw[H0]at b;simp only[qC,rP]at b;obtain⟨G,H⟩:=b;have y:0<=n-1/\n-1<(c.length:Int):=⟨by omega,by rw[g];omega⟩;obtain⟨Y,Z,a0⟩:=a.add D v d G H;refine⟨y,⟨R5 (F8 Y (show 65537*i.toNat<=2199023255552 by omega)) (qT _),R5 Z (by decide)⟩, ?_⟩;rintro⟨q,_⟩ _ A;change C6 at q;simp only at A⊢;rw[A];exact⟨y,a0⟩
   . have T:0<n->(c.getD (n-1).toNat D5).1≠(o.getD i.toNat D5).1:=fun hn f=>by
      rw[H0,rE hn,rE f]at b;cases b
     rw[wv (by omega)];exact⟨⟨by omega,by rw[g];omega⟩,a.push U D v d T⟩
   . rintro⟨a5,a1,_⟩ _ J;simp only;rw[wv (by omega)];exact⟨J,by omega⟩
 . have d:=qB d;have a3:i=(o.length:Int):=by omega
   refine⟨⟨qG _,I,by rw[g];omega⟩,fun h=>absurd h w,fun _=> ?_⟩;have F:List.drop (Int.toNat 0) (List.take n.toNat c)=c.take n.toNat:=rfl;rw[F];refine⟨a.ord,fun W=> ?_, ?_,fun e f=>F8 (a.szs e f).1 (by omega)⟩
   . rw[a.cm,H1 (by omega)];exact UJ j W
   . rw[qU];omega
def IG:An:= {loop:= [(5,⟨[1,6,14,15],[],[(16,false,vI)],[],[(0, .row tE 70)]⟩)]}
def Oa:A4 M7.args->Prop:=fun(x:List EE×Wf×Unit)=>let h:=(0:Int);let g:=(x.2.1.length:Int);let d:=(↑x.2.1.length:Int);let e:Prop:=(∀(j:Int),A3 x.1 j≠(0:Rat)->h<=j/\j<d);List.length x.2.1<=100000/\Mj fun r=>r.1=decide (G1 x.2.1 g)->(iB ((!r.1)) (G1 x.2.1 d->e->HP (fun(i:Int)=>if h<=i/\i<d then A3 x.1 (↑(List.idxOf i x.2.1):Int)else(0:Rat)) []/\false=true) (Jg x.1/\aG fun n=>HP (A3 x.1) n.1->∃(I:RU->Prop),∃(μ: _->Nat),I (h,n)/\∀(p:RU),let l:Prop:=(p.1<(n.1.length:Int));let k:Prop:=(h<=p.1/\p.1<(p.2.1.length:Int));let c:=(List.getD p.2.1 p.1.toNat D5);let m:=(decide (g<=c.1));let f:=(i64.wrap (p.1+1),List.set p.2.1 p.1.toNat (gx h x.2.1 c.1,c.2),());(Ty.int i64).wf p.1/\Mk p.2.1/\True->I p->(iB (decide l) (k/\(iB (I5 (decide (c.1<h)) true m) (G1 x.2.1 d->e->HP (fun(i:Int)=>if h<=i/\i<d then A3 x.1 (↑(List.idxOf i x.2.1):Int)else(0:Rat)) []/\false=true) ((h<=c.1/\c.1<g)/\k/\I f/\μ f<μ p))) (List.length p.2.1<=100000/\∀(l':List EE),tE.sl.wf l'->l'.Perm p.2.1->List.Pairwise (fun(a b:Int×(Bool×Wf)×Wf)=>¬O6 b.1 a.1<h) l'->G1 x.2.1 d->e->HP (fun(i:Int)=>if h<=i/\i<d then A3 x.1 (↑(List.idxOf i x.2.1):Int)else(0:Rat)) l'/\true=true))))
abbrev R6:=List (Int×Bool)
def keys (es:R6):Wf:=es.map fun e=>e.1
def cG (k:Int) (v:Bool) (es:R6):(keys es).Nodup->(keys (Df (.int .i64) k v es)).Nodup/\∀i,i∈keys (Df (.int .i64) k v es)↔i=k\/i∈keys es:=by
 intro h;unfold keys at*;rw[MY];by_cases a:k∈es.map fun e=>e.1
 . rw[qJ a];exact⟨h,fun i=>⟨.inr,fun f=>f.elim (fun e=>e▸a) id⟩⟩
 . rw[qH a];refine⟨tN.2 ⟨h,by simp,fun g c j b d=> ?_⟩,fun i=> ?_⟩
   . rw[qX]at b;exact a (b▸d▸c)
   . rw[qZ,qX];exact Or.comm
def cF (k:Int):∀(es:R6),(keys es).Nodup->(keys (Om (.int .i64) k es)).Nodup/\∀i,i∈keys (Om (.int .i64) k es)↔i≠k/\i∈keys es
 | [],h=>⟨h,fun i=>⟨fun a=>(by cases a),fun a=>(by cases a.2)⟩⟩
 |x::r,h=>by
  have d:=sI.1 (show(x.1::keys r).Nodup from h);have e:Om (.int .i64) k (x::r)=if k=x.1 then r else x::Om (.int .i64) k r:=by
   rw[Om,Jw];by_cases b:k=x.1
   . rw[qJ b,rE b];rfl
   . rw[qH b,rC b];rfl
  rw[e];by_cases b:k=x.1
  . rw[qJ b];refine⟨d.2,fun i=>⟨fun a=>⟨fun e=>d.1 (by rw[<-b, <-e];exact a),qM _ a⟩,fun a=> ?_⟩⟩;exact(qS.1 (show i∈x.1::keys r from a.2)).resolve_left fun e=>a.1 (by rw[e,b])
  . rw[qH b];obtain⟨g,c⟩:=cF k r d.2;refine⟨sI.2 ⟨fun l=>d.1 ((c _).1 l).2,g⟩,fun i=> ?_⟩;constructor
    . intro a;rcases qS.1 (show i∈x.1::keys (Om (.int .i64) k r)from a)with rfl|a
      . exact⟨fun e=>b e.symm,rI⟩
      . exact⟨((c i).1 a).1,qM _ ((c i).1 a).2⟩
    . rintro⟨j,f⟩;rcases qS.1 (show i∈x.1::keys r from f)with rfl|f
      . exact rI
      . exact qM _ ((c i).2 ⟨j,f⟩)
def U6 (rows:List (List C8)) (i j:Nat):Rat:=A3 (rows.getD i []) (j:Int)
def B7u (n k:Nat) (p:Nat->Nat) (R:Nat->Nat->Rat) (j:Nat) (es:R6):Prop:=(keys es).Nodup/\∀i:Int,i∈keys es↔0<=i/\i<(n:Int)/\(∀a,a<k->i.toNat≠p a)/\R i.toNat j≠0
structure EI (n k:Nat) (S:Nat->Nat) (A:Nat->Nat->Rat) (rest P Q place:Wf) (rows lower:List (List C8)) (cols:List R6):Prop where
 elim:Vt n k A (ix P) (ix Q) (U6 rows) (U6 lower)
 lP:P.length=n
 lQ:Q.length=n
 lpl:place.length=n
 lrows:rows.length=n
 llow:lower.length=n
 lcols:cols.length=n
 P0:∀a,a<k->P.getD a 0=(ix P a:Int)
 Q0:∀a,a<k->Q.getD a 0=(ix Q a:Int)
 pl:∀a,a<k->place.getD (ix Q a) 0=(a:Int)
 rnd:rest.Nodup
 rmem:∀c:Int,c∈rest↔0<=c/\c<(n:Int)/\∀a,a<k->c.toNat≠ix Q a
 can:∀i,i<n->O9 (rows.getD i [])/\(∀e∈rows.getD i [],0<=e.1/\e.1<(n:Int))/\∀j,qs (S k) (A3 (rows.getD i []) j)
 lcan:∀i,i<n->O9 (lower.getD i [])/\(∀e∈lower.getD i [],0<=e.1/\e.1<(k:Int))
 lq:∀i,i<n->∀j,qs (S k) (A3 (lower.getD i []) j)
 fin:∀a,a<k->∀j,qs (S a) (A3 (rows.getD (ix P a) []) j)
 col:∀j:Int,j∈rest->B7u n k (ix P) (U6 rows) j.toNat (cols.getD j.toNat [])
def Bb {P:Wf} {k m:Nat} {v:Int} (h:m≠k):ix (P.set k v) m=ix P m:=by
 unfold ix;rw[qE,sV (Ne.symm h), <-qE]
def D7 {α:Type} {l:List α} {d v:α} {k m:Nat} (h:m≠k):(l.set k v).getD m d=l.getD m d:=by
 rw[qE,sV (Ne.symm h), <-qE]
def B8 {α:Type} {l:List α} {d v:α} {k:Nat} (h:k<l.length):(l.set k v).getD k d=v:=by
 rw[qE,sH h];rfl
def Ol {P:Wf} {k:Nat} {v:Int} (h:k<P.length):ix (P.set k v) k=v.toNat:=by
 unfold ix;rw[B8 h]
variable {n k:Nat} {S:Nat->Nat} {A:Nat->Nat->Rat} {rest P Q place:Wf} {rows lower:List (List C8)} {cols:List R6}
def Wd (k:Nat) (p:Nat->Nat) (R:Nat->Nat->Rat) (r c i:Nat):Rat:=if i=r\/∃a,a<k/\i=p a then 0 else R i c/R r c
def A9r {p:Nat->Nat} {R:Nat->Nat->Rat} {r c:Nat} :Wd k p R r c r=0:=qJ (.inl rfl)
def A9q {p:Nat->Nat} {R:Nat->Nat->Rat} {r c a:Nat} (h:a<k):Wd k p R r c (p a)=0:=qJ (.inr ⟨a,h,rfl⟩)
def UV {p:Nat->Nat} {R:Nat->Nat->Rat} {r c i:Nat} (b:i≠r) (d:∀a,a<k->i≠p a):Wd k p R r c i=R i c/R r c:=qH fun f=>f.elim b fun⟨a,ha,e⟩=>d a ha e
def EI.step (h:EI n k S A rest P Q place rows lower cols) {r c:Int} (M:c∈rest) (Y:r∈keys (cols.getD c.toNat [])) {z:Wf} {t v:List (List C8)} {E:List R6}
 (a4:z.Nodup) (a5:∀x,x∈z↔x∈rest/\x≠c) (a0:t.length=n) (a1:v.length=n) (a2:E.length=n)
 (w:∀i,i<n->O9 (t.getD i [])/\(∀e∈t.getD i [],0<=e.1/\e.1<(n:Int))/\(∀j,qs (S (k+1)) (A3 (t.getD i []) j))/\∀j,A3 (t.getD i []) j=A3 (rows.getD i []) j-Wd k (ix P) (U6 rows) r.toNat c.toNat i*A3 (rows.getD r.toNat []) j)
 (G:∀i,i<n->v.getD i []=if Wd k (ix P) (U6 rows) r.toNat c.toNat i=0 then lower.getD i []else lower.getD i []++ [((k:Int),rc (Wd k (ix P) (U6 rows) r.toNat c.toNat i))])
 (Z:S k<=S (k+1)) (a9:∀i,i<n->qs (S (k+1)) (Wd k (ix P) (U6 rows) r.toNat c.toNat i))
 (a8:∀j:Int,j∈z->B7u n (k+1) (ix (P.set k r)) (U6 t) j.toNat (E.getD j.toNat [])):
 EI n (k+1) S A z (P.set k r) (Q.set k c) (place.set c.toNat k) t v E:=by
 obtain⟨aa,c1,D⟩:=(h.rmem c).1 M;obtain⟨ab,X⟩:=h.col c M;obtain⟨ac,ad,a6,a7⟩:=(X r).1 Y;have o:k<n:=by
  rcases sD k n with N|N
  . exact N
  . obtain⟨a,l,e⟩:=V3 (n:=n) (q:=ix Q) (fun a l=>h.elim.qlt a (by omega)) (fun a b l hb=>h.elim.qinj a b (by omega) (by omega)) (show c.toNat<n by omega);exact absurd e.symm (D a (by omega))
 have y:∀m,m<k->m≠k:=fun m s=>uC s
 have R:∀i,i<n->∀m:Nat,U6 v i m=U6 lower i m+if m=k then Wd k (ix P) (U6 rows) r.toNat c.toNat i else 0:=fun i d m=>by
  show A3 (v.getD i []) (m:Int)=A3 (lower.getD i []) (m:Int)+ _;rw[G i d];by_cases u:Wd k (ix P) (U6 rows) r.toNat c.toNat i=0
  . rw[qJ u,u];split<;>rw[rG]
  . rw[qH u,Ev];congr 1;by_cases s:m=k
    . subst s;rw[qJ rfl,qJ rfl]
    . rw[qH s,qH (by omega)]
 have a3:∀i,i<n->U6 lower i k=0:=fun i d=>D1 fun e f W=>by
  have:=(h.lcan i d).2 e f;omega
 refine⟨h.elim.step (r:=r.toNat) (c:=c.toNat) (fac:=Wd k (ix P) (U6 rows) r.toNat c.toNat) o (by omega) (by omega) a6 D a7 (fun m s=>Bb (y m s)) (Ol (by rw[h.lP];exact o)) (fun m s=>Bb (y m s)) (Ol (by rw[h.lQ];exact o)) (fun i _ U V=>UV U V) A9r (fun a l=>A9q l) (fun i j d _=>(w i d).2.2.2 j) (fun i m d s=> ?_) (fun i d=> ?_), ?_, ?_, ?_,a0,a1,a2,fun a l=> ?_,fun a l=> ?_,fun a l=> ?_,a4,fun x=> ?_,fun i d=>⟨(w i d).1,(w i d).2.1,(w i d).2.2.1⟩,fun i d=> ?_,fun i d j=> ?_,fun a l j=> ?_,a8⟩
 . rw[R i d,qH (y m s),rG]
 . rw[R i d,qJ rfl,a3 i d,sF]
 . rw[qN];exact h.lP
 . rw[qN];exact h.lQ
 . rw[qN];exact h.lpl
 . by_cases g:a=k
   . subst g;rw[B8 (by rw[h.lP];exact o),Ol (by rw[h.lP];exact o)];omega
   . rw[D7 g,Bb g];exact h.P0 a (by omega)
 . by_cases g:a=k
   . subst g;rw[B8 (by rw[h.lQ];exact o),Ol (by rw[h.lQ];exact o)];omega
   . rw[D7 g,Bb g];exact h.Q0 a (by omega)
 . by_cases g:a=k
   . subst g;rw[Ol (by rw[h.lQ];exact o),B8 (by rw[h.lpl];omega)]
   . rw[Bb g,D7 (fun e=>D a (by omega) e.symm)];exact h.pl a (by omega)
 . rw[a5,h.rmem];constructor
   . rintro⟨⟨H,I,B⟩,ae⟩;refine⟨H,I,fun a l=> ?_⟩;by_cases g:a=k
     . subst g;rw[Ol (by rw[h.lQ];exact o)];omega
     . rw[Bb g];exact B a (by omega)
   . rintro⟨H,I,B⟩;refine⟨⟨H,I,fun a l=>by have:=B a (by omega);rwa[Bb (y a l)]at this⟩,fun e=> ?_⟩;have:=B k (rN _);rw[Ol (by rw[h.lQ];exact o),e]at this;exact this rfl
 . rw[G i d];obtain⟨J,F⟩:=h.lcan i d;split
   . exact⟨J,fun e f=>by have:=F e f;omega⟩
   . rename_i u;refine⟨Hh J u fun e f=>(F e f).2,fun e f=> ?_⟩;rcases qZ.1 f with f|f
     . have:=F e f;omega
     . rw[qX]at f;subst f;simp only;omega
 . rw[G i d];have T:=G9 (h.lq i d j) Z;split
   . exact T
   . rw[Ev];by_cases O:(k:Int)=j
     . rw[qJ O,D1 fun e f W=>by have:=(h.lcan i d).2 e f;omega,sF];exact a9 i d
     . rw[qH O,rG];exact T
 . have f:∀i,i<n->Wd k (ix P) (U6 rows) r.toNat c.toNat i=0->A3 (t.getD i []) j=A3 (rows.getD i []) j:=fun i d h0=>by
    rw[(w i d).2.2.2 j,h0,rX,tH,wS,rG]
   by_cases g:a=k
   . subst g;rw[Ol (by rw[h.lP];exact o),f _ (by omega) A9r];exact(h.can r.toNat (by omega)).2.2 j
   . rw[Bb g,f _ (h.elim.plt a (by omega)) (A9q (by omega))];exact h.fin a (by omega) j
def EI.stuck (h:EI n k S A rest P Q place rows lower cols) {c:Int} (a:c∈rest) (f:cols.getD c.toNat []= []):¬nonsing n A:=by
 obtain⟨l,c1,b⟩:=(h.rmem c).1 a;obtain⟨_,g⟩:=h.col c a;refine h.elim.stuck (c:=c.toNat) (by omega) b fun i o d=>qK fun j=> ?_
 have:=(g (i:Int)).2 ⟨qF _,by omega,d,j⟩;rw[f]at this;cases this
variable {n:Nat} {S:Nat->Nat} {A:Nat->Nat->Rat} {rest P Q place:Wf} {rows lower:List (List C8)} {cols:List R6}
def WW {P:Wf} (l:P.length=n) (f:∀a,a<n->P.getD a 0=(ix P a:Int)) (o:∀a,a<n->ix P a<n) (g:∀a b,a<n->b<n->ix P a=ix P b->a=b):G1 P (n:Int):=by
 have d:∀a (c:a<P.length),P[a]=(ix P a:Int):=fun a c=>by
  rw[<-f a (by omega),qE,qP c];rfl
 refine⟨by rw[l],fun i r=> ?_,uD.2 fun i j h k s e=> ?_⟩
 . obtain⟨a,c,rfl⟩:=wA.1 r;have:=o a (by omega);rw[d a c];omega
 . rw[d i h,d j k]at e;have:=g i j (by omega) (by omega) (by omega);omega
def EI.places (h:EI n n S A rest P Q place rows lower cols):G1 place (n:Int)/\∀b,b<n->List.idxOf (b:Int) place=ix Q b:=by
 have d:∀j,j<n->∃b,b<n/\ix Q b=j/\place.getD j 0=(b:Int):=fun j a=>by
  obtain⟨b,c,e⟩:=V3 h.elim.qlt h.elim.qinj a;exact⟨b,c,e,by rw[<-e];exact h.pl b c⟩
 have l:∀j (a:j<place.length),place[j]=place.getD j 0:=fun j a=>by
  rw[qE,qP a];rfl
 refine⟨WW h.lpl (fun j a=> ?_) (fun j a=> ?_) (fun i j f a e=> ?_),fun b c=> ?_⟩
 . obtain⟨b,c,_,e⟩:=d j a;unfold ix;rw[e];omega
 . obtain⟨b,c,_,e⟩:=d j a;unfold ix;rw[e];omega
 . obtain⟨b,c,g,k⟩:=d i f;obtain⟨f,s,o,r⟩:=d j a;unfold ix at e;rw[k,r]at e;have:b=f:=by omega
   rw[<-g, <-o,this]
 . have o:(b:Int)∈place:=by
    have a:=h.pl b c;have j:ix Q b<place.length:=by rw[h.lpl];exact h.elim.qlt b c
    rw[<-a, <-l _ j];exact vN j
   have a:=yM o;have c:place[List.idxOf (b:Int) place]=(b:Int):=g0x a;obtain⟨f,s,g,k⟩:=d (List.idxOf (b:Int) place) (by rw[<-h.lpl];exact a);rw[l _ a,k]at c;have:f=b:=by omega
   rw[<-g,this]
def EI.done (h:EI n n S A rest P Q place rows lower cols) (M:n<=16384) {L U:List (List C8)} (B:L.length=n) (D:U.length=n)
 (u:∀a,a<n->L.getD a []=lower.getD (ix P a) []++ [((a:Int),rc 1)])
 (v:∀a,a<n->HP (fun i=>if 0<=i/\i<(n:Int)then A3 (rows.getD (ix P a) []) ((List.idxOf i place:Nat):Int)else 0) (U.getD a [])):
 Af (P,Q,((n:Int),(n:Int),L),((n:Int),(n:Int),U)) (n:Int)/\∀i j,i<n->j<n->luM (P,Q,((n:Int),(n:Int),L),((n:Int),(n:Int),U)) n i j=A (ix P i) (ix Q j):=by
 obtain⟨_,y⟩:=h.places;have o:∀a m,a<n->el ((n:Int),(n:Int),L) a m=U6 lower (ix P a) m+if m=a then 1 else 0:=fun a m d=>by
  show A3 (L.getD a []) (m:Int)=A3 (lower.getD (ix P a) []) (m:Int)+ _;rw[u a d,Ev];congr 1;by_cases l:m=a
  . rw[qJ l,qJ (by omega)]
  . rw[qH l,qH (by omega)]
 have r:∀a g,a<n->g<n->el ((n:Int),(n:Int),U) a g=U6 rows (ix P a) (ix Q g):=fun a g d hb=>by
  show A3 (U.getD a []) (g:Int)=A3 (rows.getD (ix P a) []) _;rw[(v a d).2, <-y g hb];exact qJ ⟨qF _,by omega⟩
 have x:=h.elim.plt;have F:∀a,a<n->F1 (L.getD a []) (n:Int):=fun a d=>by
  rw[u a d];obtain⟨k,s⟩:=h.lcan _ (x a d);have z:∀e∈lower.getD (ix P a) [],e.1<(a:Int):=fun e b=>by
   refine qK fun H=>(k.2 e b).1 ?_
   have G:=s e b;have:=h.elim.low a e.1.toNat d (by omega) (by omega);unfold U6 at this;rw[show((e.1.toNat:Nat):Int)=e.1 from by omega,F9 k.1 b]at this;exact this
  have w:=Hh (q:=1) k (by decide) z;refine⟨w.1,fun e b=>⟨?_, ?_,(w.2 e b).1⟩⟩
  . rcases qZ.1 b with b|b
    . exact(s e b).1
    . rw[qX]at b;subst b;exact qF _
  . rcases qZ.1 b with b|b
    . exact(s e b).2
    . rw[qX]at b;subst b;simp only;omega
 have vU:∀a,a<n->F1 (U.getD a []) (n:Int):=fun a d=>by
  obtain⟨k,w⟩:=v a d;have s:∀e∈U.getD a [],0<=e.1/\e.1<(n:Int):=fun e b=>qK fun hh=>(k.2 e b).1 (by rw[<-F9 k.1 b,w];exact qH hh)
  exact⟨k.1,fun e b=>⟨(s e b).1,(s e b).2,(k.2 e b).1⟩⟩
 refine⟨⟨WW h.lP h.P0 h.elim.plt h.elim.pinj,WW h.lQ h.Q0 h.elim.qlt h.elim.qinj,⟨rfl,rfl,qF _,by show(n:Int)<=16384;omega,qF _,by show(n:Int)<=16384;omega,by show(L.length:Int)=(n:Int);omega,fun E t=> ?_⟩,⟨rfl,rfl,qF _,by show(n:Int)<=16384;omega,qF _,by show(n:Int)<=16384;omega,by show(U.length:Int)=(n:Int);omega,fun E t=> ?_⟩,fun i j c f=> ?_⟩,fun i j c f=> ?_⟩
 . obtain⟨a,d,rfl⟩:=X4 [] t;exact F a (by rw[<-B];exact d)
 . obtain⟨a,d,rfl⟩:=X4 [] t;exact vU a (by rw[<-D];exact d)
 . have c:i<n:=by omega
   have f:j<n:=by omega
   refine⟨fun I=> ?_, ?_,fun J=> ?_, ?_⟩
   . show el ((n:Int),(n:Int),L) i j=0;rw[o i j c,h.elim.low i j c f (by omega),qH (by omega),rG]
   . show el ((n:Int),(n:Int),L) i i=1;rw[o i i c,h.elim.low i i c c (qT _),qJ rfl,sF]
   . show el ((n:Int),(n:Int),U) i j=0;rw[r i j c f];exact h.elim.zero j (ix P i) f (x i c) fun a d e=>by have:=h.elim.pinj i a c (by omega) e;omega
   . show el ((n:Int),(n:Int),U) i i≠0;rw[r i i c c];exact h.elim.piv i c
 . rw[h.elim.prod c f];unfold luM;refine B6 fun m l=> ?_
   show el ((n:Int),(n:Int),L) i m*el ((n:Int),(n:Int),U) m j= _;rw[o i m c,r m j l f]
def EI.sizes (h:EI n n S A rest P Q place rows lower cols) (b:∀a,1<=S a) {L U:List (List C8)}
 (d:∀a,a<n->L.getD a []=lower.getD (ix P a) []++ [((a:Int),rc 1)])
 (f:∀a,a<n->HP (fun i=>if 0<=i/\i<(n:Int)then A3 (rows.getD (ix P a) []) ((List.idxOf i place:Nat):Int)else 0) (U.getD a [])) {R C:Int} {i:Nat} (hi:i<n) (j:Nat):qs (S n) (el (R,C,L) i j)/\qs (S i) (el (R,C,U) i j):=by
 constructor
 . show qs (S n) (A3 (L.getD i []) (j:Int));rw[d i hi,Ev];by_cases g:i=j
   . subst g;have c:A3 (lower.getD (ix P i) []) (i:Int)=0:=h.elim.low i i hi hi (qT _);rw[qJ rfl,c,sF];exact XA (b n)
   . rw[qH (by omega),rG];exact h.lq _ (h.elim.plt i hi) _
 . show qs (S i) (A3 (U.getD i []) (j:Int));rw[(f i hi).2];dsimp only;split
   . exact h.fin i hi _
   . exact I7 (b i)
def EI.cans (h:EI n n S A rest P Q place rows lower cols) {L U:List (List C8)} (l:L.length=n) (o:U.length=n)
 (j:∀a,a<n->L.getD a []=lower.getD (ix P a) []++ [((a:Int),rc 1)])
 (k:∀a,a<n->HP (fun i=>if 0<=i/\i<(n:Int)then A3 (rows.getD (ix P a) []) ((List.idxOf i place:Nat):Int)else 0) (U.getD a [])):(∀v∈L,O9 v)/\∀v∈U,O9 v:=by
 constructor
 . intro v f;obtain⟨a,b,rfl⟩:=X4 [] f;have b:a<n:=by rw[<-l];exact b
   rw[j a b];obtain⟨c,g⟩:=h.lcan _ (h.elim.plt a b);refine Hh c (by decide) fun e d=>qK fun s=>(c.2 e d).1 ?_
   have r:=g e d;have:=h.elim.low a e.1.toNat b (by omega) (by omega);unfold U6 at this;rw[show((e.1.toNat:Nat):Int)=e.1 from by omega,F9 c.1 d]at this;exact this
 . intro v f;obtain⟨a,b,rfl⟩:=X4 [] f;exact(k a (by rw[<-o];exact b)).1
variable {n:Nat} {S:Nat->Nat} {rest P Q place:Wf} {rows lower:List (List C8)} {cols:List R6}
def fN (t:Int) (F:Nat->Int->Rat) (v:List C8) (j:Int) (es:R6):Prop:=(keys es).Nodup/\∀i:Int,i∈keys es↔(0<=i/\i<t/\F i.toNat j≠0)\/(i=t/\∃e∈v,e.1=j)
def A9a {t j:Int} {F:Nat->Int->Rat} {v:List C8} {es:R6} {b:Bool} {e:C8} (h:fN t F v j es) (d:e.1=j):fN t F (v++ [e]) j (Df (.int .i64) t b es):=by
 obtain⟨a,c⟩:=cG t b es h.1;refine⟨a,fun i=> ?_⟩;rw[c,h.2];constructor
 . rintro(hh|hh| ⟨hh,x,a,c⟩)
   . exact .inr ⟨hh,e,by simp,d⟩
   . exact .inl hh
   . exact .inr ⟨hh,x,sN _ a,c⟩
 . rintro(hh| ⟨hh,x,a,c⟩)
   . exact .inr (.inl hh)
   . exact .inl hh
def A5k {t j:Int} {F:Nat->Int->Rat} {v:List C8} {es:R6} {e:C8} (h:fN t F v j es) (b:e.1≠j):fN t F (v++ [e]) j es:=by
 refine⟨h.1,fun i=> ?_⟩;rw[h.2];refine g3l xS (g4v xS ⟨fun⟨x,a,hxj⟩=>⟨x,sN _ a,hxj⟩,fun⟨x,a,hxj⟩=> ?_⟩);rcases qZ.1 a with a|a
 . exact⟨x,a,hxj⟩
 . rw[qX]at a;subst a;exact absurd hxj b
def A5j {t j:Int} {F:Nat->Int->Rat} {v:List C8} {es:R6} {m:Int} (h:fN t F v j es) (l:0<=t) (f:F1 v m) (d:F t.toNat=A3 v):fN (t+1) F [] j es:=by
 refine⟨h.1,fun i=> ?_⟩;rw[h.2];constructor
 . rintro(⟨c,g,a⟩ | ⟨rfl,e,b,rfl⟩)
   . exact .inl ⟨c,by omega,a⟩
   . refine .inl ⟨l,by omega, ?_⟩;rw[d,F9 f.1 b];exact(f.2 e b).2.2
 . rintro(⟨c,g,a⟩ | ⟨_,e,b,_⟩)
   . by_cases k:i=t
     . subst k;rw[d]at a;exact .inr ⟨rfl,AR a⟩
     . exact .inl ⟨c,by omega,a⟩
   . cases b
def EI.start {F:Nat->Int->Rat} {A:Nat->Nat->Rat} (E:∀i j,i<n->j<n->A i j=F i (j:Int)) (V:rest.length=n) (G:∀i,i<n->rest.getD i 0=(i:Int))
 (M:P.length=n) (N:Q.length=n) (O:place.length=n) (H:rows.length=n) (I:lower.length=n) (J:cols.length=n)
 (w:∀i,i<n->HP (F i) (rows.getD i [])) (R:∀i (j:Int),i<n->F i j≠0->0<=j/\j<(n:Int)) (D:∀i j,i<n->qs (S 0) (F i j)) (B:∀i,i<n->lower.getD i []= [])
 (T:∀j:Int,0<=j->j<(n:Int)->fN (n:Int) F [] j (cols.getD j.toNat [])):EI n 0 S A rest P Q place rows lower cols:=by
 have d:∀a,¬a<0:=fun a=>tW a
 have r:∀i (b:i<rest.length),rest[i]=(i:Int):=fun i b=>by
  rw[<-G i (by omega),qE,qP b];rfl
 refine⟨⟨rL _,fun a h=>absurd h (d a),fun a h=>absurd h (d a),fun a _ h=>absurd h (d a),fun a _ h=>absurd h (d a),fun i j b s=> ?_,fun a _ h=>absurd h (d a),fun a h=>absurd h (d a),fun a _ h=>absurd h (d a)⟩,M,N,O,H,I,J,fun a h=>absurd h (d a),fun a h=>absurd h (d a),fun a h=>absurd h (d a),uD.2 fun i j b s U e=> ?_,fun c=>⟨fun v=> ?_,fun v=> ?_⟩,fun i b=> ?_,fun i b=> ?_,fun i b j=> ?_,fun a o=>absurd o (d a),fun j s=> ?_⟩
 . rw[C0,sF,E i j b s];exact((w i b).2 _).symm
 . rw[r i b,r j s]at e;omega
 . obtain⟨i,b,rfl⟩:=wA.1 v;rw[r i b];exact⟨qF _,by omega,fun a o=>absurd o (d a)⟩
 . obtain⟨f,g,_⟩:=v;have z:c.toNat<rest.length:=by omega
   have:=r _ z;rw[show((c.toNat:Nat):Int)=c from by omega]at this;rw[<-this];exact vN z
 . obtain⟨l,t⟩:=w i b;exact⟨l,fun e k=>R i e.1 b (by rw[<-t,F9 l.1 k];exact(l.2 e k).1),fun j=>by rw[t];exact D i j b⟩
 . rw[B i b];exact⟨Xl,fun e k=>by cases k⟩
 . rw[B i b,Pv];exact I7 (A1l (D i j b))
 . have y:0<=j/\j<(n:Int):=by
    obtain⟨i,b,rfl⟩:=wA.1 s;rw[r i b];omega
   obtain⟨l,t⟩:=T j y.1 y.2;refine⟨l,fun i=> ?_⟩;rw[t];have x:∀i:Int,0<=i->i<(n:Int)->U6 rows i.toNat j.toNat=F i.toNat j:=fun i f g=>by
    show A3 (rows.getD i.toNat []) ((j.toNat:Nat):Int)= _;rw[(w i.toNat (by omega)).2,show((j.toNat:Nat):Int)=j from by omega]
   constructor
   . rintro(⟨f,g,u⟩ | ⟨_,e,k,_⟩)
     . exact⟨f,g,fun a o=>absurd o (d a),by rw[x i f g];exact u⟩
     . cases k
   . rintro⟨f,g,_,u⟩;exact .inl ⟨f,g,by rw[x i f g]at u;exact u⟩
def kQ (Bs:Int->Int->Prop) (i:Int) (vs:List C8) (j:Int) (es:R6):Prop:=(keys es).Nodup/\∀x:Int,x∈keys es↔Bs j x/\¬(x=i/\∃e∈vs,e.1=j)
def kP (Bs:Int->Int->Prop) (i:Int) (vs:List C8) (j:Int) (es:R6):Prop:=(keys es).Nodup/\∀x:Int,x∈keys es↔Bs j x\/(x=i/\∃e∈vs,e.1=j)
variable {Bs:Int->Int->Prop} {i j:Int} {vs:List C8} {es:R6} {e:C8}
def kR (h:(keys es).Nodup/\∀x,x∈keys es↔Bs j x):kQ Bs i [] j es:=⟨h.1,fun x=>by rw[h.2];exact⟨fun a=>⟨a,fun⟨_,e,he,_⟩=>by cases he⟩,fun a=>a.1⟩⟩
def A8x (h:(keys es).Nodup/\∀x,x∈keys es↔Bs j x):kP Bs i [] j es:=⟨h.1,fun x=>by rw[h.2];exact⟨.inl,fun a=>a.elim id fun⟨_,e,he,_⟩=>by cases he⟩⟩
def Ta (a:e.1=j):∃y∈vs++ [e],y.1=j:=⟨e,by simp,a⟩
def UU (b:e.1≠j):(∃y∈vs++ [e],y.1=j)↔∃y∈vs,y.1=j:=
 ⟨fun⟨y,a,hyj⟩=>by
  rcases qZ.1 a with a|a
  . exact⟨y,a,hyj⟩
  . rw[qX]at a;subst a;exact absurd hyj b,fun⟨y,a,hyj⟩=>⟨y,sN _ a,hyj⟩⟩
def A8z (h:kQ Bs i vs j es) (c:e.1=j):kQ Bs i (vs++ [e]) j (Om (.int .i64) i es):=by
 obtain⟨a,b⟩:=cF i es h.1;refine⟨a,fun x=> ?_⟩;rw[b,h.2];exact⟨fun a=>⟨a.2.1,fun b=>a.1 b.1⟩,fun a=>⟨fun d=>a.2 ⟨d,Ta c⟩,a.1,fun b=>a.2 ⟨b.1,Ta c⟩⟩⟩
def A5i (h:kQ Bs i vs j es) (a:e.1≠j):kQ Bs i (vs++ [e]) j es:=⟨h.1,fun x=>by rw[h.2,UU a]⟩
def A8y {b:Bool} (h:kP Bs i vs j es) (d:e.1=j):kP Bs i (vs++ [e]) j (Df (.int .i64) i b es):=by
 obtain⟨a,c⟩:=cG i b es h.1;refine⟨a,fun x=> ?_⟩;rw[c,h.2];exact⟨fun a=>a.elim (fun c=> .inr ⟨c,Ta d⟩) fun a=>a.elim .inl fun c=> .inr ⟨c.1,Ta d⟩,fun a=>a.elim (fun a=> .inr (.inl a)) fun c=> .inl c.1⟩
def A5h (h:kP Bs i vs j es) (a:e.1≠j):kP Bs i (vs++ [e]) j es:=⟨h.1,fun x=>by rw[h.2,UU a]⟩
def A9b {O N:Int->Prop} {pv nw:List C8} {d:R6} (g:kP (fun _ x=>Bs j x/\¬(x=i/\∃e∈pv,e.1=j)) i nw j d)
 (l:Bs j i↔O j) (n:(∃e∈pv,e.1=j)\/(O j↔N j)) (k:(∃e∈nw,e.1=j)↔N j):(keys d).Nodup/\∀x,x∈keys d↔(x≠i/\Bs j x)\/(x=i/\N j):=by
 refine⟨g.1,fun x=> ?_⟩;rw[g.2,k];by_cases c:x=i
 . subst c;rcases n with f|f
   . exact⟨fun b=>b.elim (fun a=>absurd ⟨rfl,f⟩ a.2) .inr,fun b=>b.elim (fun a=>absurd rfl a.1) .inr⟩
   . exact⟨fun b=>b.elim (fun a=> .inr ⟨rfl,f.1 (l.1 a.1)⟩) .inr,fun b=>b.elim (fun a=>absurd rfl a.1) .inr⟩
 . exact⟨fun b=>b.elim (fun a=> .inl ⟨c,a.1⟩) fun a=>absurd a.1 c,fun b=>b.elim (fun a=> .inl ⟨a.2,fun h=>c h.1⟩) fun a=>absurd a.1 c⟩
def B6e {s:Nat} {x f r c:Rat} (h:qs s x) (d:qs s f) (g:qs s r) (b:qs s c):qs (4*s+1) (x-f/r*c):=by
 have a:=B2l h (Ot (Tx d g) b);rwa[show s+(s+s+s)+1=4*s+1 from by omega]at a
def inC (cols:List R6) (j x:Int):Prop:=x∈keys (cols.getD j.toNat [])
structure CI (n k s:Nat) (rest P:Wf) (rows0 lower0:List (List C8)) (r c:Int) (D:Wf) (rows lower:List (List C8)) (cols:List R6):Prop where
 lrows:rows.length=n
 llow:lower.length=n
 lcols:cols.length=n
 rd:∀i:Nat,i<n->(i:Int)∈D->O9 (rows.getD i [])/\(∀e∈rows.getD i [],0<=e.1/\e.1<(n:Int))/\(∀j,qs (4*s+1) (A3 (rows.getD i []) j))/\∀j,A3 (rows.getD i []) j=A3 (rows0.getD i []) j-Wd k (ix P) (U6 rows0) r.toNat c.toNat i*A3 (rows0.getD r.toNat []) j
 ru:∀i:Nat,i<n->(i:Int)∉D->rows.getD i []=rows0.getD i []
 lo:∀i:Nat,i<n->lower.getD i []=if(i:Int)∈D then lower0.getD i []++ [((k:Int),rc (Wd k (ix P) (U6 rows0) r.toNat c.toNat i))]else lower0.getD i []
 col:∀j:Int,j∈rest->(keys (cols.getD j.toNat [])).Nodup/\∀x:Int,x∈keys (cols.getD j.toNat [])↔x≠r/\0<=x/\x<(n:Int)/\(∀a,a<k->x.toNat≠ix P a)/\U6 rows x.toNat j.toNat≠0
variable {n k s:Nat} {S:Nat->Nat} {A:Nat->Nat->Rat} {rest P Q place:Wf} {rows lower rows1 lower1:List (List C8)} {cols cols1 cols2:List R6} {r c:Int}
def A3e {v:List C8} (h:O9 v) (j:Int):(∃e∈v,e.1=j)↔A3 v j≠0:=
 ⟨fun⟨e,he,hj⟩=>by rw[<-hj,F9 h.1 he];exact(h.2 e he).1,AR⟩
def EI.row (h:EI n k S A rest P Q place rows lower cols) (b:c∈rest) (d:r∈keys (cols.getD c.toNat [])):0<=r/\r<(n:Int)/\(∀a,a<k->r.toNat≠ix P a)/\U6 rows r.toNat c.toNat≠0:=((h.col c b).2 r).1 d
def EI.crange (h:EI n k S A rest P Q place rows lower cols) (a:c∈rest):0<=c/\c<(n:Int):=⟨((h.rmem c).1 a).1,((h.rmem c).1 a).2.1⟩
def CI.init (h:EI n k S A rest P Q place rows lower cols) (u:c∈rest) (x:r∈keys (cols.getD c.toNat [])) (z:cols1.length=n)
 (v:∀j:Int,j∈rest->kQ (inC cols) r (rows.getD r.toNat []) j (cols1.getD j.toNat [])):CI n k s rest P rows lower r c [] rows lower cols1:=by
 obtain⟨F,G,H,_⟩:=h.row u x;refine⟨h.lrows,h.llow,z,fun i _ w=>(by cases w),fun i _ _=>rfl,fun i _=>(qH (by simp)).symm,fun j hj=> ?_⟩;obtain⟨D,E⟩:=h.crange hj;obtain⟨l,o⟩:=v j hj;refine⟨l,fun B=> ?_⟩;rw[o];have t:=(h.col j hj).2 B;unfold inC;rw[t,A3e (h.can r.toNat (by omega)).1];constructor
 . rintro⟨⟨d,f,g,a⟩,b⟩;refine⟨fun e=>b ⟨e, ?_⟩,d,f,g,a⟩;subst e;unfold U6 at a;rwa[show((j.toNat:Nat):Int)=j from by omega]at a
 . rintro⟨y,d,f,g,a⟩;exact⟨⟨d,f,g,a⟩,fun b=>y b.1⟩
def CI.next (h:EI n k S A rest P Q place rows lower cols) (hc:c∈rest) (hr:r∈keys (cols.getD c.toNat [])) {D:Wf} (g:CI n k (S k) rest P rows lower r c D rows1 lower1 cols1) {i:Int}
 (a1:0<=i) (a2:i<(n:Int)) (W:i≠r) (B:∀a,a<k->i.toNat≠ix P a) (T:i∉D) {nw:List C8} {q:Rat}
 (Z:q=U6 rows i.toNat c.toNat/U6 rows r.toNat c.toNat)
 (u:HP (fun j=>A3 (rows.getD i.toNat []) j-q*A3 (rows.getD r.toNat []) j) nw) (a7:cols2.length=n)
 (a5:∀j:Int,j∈rest->kP (fun j x=>inC cols1 j x/\¬(x=i/\∃e∈rows.getD r.toNat [],e.1=j)) i nw j (cols2.getD j.toNat [])):
 CI n k (S k) rest P rows lower r c (D++ [i]) (rows1.set i.toNat nw) (lower1.set i.toNat (lower1.getD i.toNat []++ [((k:Int),rc q)])) cols2:=by
 obtain⟨ac,ad,ae,af⟩:=h.row hc hr;obtain⟨a8,c1⟩:=h.crange hc;have o:i.toNat<n:=by omega
 have V:((i.toNat:Nat):Int)=i:=by omega
 have U:Wd k (ix P) (U6 rows) r.toNat c.toNat i.toNat=q:=by rw[UV (by omega) B,Z]
 have s:∀x:Nat,(x:Int)∈D++ [i]↔(x:Int)∈D\/x=i.toNat:=fun x=>by
  rw[qZ,qX];exact g3l xS (by omega)
 have w:∀j,A3 nw j=A3 (rows.getD i.toNat []) j-q*A3 (rows.getD r.toNat []) j:=u.2;have a6:∀e∈nw,0<=e.1/\e.1<(n:Int):=fun e he=>qK fun b=>by
  refine(u.1.2 e he).1 ?_;rw[<-F9 u.1.1 he,w,D1 (v:=rows.getD i.toNat []) fun M F G=>b (by rw[<-G];exact(h.can _ o).2.1 M F),D1 (v:=rows.getD r.toNat []) fun M F G=>b (by rw[<-G];exact(h.can r.toNat (by omega)).2.1 M F),sE,tH,wS,rG]
 refine⟨by rw[qN];exact g.lrows,by rw[qN];exact g.llow,a7,fun x d f=> ?_,fun x d f=> ?_,fun x d=> ?_,fun j E=> ?_⟩
 . by_cases l:x=i.toNat
   . subst l;rw[B8 (by rw[g.lrows];exact o),U];refine⟨u.1,a6,fun j=> ?_,w⟩;rw[w,Z];have:=B6e ((h.can _ o).2.2 j) ((h.can _ o).2.2 (c.toNat:Int)) ((h.can r.toNat (by omega)).2.2 (c.toNat:Int)) ((h.can r.toNat (by omega)).2.2 j);exact this
   . rw[D7 l];exact g.rd x d (((s x).1 f).resolve_right l)
 . have l:x≠i.toNat:=fun e=>f ((s x).2 (.inr e))
   rw[D7 l];exact g.ru x d fun b=>f ((s x).2 (.inl b))
 . by_cases l:x=i.toNat
   . subst l;rw[B8 (by rw[g.llow];exact o),qJ ((s _).2 (.inr rfl)),g.lo _ o,qH (by rw[V];exact T),U]
   . rw[D7 l,g.lo x d];by_cases f:(x:Int)∈D
     . rw[qJ f,qJ ((s x).2 (.inl f))]
     . rw[qH f,qH fun b=>f (((s x).1 b).resolve_right l)]
 . obtain⟨aa,ab⟩:=h.crange E;obtain⟨a9,R⟩:=g.col j E;have X:((j.toNat:Nat):Int)=j:=by omega
   have a4:inC cols1 j i↔A3 (rows.getD i.toNat []) j≠0:=by
    unfold inC;rw[R];have F:U6 rows1 i.toNat j.toNat=A3 (rows.getD i.toNat []) j:=by
     unfold U6;rw[g.ru _ o (by rw[V];exact T),X]
    rw[F];exact⟨fun b=>b.2.2.2.2,fun b=>⟨W,a1,a2,B,b⟩⟩
   have a0:=A9b (Bs:=inC cols1) (O:=fun j=>A3 (rows.getD i.toNat []) j≠0) (N:=fun j=>A3 nw j≠0) (pv:=rows.getD r.toNat []) (nw:=nw) (a5 j E) a4 ?_ (A3e u.1 j)
   . refine⟨a0.1,fun x=> ?_⟩;rw[a0.2];unfold inC;rw[R];by_cases d:x=i
     . subst d;have:U6 (rows1.set x.toNat nw) x.toNat j.toNat=A3 nw j:=by
        unfold U6;rw[B8 (by rw[g.lrows];exact o),X]
       rw[this];exact⟨fun b=>b.elim (fun z=>absurd rfl z.1) fun z=>⟨W,a1,a2,B,z.2⟩,fun b=> .inr ⟨rfl,b.2.2.2.2⟩⟩
     . constructor
       . rintro(⟨_,t,H,I,J,y⟩ | ⟨t,_⟩)
         . refine⟨t,H,I,J, ?_⟩;unfold U6 at y⊢;rwa[D7 (by omega)]
         . exact absurd t d
       . rintro⟨t,H,I,J,y⟩;refine .inl ⟨d,t,H,I,J, ?_⟩;unfold U6 at y⊢;rwa[D7 (by omega)]at y
   . by_cases Y:∃e∈rows.getD r.toNat [],e.1=j
     . exact .inl Y
     . refine .inr ?_;have a3:A3 (rows.getD r.toNat []) j=0:=qK fun b=>Y (AR b)
       show A3 _ j≠0↔A3 nw j≠0;rw[w,a3,sE,tH,wS,rG]
def CI.done (h:EI n k S A rest P Q place rows lower cols) (z:c∈rest) (O:r∈keys (cols.getD c.toNat [])) {D:Wf} (g:CI n k (S k) rest P rows lower r c D rows1 lower1 cols1)
 (I:S (k+1)=4*S k+1) (U:∀x:Int,x∈D↔x≠r/\0<=x/\x<(n:Int)/\(∀a,a<k->x.toNat≠ix P a)/\U6 rows x.toNat c.toNat≠0) {G:Wf} (X:G.Nodup) (R:∀x,x∈G↔x∈rest/\x≠c):
 EI n (k+1) S A G (P.set k r) (Q.set k c) (place.set c.toNat k) rows1 lower1 cols1:=by
 obtain⟨Z,a0,a1,W⟩:=h.row z O;have E:k<P.length:=by
  rw[h.lP];refine g3x h.elim.kn fun E=> ?_
  obtain⟨M,c1,F⟩:=(h.rmem c).1 z;obtain⟨a,l,e⟩:=V3 (n:=n) (q:=ix Q) (fun a l=>h.elim.qlt a (by omega)) (fun a b l hb=>h.elim.qinj a b (by omega) (by omega)) (show c.toNat<n by omega);exact absurd e.symm (F a (by omega))
 have B:∀i:Nat,i<n->((i:Int)∈D↔Wd k (ix P) (U6 rows) r.toNat c.toNat i≠0):=fun i d=>by
  rw[U,qV];constructor
  . rintro⟨Y,_,_,t,u⟩;rw[UV (by omega) t,uE];exact fun o=>(xK.1 o).elim u fun o=>by
     have:=wO _ W;rw[o,sE]at this;exact absurd this (by decide)
  . intro M;have F:¬(i=r.toNat\/∃a,a<k/\i=ix P a):=fun s=>M (qJ s)
    refine⟨fun e=>F (.inl (by omega)),by omega,by omega,fun a l e=>F (.inr ⟨a,l,e⟩),fun o=>M ?_⟩;unfold Wd;rw[qH F,o,uE,rX]
 refine h.step z O X R g.lrows g.llow g.lcols (fun i d=> ?_) (fun i d=> ?_) (by omega) (fun i d=> ?_) fun j V=> ?_
 . rw[I];by_cases f:(i:Int)∈D
   . exact g.rd i d f
   . have o:Wd k (ix P) (U6 rows) r.toNat c.toNat i=0:=qK fun s=>f ((B i d).2 s)
     rw[g.ru i d f,o];obtain⟨w,y,T⟩:=h.can i d;exact⟨w,y,fun j=>G9 (T j) (by omega),fun j=>by rw[rX,tH,wS,rG]⟩
 . rw[g.lo i d];by_cases f:(i:Int)∈D
   . rw[qJ f,qH ((B i d).1 f)]
   . rw[qH f,qJ (qK fun s=>f ((B i d).2 s))]
 . have N:=(h.can i d).2.2 (c.toNat:Int);rw[I];unfold Wd;split
   . exact I7 (by have:=A1l N;omega)
   . exact G9 (Tx N ((h.can r.toNat (by omega)).2.2 (c.toNat:Int))) (by omega)
 . obtain⟨w,y⟩:=g.col j ((R j).1 V).1;refine⟨w,fun x=> ?_⟩;rw[y];constructor
   . rintro⟨Y,t,u,v,H⟩;refine⟨t,u,fun a l=> ?_,H⟩;by_cases J:a=k
     . subst J;rw[Ol E];omega
     . rw[Bb J];exact v a (by omega)
   . rintro⟨t,u,v,H⟩;refine⟨fun e=> ?_,t,u,fun a l=> ?_,H⟩
     . have:=v k (rN _);rw[Ol E,e]at this;exact this rfl
     . have:=v a (by omega);rwa[Bb (uC l)]at this
def EI.two (h:EI n k S A rest P Q place rows lower cols) {i j:Nat} (b:i<n) (c:j<n) (o:i≠j) (g:∀a,a<k->i≠ix P a) (l:∀a,a<k->j≠ix P a):k+2<=n:=by
 refine qK fun b=> ?_
 have b:=h.elim.kn;obtain⟨a,f,c,d,b⟩:=GK n (fun a=>if a<k then ix P a else if a=k then i else j) fun a _=>by
  split
  . rename_i c;exact h.elim.plt a c
  . split<;>assumption
 by_cases c:a<k
 . rw[qJ c]at b;by_cases d:f<k
   . rw[qJ d]at b;have:=h.elim.pinj a f c d b;omega
   . rw[qH d]at b;split at b
     . exact g a c b.symm
     . exact l a c b.symm
 . have d:¬f<k:=by omega
   rw[qH c,qH d]at b;have:a=k:=by omega
   rw[qJ this,qH (by omega)]at b;exact o b
def Vt.qsR {n k T:Nat} {A R Lo:Nat->Nat->Rat} {p q:Nat->Nat} (h:Vt n k A p q R Lo) (I:Di n n A T) {i j:Nat} (t:i<n) (M:j<n):qs (T+T) (R i j):=by
 have H:∀a,a<=k->a<n->(∀b,b<a->i≠p b)->(∀m,a<=m->m<k->Lo i m=0)->qs (T+T) (R i j):=fun a hak han hia hlo=>by
  have O:∀b,b<a->(if b=a then i else p b)=p b:=fun b d=>qH (by omega)
  have w:∀b,b<a->(if b=a then R i else R (p b))=R (p b):=fun b d=>qH (by omega)
  have z:∀b,b<a->(if b=a then j else q b)=q b:=fun b d=>qH (by omega)
  have E:∀b,b<=a->(if b=a then j else q b)<n:=fun b d=>by
   by_cases e:b=a
   . rw[qJ e];exact M
   . rw[qH e];exact h.qlt b (by omega)
  have:=A2d (R:=n) (C:=n) (T:=T) (A:=A) (a:=a) (u:=fun b=>if b=a then R i else R (p b)) (X:=fun b=>if b=a then Lo i else Lo (p b)) (r:=fun b=>if b=a then i else p b) (l:=fun b=>if b=a then j else q b) I (fun b d=>by
   by_cases e:b=a
   . simp only[qJ e];exact t
   . simp only[qH e];exact h.plt b (by omega)) E han han (fun b d m F=>by
   have y:=E m F;generalize (if m=a then j else q m)=c at y;by_cases e:b=a
   . simp only[e,wF];rw[h.dec i c t y,Cw hak fun f g o=>by rw[hlo f g o,rX]];congr 1;exact B6 fun f D=>by rw[w f D]
   . simp only[qH e];rw[h.dec (p b) c (h.plt b (by omega)) y,Cw (show b<=k by omega) fun f g o=>by rw[h.low b f (by omega) o g,rX]];congr 1;exact B6 fun f D=>by rw[w f (by omega)]) (fun b m F d=>by
   show(if b=a then R i else R (p b)) (if m=a then j else q m)=0;rw[z m (by omega)];by_cases e:b=a
   . rw[qJ e];exact h.zero m i (by omega) t fun v J=>hia v (by omega)
   . rw[qH e];exact h.zero m (p b) (by omega) (h.plt b (by omega)) fun v J x=>by have:=h.pinj b v (by omega) (by omega) x;omega) (fun b d=>by
   show(if b=a then R i else R (p b)) (if b=a then j else q b)≠0;rw[w b d,z b d];exact h.piv b (by omega))
  simp only[wF]at this;exact this
 by_cases B:∃a,a<k/\i=p a
 . obtain⟨a,s,rfl⟩:=B;exact H a (by omega) (by have:=h.kn;omega) (fun b d x=>by have:=h.pinj a b s (by omega) x;omega) fun m g o=>h.low a m s o g
 . have G:∀a,a<k->i≠p a:=fun a s e=>B ⟨a,s,e⟩
   have N:k<n:=g3x h.kn fun e=>by
    subst e;obtain⟨a,s,f⟩:=V3 h.plt h.pinj t;exact G a s f.symm
   exact H k (qT _) N G fun m g o=>by omega
def Vt.qsL {n k T:Nat} {A R Lo:Nat->Nat->Rat} {p q:Nat->Nat} (h:Vt n k A p q R Lo) (B:Di n n A T) (F:1<=T) {i m:Nat} (t:i<n) (D:m<k):qs (T+T) (Lo i m):=by
 by_cases y:∃a,a<=m/\i=p a
 . obtain⟨a,d,rfl⟩:=y;rw[h.low a m (by omega) D d];exact I7 (by omega)
 have E:∀a,a<=m->i≠p a:=fun a d e=>y ⟨a,d,e⟩
 have z:m<n:=by have:=h.kn;omega
 refine A2c (R:=n) (C:=n) (T:=T) (A:=A) (a:=m) (u:=fun b=>R (p b)) (X:=fun b=>Lo (p b)) (r:=p) (l:=q) (s:=i) (x:=Lo i) B (fun b j=>h.plt b (by omega)) t (fun b j=>h.qlt b (by omega)) z z (fun b j c w=> ?_) (fun b c w j=> ?_) (fun b j=>h.piv b (by omega)) (fun c w=> ?_)
 . rw[h.dec (p b) (q c) (h.plt b (by omega)) (h.qlt c (by omega)),Cw (show b<=k by omega) fun f v g=>by rw[h.low b f (by omega) g v,rX]]
 . exact h.zero c (p b) (by omega) (h.plt b (by omega)) fun a d o=>by have:=h.pinj b a (by omega) (by omega) o;omega
 . rw[h.dec i (q c) t (h.qlt c (by omega)),h.zero c i (by omega) t fun a d=>E a (by omega),rG,Cw (show m+1<=k by omega) fun f v g=>by rw[h.zero c (p f) (by omega) (h.plt f g) fun a d o=>by have:=h.pinj f a g (by omega) o;omega,sE],C0]
variable {n k s T:Nat} {S S':Nat->Nat} {A:Nat->Nat->Rat} {rest P Q place:Wf} {rows lower rows1 lower1:List (List C8)} {cols cols1 cols2:List R6} {r c:Int}
def EI.resize (h:EI n k S A rest P Q place rows lower cols) (b:∀a,a<=k->S a=S' a):EI n k S' A rest P Q place rows lower cols:=
 { h with
   can:=fun i c=>by rw[<-b k (qT _)];exact h.can i c
   lq:=fun i c j=>by rw[<-b k (qT _)];exact h.lq i c j
   fin:=fun a c j=>by rw[<-b a (by omega)];exact h.fin a c j}
def EI.tight (h:EI n k S A rest P Q place rows lower cols) (d:1<=T) (b:Di n n A T):EI n k (fun _=>T+T) A rest P Q place rows lower cols:=by
 have c:∀i,i<n->∀j:Int,qs (T+T) (A3 (rows.getD i []) j):=fun i a j=>by
  by_cases l:0<=j/\j<(n:Int)
  . have:=h.elim.qsR b a (show j.toNat<n by omega);unfold U6 at this;rwa[show((j.toNat:Nat):Int)=j from by omega]at this
  . rw[D1 fun e f g=>l (by rw[<-g];exact(h.can i a).2.1 e f)];exact I7 (by omega)
 exact {h with
  can:=fun i a=>⟨(h.can i a).1,(h.can i a).2.1,c i a⟩
  lq:=fun i a j=>by
   by_cases f:0<=j/\j<(k:Int)
   . have:=h.elim.qsL b d a (show j.toNat<k by omega);unfold U6 at this;rwa[show((j.toNat:Nat):Int)=j from by omega]at this
   . rw[D1 fun e b d=>f (by rw[<-d];exact(h.lcan i a).2 e b)];exact I7 (by omega)
  fin:=fun a b j=>c _ (h.elim.plt a b) j}
def CI.doneT (h:EI n k (fun _=>T+T) A rest P Q place rows lower cols) (i:1<=T) (d:Di n n A T) (j:c∈rest) (l:r∈keys (cols.getD c.toNat [])) {D:Wf} (g:CI n k (T+T) rest P rows lower r c D rows1 lower1 cols1)
 (f:∀x:Int,x∈D↔x≠r/\0<=x/\x<(n:Int)/\(∀a,a<k->x.toNat≠ix P a)/\U6 rows x.toNat c.toNat≠0) {b:Wf} (o:b.Nodup) (s:∀x,x∈b↔x∈rest/\x≠c):
 EI n (k+1) (fun _=>T+T) A b (P.set k r) (Q.set k c) (place.set c.toNat k) rows1 lower1 cols1:=by
 have b:=h.resize (S':=fun a=>if a<=k then T+T else 4*(T+T)+1) fun a ha=>(qJ ha).symm
 refine(CI.done b j l (D:=D) (by simp only[qJ (qT k)];exact g) ?_ f o s).tight i d;simp only[qH (Nat.not_succ_le_self k),qJ (qT k)]
def B5s {R C:Nat} (a:Di R C A T) {i j:Nat} (b:i<R) (c:j<C):qs T (A i j):=by
 have:=a 1 (fun _=>i) (fun _=>j) (by omega) (by omega) (fun _ _=>b) (fun _ _=>c);rwa[show det 1 (fun _ _=>A i j)=A i j from by rw[det,C0,C0,det];show 0+1*A i j*1=A i j;grind]at this
def JW {α:Type} (l:List α) (i:Nat) (d:α):l.set i (l.getD i d)=l:=by
 refine g4l (by rw[qN]) fun j b a=> ?_
 rw[g4m];split
 . rename_i e;subst e;rw[Q9 _ _ a]
 . rfl
def Ru {α:Type} {d:α} {l:List α} {t:Int} (a:0<=t) (b:t<(l.length:Int)):l.take (t+1).toNat=l.take t.toNat++ [gx d l t]:=by
 rw[show(t+1).toNat=t.toNat+1 from by omega,rS,H5 (d:=d) a b];rfl
def NE {l:Wf} {n:Nat} (h:l.Nodup) (f:∀x∈l,0<=x/\x<(n:Int)):l.length<=n:=by
 refine qK fun a=> ?_
 have b:∀a,a<n+1->a<l.length:=fun a ha=>by omega
 obtain⟨a,c,i,g,j⟩:=GK n (fun a=>(l.getD a 0).toNat) fun a ha=>by
  have:=f _ (D2 (d:=0) (b a ha));omega
 have i:=f _ (D2 (d:=0) (b a (by omega)));have i:=f _ (D2 (d:=0) (b c g));have f:l.getD a 0=l.getD c 0:=by omega
 rw[Q9 _ _ (b a (by omega)),Q9 _ _ (b c g)]at f;have:=(xW h).1 f;omega
def B0w (es:R6):(keys es).length=es.length:=sS ..
def mN {es:R6} {y:Int×Bool} (h:y∈es):y.1∈keys es:=vS (f:=fun e:Int×Bool=>e.1) h
def jC (n:Nat) (dd:List Nat):Prop:=∀i,i<n->i∉dd
abbrev NB:=List R6×List Nat
abbrev NR:=List (List C8)×List Nat
variable {n k:Nat} {S:Nat->Nat} {A:Nat->Nat->Rat} {rest P Q place:Wf} {rows lower:List (List C8)} {cols:List R6}
def A2h {v:List C8} {m j:Int} (h:F1 v m) (b:A3 v j≠0):0<=j/\j<m:=qK fun a=>b (A7t h a)
def EI.more (h:EI n k S A rest P Q place rows lower cols) (u:k<n):0<rest.length:=by
 refine qK fun v=> ?_
 have o:rest= []:=qO (by omega);have g:∀c,c<n->∃a,a<k/\c=ix Q a:=fun c b=>qK fun hh=>by
  have:=(h.rmem (c:Int)).2 ⟨by omega,by omega,fun a ha e=>hh ⟨a,ha,by omega⟩⟩;rw[o]at this;cases this
 obtain⟨f,d⟩:∃f:Nat->Nat,∀c,c<n->f c<k/\c=ix Q (f c):=by
  refine⟨fun c=>if b:c<n then(g c b).choose else 0,fun c b=> ?_⟩;simp only[dif_pos b];exact(g c b).choose_spec
 obtain⟨a,i,s,t,l⟩:=GK k f fun a ha=>(d a (by omega)).1
 have j:=(d a (by omega)).2;have r:=(d i (by omega)).2;rw[l]at j;omega
def EI.okRow (h:EI n k S A rest P Q place rows lower cols) (d:S k<=K1) (a:n<=16384) {i:Nat} (f:i<n):DX K1 (rows.getD i []):=by
 obtain⟨a,b,c⟩:=h.can i f;have:=S3 (n:=(n:Int)) (v:=rows.getD i []) ⟨a.1,fun e he=>⟨(b e he).1,(b e he).2,(a.2 e he).1⟩⟩;exact⟨a.1,IL a fun j=>G9 (c j) d,by omega⟩
def EI.lowLen (h:EI n k S A rest P Q place rows lower cols) {i:Nat} (c:i<n):(lower.getD i []).length<=k:=by
 obtain⟨a,b⟩:=h.lcan i c;have:=S3 (n:=(k:Int)) (v:=lower.getD i []) ⟨a.1,fun e he=>⟨(b e he).1,(b e he).2,(a.2 e he).1⟩⟩;omega
def EI.colLen (h:EI n k S A rest P Q place rows lower cols) {c:Int} (b:c∈rest):(cols.getD c.toNat []).length<=n:=by
 obtain⟨d,a⟩:=h.col c b;rw[<-B0w];exact NE d fun x b=>⟨((a x).1 b).1,((a x).1 b).2.1⟩
def EI.pick (h:EI n k S A rest P Q place rows lower cols) {b:Nat} (a:b<rest.length):(rest.take b++rest.drop (b+1)).Nodup/\∀x,x∈rest.take b++rest.drop (b+1)↔x∈rest/\x≠rest.getD b 0:=by
 have j:rest=rest.take b++rest.getD b 0::rest.drop (b+1):=by
  rw[Q9 _ _ a, <-wJ a,uN]
 have d:=h.rnd;generalize rest.getD b 0=c at*;generalize rest.take b=u at*;generalize rest.drop (b+1)=v at*;subst j;rw[tN]at d;obtain⟨s,t,f⟩:=d;obtain⟨o,r⟩:=sI.1 t;refine⟨tN.2 ⟨s,r,fun g i b a=>f g i b (qM _ a)⟩,fun x=> ?_⟩;rw[qZ,qZ,qS];constructor
 . rintro(hx|hx)
   . exact⟨.inl hx,fun e=>f x hx c rI e⟩
   . exact⟨.inr (.inr hx),fun e=>o (e▸hx)⟩
 . rintro⟨hx|hx|hx,l⟩
   . exact .inl hx
   . exact absurd hx l
   . exact .inr hx
def FQ (n:Nat) (rest:Wf) (Bs:Int->Int->Prop) (i:Int) (v:List C8) (p:Int×NB×Unit):Prop:=0<=p.1/\p.1<=(v.length:Int)/\p.2.1.1.length=n/\jC n p.2.1.2/\∀j:Int,j∈rest->(0<=j/\j<(n:Int))/\kQ Bs i (v.take p.1.toNat) j (p.2.1.1.getD j.toNat [])
def cC (n:Nat) (rest:Wf) (Bs:Int->Int->Prop) (i:Int) (v:List C8) (p:Int×NB×Unit):Prop:=0<=p.1/\p.1<=(v.length:Int)/\p.2.1.1.length=n/\jC n p.2.1.2/\∀j:Int,j∈rest->(0<=j/\j<(n:Int))/\kP Bs i (v.take p.1.toNat) j (p.2.1.1.getD j.toNat [])
def ON (n:Nat) (F:Nat->Int->Rat) (i:Int) (v:List C8) (p:Int×NB×Unit):Prop:=0<=p.1/\p.1<=(v.length:Int)/\p.2.1.1.length=n/\jC n p.2.1.2/\∀j:Int,0<=j->j<(n:Int)->fN i F (v.take p.1.toNat) j (p.2.1.1.getD j.toNat [])
variable {Bs:Int->Int->Prop} {i t:Int} {v:List C8} {dd:List Nat} {F:Nat->Int->Rat}
def FQ.rng (h:FQ n rest Bs i v (t,(cols,dd),())) (c:∀e∈v,0<=e.1/\e.1<(n:Int)) (b:t<(v.length:Int)):(0<=t/\t<(v.length:Int))/\(0<=(gx D5 v t).1/\(gx D5 v t).1<((cols.length:Nat):Int))/\(gx D5 v t).1.toNat∉dd:=by
 have a:=c (gx D5 v t) (G5 (d:=D5) (i:=t) h.1 b);have c:cols.length=n:=h.2.2.1;exact⟨⟨h.1,b⟩,⟨a.1,by rw[c];exact a.2⟩,h.2.2.2.1 _ (by omega)⟩
def FQ.next (h:FQ n rest Bs i v (t,(cols,dd),())) (hv:∀e∈v,0<=e.1/\e.1<(n:Int)) (ht:t<(v.length:Int)):FQ n rest Bs i v (t+1,(cols.set (gx D5 v t).1.toNat (Om (.int .i64) i (cols.getD (gx D5 v t).1.toNat [])),dd),()):=by
 obtain⟨b,_,c,f,g⟩:=h;simp only at b c f g;refine⟨by simp only;omega,by simp only;omega,by simp only;rw[qN];exact c,f,fun j a=> ?_⟩;obtain⟨⟨l,o⟩,k⟩:=g j a;refine⟨⟨l,o⟩, ?_⟩;have r:=hv _ (G5 (d:=D5) b ht);simp only;rw[Ru (d:=D5) b ht];generalize gx D5 v t=e at*;by_cases a:e.1=j
 . subst a;rw[B8 (by omega)];exact A8z k rfl
 . rw[D7 (by omega)];exact A5i k a
def cC.rng (h:cC n rest Bs i v (t,(cols,dd),())) (c:∀e∈v,0<=e.1/\e.1<(n:Int)) (b:t<(v.length:Int)):(0<=t/\t<(v.length:Int))/\(0<=(gx D5 v t).1/\(gx D5 v t).1<((cols.length:Nat):Int))/\(gx D5 v t).1.toNat∉dd:=by
 have a:=c (gx D5 v t) (G5 (d:=D5) (i:=t) h.1 b);have c:cols.length=n:=h.2.2.1;exact⟨⟨h.1,b⟩,⟨a.1,by rw[c];exact a.2⟩,h.2.2.2.1 _ (by omega)⟩
def cC.next {b:Bool} (h:cC n rest Bs i v (t,(cols,dd),())) (hv:∀e∈v,0<=e.1/\e.1<(n:Int)) (ht:t<(v.length:Int)):cC n rest Bs i v (t+1,(cols.set (gx D5 v t).1.toNat (Df (.int .i64) i b (cols.getD (gx D5 v t).1.toNat [])),dd),()):=by
 obtain⟨c,_,f,g,k⟩:=h;simp only at c f g k;refine⟨by simp only;omega,by simp only;omega,by simp only;rw[qN];exact f,g,fun j a=> ?_⟩;obtain⟨⟨o,r⟩,l⟩:=k j a;refine⟨⟨o,r⟩, ?_⟩;have s:=hv _ (G5 (d:=D5) c ht);simp only;rw[Ru (d:=D5) c ht];generalize gx D5 v t=e at*;by_cases a:e.1=j
 . subst a;rw[B8 (by omega)];exact A8y l rfl
 . rw[D7 (by omega)];exact A5h l a
def ON.rng (h:ON n F i v (t,(cols,dd),())) (c:∀e∈v,0<=e.1/\e.1<(n:Int)) (b:t<(v.length:Int)):(0<=t/\t<(v.length:Int))/\(0<=(gx D5 v t).1/\(gx D5 v t).1<((cols.length:Nat):Int))/\(gx D5 v t).1.toNat∉dd:=by
 have a:=c (gx D5 v t) (G5 (d:=D5) (i:=t) h.1 b);have c:cols.length=n:=h.2.2.1;exact⟨⟨h.1,b⟩,⟨a.1,by rw[c];exact a.2⟩,h.2.2.2.1 _ (by omega)⟩
def ON.next {b:Bool} (h:ON n F i v (t,(cols,dd),())) (hv:∀e∈v,0<=e.1/\e.1<(n:Int)) (ht:t<(v.length:Int)):ON n F i v (t+1,(cols.set (gx D5 v t).1.toNat (Df (.int .i64) i b (cols.getD (gx D5 v t).1.toNat [])),dd),()):=by
 obtain⟨a,_,c,f,g⟩:=h;simp only at a c f g;refine⟨by simp only;omega,by simp only;omega,by simp only;rw[qN];exact c,f,fun j o r=> ?_⟩;have s:=hv _ (G5 (d:=D5) a ht);simp only;rw[Ru (d:=D5) a ht];have k:=g j o r;generalize gx D5 v t=e at*;by_cases l:e.1=j
 . subst l;rw[B8 (by omega)];exact A9a k rfl
 . rw[D7 (by omega)];exact A5k k l
def JA (n:Nat) (p:Int×NB×Wf×Unit):Prop:=0<=p.1/\p.1<=(n:Int)/\p.2.1.1.length=n/\(∀j,p.2.1.1.getD j []= [])/\(∀i∈p.2.1.2,p.1<=(i:Int))/\p.2.2.1.length=n/\∀i:Nat,(i:Int)<p.1->p.2.2.1.getD i 0=(i:Int)
def JA.init:JA n (0,(List.replicate n [],Ko (Ty.mp false (Ty.int i64) false Ty.bool) n),List.replicate n 0,()):=by
 refine⟨by simp only;omega,by simp only;omega,by simp only;rw[rK],fun j=> ?_,fun i _=>qF i,by simp only;rw[rK],fun i a=> ?_⟩
 . simp only;rw[qE,uB];split<;>rfl
 . simp only at a;omega
def JA.next {left:Wf} (h:JA n (t,(cols,dd),left,())) (ht:t<(n:Int)):JA n (t+1,(cols.set t.toNat [],NW t.toNat dd),left.set t.toNat t,()):=by
 obtain⟨o,_,c,d,f,g,k⟩:=h;simp only at o c d f g k;refine⟨by simp only;omega,by simp only;omega,by simp only;rw[qN];exact c,fun j=> ?_,fun i b=> ?_,by simp only;rw[qN];exact g,fun i b=> ?_⟩
 . simp only;by_cases a:j=t.toNat
   . subst a;rw[B8 (by omega)]
   . rw[D7 a];exact d j
 . simp only at b⊢;obtain⟨l,r⟩:=XY.1 b;have:=f i l;omega
 . simp only at b⊢;by_cases a:i=t.toNat
   . subst a;rw[B8 (by omega)];omega
   . rw[D7 a];exact k i (by omega)
def EB (n:Nat) (D:List (List C8)) (p:Int×List (List C8)×NB×Unit):Prop:=0<=p.1/\p.1<=(n:Int)/\p.2.1.length=n/\(∀i:Nat,(i:Int)<p.1->HP (A3 (D.getD i [])) (p.2.1.getD i []))/\p.2.2.1.1.length=n/\jC n p.2.2.1.2/\∀j:Int,0<=j->j<(n:Int)->fN p.1 (fun i=>A3 (D.getD i [])) [] j (p.2.2.1.1.getD j.toNat [])
def EB.init {left:Wf} {D:List (List C8)} (h:JA n (t,(cols,dd),left,())) (s:(n:Int)<=t):EB n D (0,List.replicate n [],(cols,dd),()):=by
 obtain⟨g,_,b,c,d,k,l⟩:=h;simp only at g b c d k l;refine⟨by simp only;omega,by simp only;omega,by simp only;rw[rK],fun i f=>by simp only at f;omega,b,fun i f r=>by have:=d i r;omega,fun j u v=> ?_⟩;simp only;rw[c];refine⟨zU,fun x=>⟨fun a=>(by cases a),fun a=> ?_⟩⟩;rcases a with⟨w,y,_⟩ | ⟨_,e,o,_⟩
 . omega
 . cases o
def EB.row {D:List (List C8)} {rs:List (List C8)} (h:EB n D (t,rs,(cols,dd),())):ON n (fun i=>A3 (D.getD i [])) t (D.getD t.toNat []) (0,(cols,dd),()):=by
 obtain⟨d,_,f,g,a,b,c⟩:=h;exact⟨qG _,qF _,a,b,fun j d f=>c j d f⟩
def EB.next {D:List (List C8)} {rs:List (List C8)} {cols2:List R6} {dd2:List Nat} {u:Int} {w:List C8} (h:EB n D (t,rs,(cols,dd),())) (ht:t<(n:Int)) {m:Int} (hv:F1 (D.getD t.toNat []) m) (hw:HP (A3 (D.getD t.toNat [])) w) (hf:ON n (fun i=>A3 (D.getD i [])) t (D.getD t.toNat []) (u,(cols2,dd2),())) (hu:((D.getD t.toNat []).length:Int)<=u):EB n D (t+1,rs.set t.toNat w,(cols2,dd2),()):=by
 obtain⟨d,_,f,g,r,s,v⟩:=h;obtain⟨o,_,a,b,c⟩:=hf;simp only at d f g r s v o a b c;refine⟨by simp only;omega,by simp only;omega,by simp only;rw[qN];exact f,fun i x=> ?_,a,b,fun j y z=> ?_⟩
 . simp only at x⊢;by_cases l:i=t.toNat
   . subst l;rw[B8 (by omega)];exact hw
   . rw[D7 l];exact g i (by omega)
 . simp only;have k:=c j y z;rw[H1 hu]at k;exact A5j k d hv rfl
def B5y (n:Nat) (M:N0) (p:Int×Wf×Wf×Wf×Wf×List (List C8)×NR×NB×Unit):Prop:=0<=p.1/\p.1<=(n:Int)/\(∀s,1<=s->Di n n (el M) s->EI n p.1.toNat (fun _=>s+s) (el M) p.2.1 p.2.2.1 p.2.2.2.1 p.2.2.2.2.1 p.2.2.2.2.2.1 p.2.2.2.2.2.2.1.1 p.2.2.2.2.2.2.2.1.1)/\jC n p.2.2.2.2.2.2.1.2/\jC n p.2.2.2.2.2.2.2.1.2
def B5y.init {M:N0} {left:Wf} {cols2:List R6} {B:List Nat} {rs:List (List C8)} {u:Int} (y:A7 M) (V:Yb M) (Q:M.1=(n:Int)) (P:M.2.1=(n:Int)) (h:JA n (t,(cols2,B),left,())) (X:(n:Int)<=t) (g:EB n M.2.2 (u,rs,(cols,dd),())) (A:(n:Int)<=u):B5y n M (0,left,List.replicate n 0,List.replicate n 0,List.replicate n 0,rs,(List.replicate n [],Ko (Ty.sl (.pair (.int .i64) (.pair (.pair .bool (.sl (.int .u32))) (.sl (.int .u32))))) n),(cols,dd),()):=by
 obtain⟨G,H,I,J,N,w,x⟩:=h;obtain⟨D,E,k,l,o,r,v⟩:=g;simp only at G H I J N w x D E k l o r v;have A:u=(n:Int):=by omega
 subst A;refine⟨qG _,qF _,fun s W O=> ?_,fun i a f=>(by cases f),r⟩;have U:(M.2.2.length:Int)=(n:Int):=by rw[y.2.2.2.2.1,Q]
 have b:∀i,i<n->F1 (M.2.2.getD i []) (n:Int):=fun i a=>by
  have f:=D2 (d:=([]:List C8)) (show i<M.2.2.length by omega);exact P▸y.2.2.2.2.2 _ f
 have T:∀(i:Nat) (j:Int),i<n->qs (s+s) (A3 (M.2.2.getD i []) j):=fun i j a=>by
  by_cases c:0<=j/\j<(n:Int)
  . have:=B5s O a (show j.toNat<n by omega);unfold el at this;rw[show((j.toNat:Nat):Int)=j from by omega]at this;exact G9 this (by omega)
  . rw[D1 fun e z R=>c (by rw[<-R];exact⟨((b i a).2 e z).1,((b i a).2 e z).2.1⟩)];exact I7 (by omega)
 exact EI.start (F:=fun i=>A3 (M.2.2.getD i [])) (fun i j _ _=>rfl) w (fun i a=>x i (by omega)) rK rK rK k rK o (fun i a=>l i (by omega)) (fun i j a c=>A2h (b i a) c) (fun i j a=>T i j a) (fun i a=>by rw[qE,uB,qJ a];rfl) v
def Pp:An:= {loop:= [(5,⟨[1,5,14,15],[],[(16,false,vI)],[],[(0, .row .bool 4)]⟩)]}
def TH:An:= {plan:= [(3,[0,1,2],[5],true,(.q 0 (.q 1 (.q 2 (.e 3 (.e 4 (.e 5 .done)))))))]}
def Sv:An:= {}
def Fa:A4 N4.args->Prop:=fun(x:RV)=>let b:=(x.1.length:Int);let a:=(0:Int);(iB (decide (b≠x.2.1)) (false=decide (G1 x.1 x.2.1)) ((a<=x.2.1/\x.2.1<=x.2.1/\(↑(1:Nat):Int)*x.2.1<=281474976710656/\x.2.1<=9223372036854775807)/\∃(I:B7i->Prop),∃(d: _->Nat),I (a,List.replicate x.2.1.toNat false,())/\∀(p:B7i),let h:=(decide (gx a x.1 p.1<a));let g:=(p.2.1.length:Int);let f:=(decide (x.2.1<=gx a x.1 p.1));let e:=(List.getD p.2.1 (gx a x.1 p.1).toNat false);let i:=(I5 h true f);let c:=(i64.wrap (p.1+1),List.set p.2.1 (gx a x.1 p.1).toNat true,());(Ty.int i64).wf p.1/\(List.length p.2.1<=9223372036854775807/\∀(x:Bool),x∈p.2.1->True)/\True->I p->(iB (decide (p.1<b)) ((a<=p.1/\p.1<b)/\(I5 h true f=false->a<=gx a x.1 p.1/\gx a x.1 p.1<g)/\(iB (I5 i true e) (false=decide (G1 x.1 x.2.1)) ((a<=gx a x.1 p.1/\gx a x.1 p.1<g)/\I c/\d c<d p))) (true=decide (G1 x.1 x.2.1)))))
def Za:A4 Dn.args->Prop:=fun(x:eG)=>let a:=(rv x.1-rv x.2.1*rv x.2.2.1);True/\Fg fun r=>r.1=(rv x.2.2.1).num.sign->(iB (decide (r.1=0)) ((rv x.2.2.1=(0:Rat)->x.1=x.1)/\(rv x.2.2.1≠(0:Rat)->x.1=rc a)) ((G3 x.2.1/\G3 x.2.2.1)/\K7 fun r=>r.1=rc (rv x.2.1*rv x.2.2.1)->(G3 x.1/\G3 r.1)/\K7 fun b=>b.1=rc (rv x.1-rv r.1)->(rv x.2.2.1=(0:Rat)->b.1=x.1)/\(rv x.2.2.1≠(0:Rat)->b.1=rc a)))
def Gl:A4 O2.args->Prop:=fun(x:MM×Int×Unit)=>let b:=(decide (x.1.1=x.2.1));let a:=(decide (x.1.2.1=x.2.1));(I5 b a false=true->True)/\∀(r:Aj),(I5 b a false=true->(True/\True)/\r.1=decide (A7 x.1))->I5 (I5 b a false) r.1 false=decide (sqr x.1 x.2.1)
def PI (l:Wf) (n t:Int) (s:List Bool):Prop:=0<=t/\t<=(l.length:Int)/\(s.length:Int)=n/\(∀i∈l.take t.toNat,0<=i/\i<n)/\(l.take t.toNat).Nodup/\∀k:Nat,(k:Int)<n->(s.getD k false=true↔(k:Int)∈l.take t.toNat)
def PI0 {l:Wf} {n:Int} (b:0<=n):PI l n 0 (List.replicate n.toNat false):=by
 refine⟨qG _,qF _,by rw[rK];omega,fun i a=>(by cases a),zU,fun k _=> ?_⟩;rw[qE,uB];constructor
 . intro h;split at h<;>cases h
 . intro h;cases h
def SY {l:Wf} {t:Int} (a:0<=t) (b:t<(l.length:Int)):l.take (t+1).toNat=l.take t.toNat++ [gx 0 l t]:=by
 rw[show(t+1).toNat=t.toNat+1 from by omega,rS,H5 (d:=(0:Int)) a b];rfl
def A8g {l:Wf} {n t:Int} {s:List Bool} (h:PI l n t s) (b:t<(l.length:Int)) (hb:gx 0 l t<0\/n<=gx 0 l t\/s.getD (gx 0 l t).toNat false=true):¬G1 l n:=by
 rintro⟨_,f,g⟩;obtain⟨c,_,_,_,_,j⟩:=h;have i:=G5 (d:=(0:Int)) c b;obtain⟨k,o⟩:=f _ i;rcases hb with hb|hb|hb
 . omega
 . omega
 . have:=(j (gx 0 l t).toNat (by omega)).1 hb;rw[show(((gx 0 l t).toNat:Nat):Int)=gx 0 l t from by omega]at this;have a:(l.take (t+1).toNat).Nodup:=g.take;rw[SY c b,tN]at a;exact a.2.2 _ this _ (qX.2 rfl) rfl
def A2l {l:Wf} {n t:Int} {s:List Bool} (h:PI l n t s) (b:t<(l.length:Int)) (j:0<=gx 0 l t) (o:gx 0 l t<n) (A:s.getD (gx 0 l t).toNat false=false):PI l n (t+1) (s.set (gx 0 l t).toNat true):=by
 obtain⟨c,E,w,z,x,g⟩:=h;have y:gx 0 l t∉l.take t.toNat:=fun hm=>by
  have:=(g (gx 0 l t).toNat (by omega)).2 (by rw[show(((gx 0 l t).toNat:Nat):Int)=gx 0 l t from by omega];exact hm);rw[A]at this;cases this
 refine⟨by omega,by omega,by rw[qN];exact w,fun i a=> ?_, ?_,fun k v=> ?_⟩
 . rw[SY c b,qZ,qX]at a;rcases a with a|rfl
   . exact z i a
   . exact⟨j,o⟩
 . rw[SY c b,tN];refine⟨x,by simp,fun B r D d u=> ?_⟩;rw[qX]at d;subst d u;exact y r
 . rw[SY c b,qZ,qX, <-g k v];by_cases f:(gx 0 l t).toNat=k
   . rw[f,qE,sH (by omega)];exact⟨fun _=> .inr (by omega),fun _=>rfl⟩
   . rw[qE,sV f, <-qE];exact⟨.inl,fun h=>h.resolve_right (by omega)⟩
def Lx (x:A4 N4.args) (r:awf N4.args x) (i:N4.pre x):Fa x:=by
 obtain⟨l,n,_⟩:=x;change Wf at l;change Int at n;obtain⟨g,o⟩:0<=n/\n<=16384:=i;simp only[Fa,iB];refine⟨fun h=> ?_,fun h=>⟨⟨g,qG _,by omega,by omega⟩, ?_⟩⟩
 . have h:=qA h;exact(rC fun a=>h a.1).symm
 . have h:=uT.1 (qB h);refine⟨fun p=>PI l n p.1 p.2.1,fun p=>((l.length:Int)-p.1).toNat,PI0 g, ?_⟩;rintro⟨t,s,_⟩ _ c;change Int at t;change List Bool at s;simp only at c⊢;obtain⟨j,u,k,_⟩:=id c;refine⟨fun b=> ?_,fun b=> ?_⟩
   . have b:=qA b;rw[J1,J1];refine⟨⟨j,b⟩,fun a=> ?_,fun a=> ?_,fun a=> ?_⟩
     . simp only[rH,rO]at a;omega
     . simp only[vA,rP]at a;exact(rC (A8g c b (by rcases a with(a|a) |a;exact .inl a;exact .inr (.inl a);exact .inr (.inr a)))).symm
     . simp only[rH,rO]at a;rw[wv (by omega)];exact⟨by omega,A2l c b (by omega) (by omega) a.2,by omega⟩
   . have b:=qB b;obtain⟨_,_,_,d,f,_⟩:=c;rw[H1 (by omega)]at d f;exact(rE ⟨h,d,f⟩).symm
def Mh (x:A4 N6.args) (k:awf N6.args x) (g:N6.pre x):Fc x:=by
 obtain⟨l,_⟩:=x;change Wf at l;have j:l.length<=100000:=g;simp only[Fc,iB];refine⟨⟨qF _,qG _,by omega,by omega⟩,fun p=>PI l (l.length:Int) p.1 p.2.1,fun p=>((l.length:Int)-p.1).toNat,PI0 (qF _), ?_⟩;rintro⟨t,s,_⟩ _ c;change Int at t;change List Bool at s;simp only at c⊢;obtain⟨h,n,i,_⟩:=id c;refine⟨fun b=> ?_,fun b=> ?_⟩
 . have b:=qA b;rw[J1,J1];refine⟨⟨h,b⟩,fun a=> ?_,fun a=> ?_,fun a=> ?_⟩
   . simp only[rH,rO]at a;omega
   . simp only[vA,rP]at a;exact(rC (A8g c b (by rcases a with(a|a) |a;exact .inl a;exact .inr (.inl a);exact .inr (.inr a)))).symm
   . simp only[rH,rO]at a;rw[wv (by omega)];exact⟨by omega,A2l c b (by omega) (by omega) a.2,by omega⟩
 . have b:=qB b;obtain⟨_,_,_,d,f,_⟩:=c;rw[H1 (by omega)]at d f;exact(rE ⟨rfl,d,f⟩).symm
def KF (x:A4 Dn.args) (j:awf Dn.args x) (u:Dn.pre x):Za x:=by
 obtain⟨k,l,d,_⟩:=x;obtain⟨o,i,g⟩:sz K1 k/\sz K1 l/\sz K1 d:=u;have t:=Mz j.2.1;have s:=Mz j.2.2.1;simp only[Za,iB,Fg,K7];refine⟨trivial, ?_⟩;rintro⟨r,_⟩ _ b;change Int at r;simp only at b⊢;refine⟨fun h=> ?_,fun h=>⟨⟨R5 i (by decide),R5 g (by decide)⟩, ?_⟩⟩
 . have h:=qA h;rw[b,B8b]at h;exact⟨fun _=>by trivial,fun a=>absurd h a⟩
 . have c:rv d≠0:=fun c=>qB h (by rw[b,B8b];exact c)
   rintro⟨p,_⟩ _ f;simp only at f⊢;subst f;refine⟨⟨R5 o (by decide),O1 (Ot (Gy t i (by decide)) (Gy s g (by decide))) (by decide)⟩, ?_⟩;rintro⟨q,_⟩ _ a;simp only at a⊢;refine⟨fun n=>absurd n c,fun _=> ?_⟩;rw[a,H8]
def mvE (p:Wf) (e:C8):C8:=(p.getD e.1.toNat 0,e.2)
def SU {p:Wf} (h:G1 p (p.length:Int)) {a i:Int} (b:0<=a) (f:a<(p.length:Int)) (g:0<=i) (j:i<(p.length:Int)):p.getD a.toNat 0=i↔a=((List.idxOf i p:Nat):Int):=by
 have b:a.toNat<p.length:=by omega
 constructor
 . intro g;have l:i∈p:=g▸D2 b;have j:=yM l;have k:p[List.idxOf i p]=i:=g0x j;rw[Q9 _ _ b, <-k]at g;have:=(xW h.2.2).1 g;omega
 . intro g;have l:i∈p:=by
    obtain⟨b,f,r⟩:=V3 (n:=p.length) (q:=fun b=>(p.getD b 0).toNat) (fun b f=>by have:=h.2.1 _ (D2 (d:=0) f);omega) (fun b c f s o=>by
     have t:=h.2.1 _ (D2 (d:=0) f);have u:=h.2.1 _ (D2 (d:=0) s);have o:(p.getD b 0).toNat=(p.getD c 0).toNat:=o;have e:p.getD b 0=p.getD c 0:=by omega
     rw[Q9 _ _ f,Q9 _ _ s]at e;exact(xW h.2.2).1 e) (show i.toNat<p.length by omega)
    have t:=h.2.1 _ (D2 (d:=0) f);have r:(p.getD b 0).toNat=i.toNat:=r;rw[show i=p.getD b 0 from by omega];exact D2 f
   have j:=yM l;have k:p[List.idxOf i p]=i:=g0x j;rw[g,qV,Q9 _ _ j,k]
def A2x {p:Wf} (h:G1 p (p.length:Int)):∀ {c:List C8},(∀e∈c,0<=e.1/\e.1<(p.length:Int))->∀i,A3 (c.map (mvE p)) i=if 0<=i/\i<(p.length:Int)then A3 c ((List.idxOf i p:Nat):Int)else 0
 | [],_,i=>by split<;>rfl
 |e::c,a,i=>by
  obtain⟨f,g⟩:=a e (rI ..);have b:=A2x h (fun x hx=>a x (qM _ hx)) i;rw[rV,A3,A3,b];have k:=h.2.1 _ (D2 (d:=0) (show e.1.toNat<p.length by omega));by_cases a:0<=i/\i<(p.length:Int)
  . rw[qJ a,qJ a];congr 1;show(if p.getD e.1.toNat 0=i then rv e.2 else 0)= _;by_cases b:p.getD e.1.toNat 0=i
    . rw[qJ b,qJ ((SU h f g a.1 a.2).1 b)]
    . rw[qH b,qH fun j=>b ((SU h f g a.1 a.2).2 j)]
  . rw[qH a,qH a,rG];exact qH fun b=>a (by rw[<-b];exact k)
def AE (x:A4 M7.args) (a7:awf M7.args x) (V:M7.pre x):Oa x:=by
 obtain⟨v,p,_⟩:=x;change List C8 at v;change Wf at p;have B:DX K1 v/\p.length<=100000:=V;obtain⟨B,W⟩:=B;simp only[Oa,iB,Mj,aG];refine⟨W, ?_⟩;rintro⟨r,_⟩ _ E;change Bool at r;simp only at E⊢;refine⟨fun n w=> ?_,fun n=>⟨.inl B, ?_⟩⟩
 . rw[E,rE w]at n;cases n
 have w:G1 p (p.length:Int):=by
  refine qK fun O=> ?_
  rw[E,rC O]at n;cases n
 rintro⟨c,_⟩ ⟨⟨y,_⟩,_⟩ b;change List C8 at c;simp only at b y⊢;have y:c.length<=9223372036854775807:=y;refine⟨fun q=>0<=q.1/\q.1<=(c.length:Int)/\q.2.1=(c.take q.1.toNat).map (mvE p)++c.drop q.1.toNat/\∀e∈c.take q.1.toNat,0<=e.1/\e.1<(p.length:Int),fun q=>((c.length:Int)-q.1).toNat,⟨qG _,qF _,rfl,fun e a=>(by cases a)⟩, ?_⟩;rintro⟨i,u,_⟩ _ ⟨N,Z,g,d⟩;change Int at i;change List C8 at u;simp only at N Z g d⊢;refine⟨fun k=> ?_,fun k=> ?_⟩
 . have k:=qA k;have o:i.toNat<c.length:=by omega
   have U:u.length=c.length:=by rw[g,rR,sS,qU,sQ];omega
   have J:((c.take i.toNat).map (mvE p)).length=i.toNat:=by rw[sS,qU];omega
   have H:c.drop i.toNat=c.getD i.toNat D5::c.drop (i.toNat+1):=by rw[Q9 _ _ o];exact wJ o
   have T:u.getD i.toNat D5=c.getD i.toNat D5:=by
    rw[g,H,qE,tF (by omega),J,xO];rfl
   have F:c.getD i.toNat D5∈c:=D2 o;have G:0<=i/\i<(u.length:Int):=⟨N,by rw[U];exact k⟩;rw[T];refine⟨G,fun h _ l=> ?_,fun h=> ?_⟩
   . exfalso;rw[J1]at h;simp only[vA,rP]at h;have:=l (c.getD i.toNat D5).1 (by rw[<-b.2,F9 b.1.1 F];exact(b.1.2 _ F).1);omega
   . rw[J1]at h;simp only[rH,rO]at h;have l:0<=(c.getD i.toNat D5).1/\(c.getD i.toNat D5).1<(p.length:Int):=⟨by omega,by omega⟩;rw[wv (by omega),V2 l.1 l.2];have I:c.take (i+1).toNat=c.take i.toNat++ [c.getD i.toNat D5]:=by
      rw[show(i+1).toNat=i.toNat+1 from by omega];rw[rS,qP o,Q9 _ _ o];rfl
     refine⟨l,G,⟨by omega,by omega, ?_,fun e a=> ?_⟩,by omega⟩
     . rw[I,g,H,vH,uJ,zX _ _ (by omega),J,xO,show(i+1).toNat=i.toNat+1 from by omega];rfl
     . rw[I]at a;rcases qZ.1 a with a|a
       . exact d e a
       . rw[qX]at a;subst a;exact l
 . have k:=qB k;rw[H1 (by omega)]at g d;rw[sG (by omega),vX]at g;subst g;have R:F1 c (p.length:Int):=⟨b.1.1,fun e a=>⟨(d e a).1,(d e a).2,(b.1.2 e a).1⟩⟩;refine⟨?_,fun a0 _ D X _ _=>⟨⟨⟨?_,fun e a=> ?_⟩,fun j=> ?_⟩,by trivial⟩⟩
   . have:=S3 R;have M:∀z:Nat,z=c.length->z<=100000:=fun z M=>by omega
     exact M _ (sS ..)
   . have A:(a0.map fun e:C8=>e.1).Nodup:=by
      rw[(D.map fun e:C8=>e.1).nodup_iff,List.map_map];have f:(c.map fun e:C8=>e.1).Nodup:=by
       unfold List.Nodup;rw[wD];exact b.1.1.imp fun h=>by omega
      unfold List.Nodup at f⊢;rw[wD]at f⊢;refine List.Pairwise.imp_of_mem (fun {s t} O Q P a=>P ?_) f;obtain⟨a2,a3⟩:=d s O;obtain⟨a4,a5⟩:=d t Q;have a:p.getD s.1.toNat 0=p.getD t.1.toNat 0:=a;rw[Q9 _ _ (by omega),Q9 _ _ (by omega)]at a;have:=(xW w.2.2).1 a;omega
     unfold List.Nodup at A;rw[wD]at A;refine List.Pairwise.imp₂ ?_ X A;intro s t f a6;have:s.1<=t.1:=by
      unfold O6 at f;split at f
      . omega
      . split at f<;>omega
     omega
   . obtain⟨a1,Y,rfl⟩:=sW.1 (D.mem_iff.1 a);exact b.1.2 a1 Y
   . rw[UJ D,A2x w d];simp only[b.2]
def Xg:An:= {loop:= [(8,⟨[2,6,36],[0,2],[(37,false,vI)],[],[]⟩)],plan:= [(10,[2,5,8,11],[],true,(.p 0 (.p 1 (.q 2 (.p 3 (.p 4 (.q 5 (.p 6 (.p 7 (.q 8 (.p 9 (.p 10 (.q 11 (.p 12 (.p 13 .done))))))))))))))),(11,[10,21,22],[],true,(pZ9 0 10 (.q 10 (pZ9 11 10 (.q 21 (.q 22 (.e 23 (.p 24 (.p 25 .done)))))))))]}
abbrev C0v:=(Wf×Wf×MM×Int×Int×List (List EE))×Int×Unit
def Iw:A4 R9.args->Prop:=fun(x:C0v)=>let q:=(1:Int);let j:=(0:Int);let g:Prop:=(j<=x.2.1/\x.2.1<=16384);let e:Prop:=(false=true↔Af x.1 x.2.1);g/\Mj fun r=>r.1=decide (G1 x.1.1 x.2.1)->((!r.1)=false->g)/\∀(v:Aj),((!r.1)=false->(True/\True)/\v.1=decide (G1 x.1.2.1 x.2.1))->(iB ((I5 (!r.1) true !v.1)) (e) (True/\Mj fun t=>t.1=decide (sqr x.1.2.2.1 x.2.1)->((!t.1)=false->True)/\∀(w:Aj),((!t.1)=false->(True/\True)/\w.1=decide (sqr x.1.2.2.2 x.2.1))->(iB ((I5 (!t.1) true !w.1)) (e) (True/\K7 fun r=>r.1=ri q->∃(I:D6->Prop),∃(a: _->Nat),I (j,())/\∀(p:D6),let m:=(i64.wrap (p.1+q),());let k:=(gx [] x.1.2.2.2.2.2 p.1);let h:=(gx [] x.1.2.2.1.2.2 p.1);let l:=(↑h.length:Int);let i:=(gx D5 h (i64.wrap (l-q)));let g:Prop:=((gx D5 k j).1≠p.1);let d:Prop:=((↑k.length:Int)=j);let c:Prop:=(j<=i64.wrap (l-q)/\i64.wrap (l-q)<l);let b:Prop:=(l=j);let n:=(decide b);let f:Prop:=(i.1≠p.1);let o:=(decide f);(Ty.int i64).wf p.1/\True->I p->(iB (decide (p.1<x.2.1)) ((j<=p.1/\p.1<(x.1.2.2.1.2.2.length:Int))/\(j<=p.1/\p.1<(x.1.2.2.2.2.2.length:Int))/\(decide b=false->c)/\(I5 n true o=false->c)/\(I5 n true o=false->G3 i.2/\G3 r.1)/\∀(u:D6),let s:=(decide (u.1≠j));(I5 n true o=false->(O4 u.1/\True)/\u.1=UG (rv i.2) (rv r.1))->(iB (I5 (I5 n true o) true s) (e) ((decide d=false->j<=j/\j<(↑k.length:Int))/\(iB (I5 (decide d) true (decide g)) (e) (I m/\a m<a p))))) ((true=true↔Af x.1 x.2.1)))))))
def Ms (x:A4 O2.args) (d:awf O2.args x) (_:O2.pre x):Gl x:=by
 obtain⟨m,n,_⟩:=x;change N0 at m;change Int at n;simp only[Gl,H0];refine⟨fun _=>trivial, ?_⟩;rintro⟨r,_⟩ c;change Bool at r;simp only at c⊢;by_cases a:m.1=n
 . by_cases b:m.2.1=n
   . rw[(c (by rw[rE a,rE b];rfl)).2,rE a,rE b,wQ,wQ];exact wC.2 ⟨fun h=>⟨a,b,h⟩,fun h=>h.2.2⟩
   . rw[rC b,Bool.and_false,yO];exact(rC fun h=>b h.2.1).symm
 . rw[rC a,yO,yO];exact(rC fun h=>a h.1).symm
def mO {v:List C8} (h:asc v) (g:v≠ []):gx D5 v ((v.length:Int)-1)∈v/\∀x∈v,x.1<=(gx D5 v ((v.length:Int)-1)).1:=by
 have n:0<v.length:=tO.2 g;have a:=H5 (d:=D5) (l:=v) (i:=(v.length:Int)-1) (by omega) (by omega);refine⟨G5 (by omega) (by omega),fun x j=> ?_⟩;obtain⟨k,c,rfl⟩:=wA.1 j;rw[show((v.length:Int)-1).toNat=v.length-1 from by omega]at a;have b:v[v.length-1]'(by omega)=gx D5 v ((v.length:Int)-1):=by
  rw[qP (by omega)]at a;exact yE a
 rw[<-b];by_cases f:k=v.length-1
 . subst f;exact qG _
 . exact wY (uD.1 h k (v.length-1) c (by omega) (by omega))
def A3r {v:List C8} {n:Int} (h:F1 v n) {i:Nat} (u:(i:Int)<n):(v≠ []/\(gx D5 v ((v.length:Int)-1)).1=(i:Int)/\rv (gx D5 v ((v.length:Int)-1)).2=1)↔(∀j:Nat,(j:Int)<n->i<j->A3 v (j:Int)=0)/\A3 v (i:Int)=1:=by
 constructor
 . rintro⟨c,f,a⟩;obtain⟨b,g⟩:=mO h.1 c;refine⟨fun j _ w=>D1 fun e d t=> ?_, ?_⟩
   . have:=g e d;omega
   . rw[<-f,F9 h.1 b,a]
 . rintro⟨f,a⟩;have c:v≠ []:=fun e=>by subst e;rw[Pv]at a;exact absurd a (by decide)
   obtain⟨b,g⟩:=mO h.1 c;obtain⟨x,l,z⟩:=AR (show A3 v (i:Int)≠0 from by rw[a];decide);have s:=g x l;obtain⟨o,r,k⟩:=h.2 _ b;have d:(gx D5 v ((v.length:Int)-1)).1=(i:Int):=by
    refine qK fun y=>k ?_
    have:=f (gx D5 v ((v.length:Int)-1)).1.toNat (by omega) (by omega);rw[show(((gx D5 v ((v.length:Int)-1)).1.toNat:Nat):Int)=(gx D5 v ((v.length:Int)-1)).1 from by omega,F9 h.1 b]at this;exact this
   refine⟨c,d, ?_⟩;rw[<-F9 h.1 b,d,a]
def B3k {v:List C8} {n:Int} (h:F1 v n) {i:Nat} :(v≠ []/\(gx D5 v 0).1=(i:Int))↔(∀j:Nat,j<i->A3 v (j:Int)=0)/\A3 v (i:Int)≠0:=by
 cases v with
 |nil=>exact⟨fun a=>absurd rfl a.1,fun a=>absurd (Pv _) a.2⟩
 |cons e r=>
  have g:gx D5 (e::r) 0=e:=rfl;rw[g];have c:=(h.2 e rI);constructor
  . rintro⟨_,a⟩;exact⟨fun j k=>SG h.1 (by omega),by rw[<-a,X2 h.1];exact c.2.2⟩
  . rintro⟨a,d⟩;refine⟨by simp,qK fun f=> ?_⟩;rcases g3v f with b|b
    . refine c.2.2 ?_;rw[<-X2 h.1];have:=a e.1.toNat (by omega);rwa[show((e.1.toNat:Nat):Int)=e.1 from by omega]at this
    . exact d (SG h.1 b)
def nP (L U:N0) (n:Int) (i:Nat):Prop:=(∀j:Nat,(j:Int)<n->i<j->el L i j=0)/\el L i i=1/\(∀j:Nat,j<i->el U i j=0)/\el U i i≠0
def A6f {P Q:Wf} {L U:N0} {n:Int} (d:G1 P n) (f:G1 Q n) (g:sqr L n) (k:sqr U n):Af (P,Q,L,U) n↔∀i:Nat,(i:Int)<n->nP L U n i:=by
 constructor
 . rintro⟨_,_,_,_,h⟩ i a;exact⟨fun j b c=>(h i j a b).1 c,(h i i a a).2.1,fun j b=>(h i j a (by omega)).2.2.1 b,(h i i a a).2.2.2⟩
 . intro h;exact⟨d,f,g,k,fun i j a b=>⟨fun c=>(h i a).1 j b c,(h i a).2.1,fun b=>(h i a).2.2.1 j b,(h i a).2.2.2⟩⟩
def A2w {p q:Rat} :UG p q=0↔p=q:=by
 unfold UG;by_cases a:p<q
 . rw[qJ a];exact⟨fun h=>by omega,fun h=>by subst h;exact absurd a (Rat.lt_irrefl)⟩
 . rw[qH a];by_cases b:q<p
   . rw[qJ b];exact⟨fun h=>by omega,fun h=>by subst h;exact absurd b (Rat.lt_irrefl)⟩
   . rw[qH b];exact⟨fun _=>Rat.le_antisymm (Rat.not_lt.1 b) (Rat.not_lt.1 a),fun _=>rfl⟩
def ND {p:Prop} (h:¬p):(false=true↔p):=⟨fun a=>(by cases a),fun hp=>absurd hp h⟩
def Sb (x:A4 R9.args) (ar:awf R9.args x) (a9:R9.pre x):Iw x:=by
 obtain⟨⟨P,Q,L,U⟩,n,_⟩:=x;change N0 at L;change N0 at U;change Int at n;obtain⟨M,W,a7,am⟩:0<=n/\n<=16384/\Q8 K1 L/\Q8 K1 U:=a9;simp only[Iw,iB,K7,Mj,J1];refine⟨⟨M,W⟩, ?_⟩;rintro⟨af,_⟩ _ E;change Bool at af;simp only at E⊢;refine⟨fun _=>⟨M,W⟩, ?_⟩;rintro⟨ag,_⟩ l;change Bool at ag;simp only at l⊢;by_cases y:G1 P n
 case neg=>
  rw[E,rC y];exact⟨fun _=>ND fun h=>y h.1,fun h=>by simp at h⟩
 have l:=(l (by rw[E,rE y];rfl)).2;by_cases H:G1 Q n
 case neg=>
  rw[l,rC H];exact⟨fun _=>ND fun h=>H h.2.1,fun h=>by simp at h⟩
 rw[E,l,rE y,rE H];refine⟨fun h=>by simp at h,fun _=>⟨trivial, ?_⟩⟩;rintro⟨ah,_⟩ _ F;change Bool at ah;simp only at F⊢;refine⟨fun _=>trivial, ?_⟩;rintro⟨ai,_⟩ o;change Bool at ai;simp only at o⊢;by_cases k:sqr L n
 case neg=>
  rw[F,rC k];exact⟨fun _=>ND fun h=>k h.2.2.1,fun h=>by simp at h⟩
 have o:=(o (by rw[F,rE k];rfl)).2;by_cases z:sqr U n
 case neg=>
  rw[o,rC z];exact⟨fun _=>ND fun h=>z h.2.2.2.1,fun h=>by simp at h⟩
 rw[F,o,rE k,rE z];refine⟨fun h=>by simp at h,fun _=>⟨trivial, ?_⟩⟩;rintro⟨one,_⟩ _ N;change C6 at one;simp only at N⊢;have V:=A6f y H k z;obtain⟨ad,ae,Z⟩:=k;obtain⟨aj,ak,a1⟩:=z;have ao:(L.2.2.length:Int)=n:=Z.2.2.2.2.1.trans ad;have aq:(U.2.2.length:Int)=n:=a1.2.2.2.2.1.trans aj;have X:rv one=1:=by rw[N];exact dO 1
 have aa:G3 one:=by rw[N, <-XC];exact O1 (Tz (by decide)) (by decide)
 refine⟨fun p=>0<=p.1/\p.1<=n/\∀i:Nat,(i:Int)<p.1->nP L U n i,fun p=>(n-p.1).toNat,⟨qG _,M,fun i T=>by omega⟩, ?_⟩;rintro⟨t,_⟩ _ r;change Int at t;simp only at r⊢;obtain⟨A,au,r⟩:=r;refine⟨fun u=> ?_,fun u=> ?_⟩
 . have u:=qA u;have Y:F1 (gx [] L.2.2 t) n:=by have:=Z.2.2.2.2.2 _ (G5 (d:= []) A (show t<(L.2.2.length:Int)by omega));rwa[ae]at this
   have ac:F1 (gx [] U.2.2 t) n:=by have:=a1.2.2.2.2.2 _ (G5 (d:= []) A (show t<(U.2.2.length:Int)by omega));rwa[ak]at this
   have ab:=a7 _ (G5 (d:= []) A (show t<(L.2.2.length:Int)by omega));have R:((t.toNat:Nat):Int)=t:=by omega
   have a0:=A3r Y (i:=t.toNat) (by omega);have a2:=B3k ac (i:=t.toNat);rw[R]at a0 a2;have G:nP L U n t.toNat↔((∀j:Nat,(j:Int)<n->t.toNat<j->A3 (gx [] L.2.2 t) (j:Int)=0)/\A3 (gx [] L.2.2 t) t=1)/\(∀j:Nat,j<t.toNat->A3 (gx [] U.2.2 t) (j:Int)=0)/\A3 (gx [] U.2.2 t) t≠0:=by
    unfold nP el;rw[R];exact(and_assoc (a:=∀j:Nat,(j:Int)<n->t.toNat<j->A3 (L.2.2.getD t.toNat []) (j:Int)=0)).symm
   rw[<-a0, <-a2]at G;have O:¬nP L U n t.toNat->¬Af (P,Q,L,U) n:=fun h hh=>h (V.1 hh t.toNat (by omega))
   have f:∀ {v:List C8},((v.length:Int)=0)↔v= []:=fun {v} =>⟨fun h=>qO (by omega),fun h=>by rw[h];rfl⟩
   have an:=S3 Y;have w:(gx [] L.2.2 t)≠ []->i64.wrap (((gx [] L.2.2 t).length:Int)-1)=((gx [] L.2.2 t).length:Int)-1:=fun h=>by
    have:=tO.2 h;exact wv (by omega)
   refine⟨⟨A,by omega⟩,⟨A,by omega⟩,fun h=> ?_,fun h=> ?_,fun h=> ?_, ?_⟩
   . have h:=mt f.2 (qB h);have:=tO.2 h;rw[w h];omega
   . simp only[rH]at h;have h:=mt f.2 (qB h.1);have:=tO.2 h;rw[w h];omega
   . simp only[rH]at h;have h:=mt f.2 (qB h.1);have ap:=tO.2 h;rw[w h];exact⟨R5 (ab _ (G5 (by omega) (by omega))) (by decide),aa⟩
   rintro⟨c,_⟩ b;change Int at c;simp only at b⊢;refine⟨fun h=>ND (O fun s=> ?_),fun h=>⟨fun g=>⟨qG _, ?_⟩,fun g=>ND (O fun s=> ?_),fun g=> ?_⟩⟩
   . obtain⟨⟨D,J,a6⟩,_⟩:=G.1 s;rw[w D]at b h;have B:decide (((gx [] L.2.2 t).length:Int)=0)=false:=rC (mt f.1 D);have I:decide ((gx D5 (gx [] L.2.2 t) (((gx [] L.2.2 t).length:Int)-1)).1≠t)=false:=rC (by rw[uT];exact J);rw[B,I]at b h;have b:=(b rfl).2;rw[X,a6]at b;rw[b,A2w.2 rfl]at h;simp at h
   . have:=mt f.2 (qB g);have:=tO.2 this;omega
   . obtain⟨_,D,J⟩:=G.1 s;rw[rC (mt f.1 D),rC (by rw[uT];exact J)]at g;simp at g
   . simp only[rH]at h g;have B:=mt f.2 (qB h.1.1);rw[w B]at b h;have I:=uT.1 (qB h.1.2);have a3:=uT.1 (qB h.2);have b:=(b (by rw[h.1.1,h.1.2];rfl)).2;rw[a3,X]at b;have a4:=mt f.2 (qB g.1);have a5:=uT.1 (qB g.2);have s:=G.2 ⟨⟨B,I,A2w.1 b.symm⟩,a4,a5⟩;rw[wv (by omega)];refine⟨⟨by omega,by omega,fun i T=> ?_⟩,by omega⟩;by_cases a8:i=t.toNat
     . subst a8;exact s
     . exact r i (by omega)
 . have u:=qB u;exact⟨fun _=>V.2 fun i T=>r i (by omega),fun _=>trivial⟩
noncomputable def CV:G4:= [(97,Be)]
def BV:An:= {loop:= [(3,⟨[1,3,24],[0,1,2,3,4,5,6,7,8,9,10,13],[(25,false,vI)],[],[(11, .nest (.mp false (.int .i64) false .bool) 134 4),(12, .row (.int .i64) 3)]⟩),(13,⟨[3,5,44,45,46,59,60],[0,1,2,3,4,5,6,7,9,10,12,13],[(61,false,vI)],[],[(11, .nest (.mp false (.int .i64) false .bool) 134 4)]⟩),(9,⟨[3,44,45],[0,1,2,3,4,5,6,7,10,12,13],[(46,false,vI)],[],[(9, .row (.sl tE) 67),(11, .nest (.mp false (.int .i64) false .bool) 134 4)]⟩)],plan:= [(1,[1,4,7,10],[],true,(.p 0 (.q 1 (.p 3 (.q 4 (.p 6 (.q 7 (.p 9 (.q 10 (.al [2,5,8,11] [12] (.e 13 (.p 14 .done)))))))))))),(11,[3],[8],true,(pZ9 0 3 (.q 3 (.p 4 (.p 5 (.e 6 (.p 7 (.e 8 .done)))))))),(15,[3,5],[9],false,(pZ9 0 3 (.q 3 (.p 4 (.q 5 (.p 6 (.p 8 (.e 7 (.e 9 .done)))))))))]}
noncomputable def Uc:G4:= []
def Sn:An:= {plan:= [(1,[0,3,4,7,10],[],false,(.q 0 (.p 1 (.p 2 (.q 3 (.q 4 (.p 5 (.p 6 (.q 7 (.p 8 (.p 9 (.q 10 (.p 11 (.e 12 (.e 13 (.p 14 .done))))))))))))))))]}
noncomputable def Ud:G4:= []
def So:An:= {plan:= [(1,[0,3,4,7,10],[],false,(.q 0 (.p 1 (.p 2 (.q 3 (.q 4 (.p 5 (.p 6 (.q 7 (.p 8 (.p 9 (.q 10 (.p 11 (.e 12 (.e 13 (.p 14 .done))))))))))))))))]}
noncomputable def Ue:G4:= []
def Sp:An:= {plan:= [(1,[0,3,4,7,10],[],false,(.q 0 (.p 1 (.p 2 (.q 3 (.q 4 (.p 5 (.p 6 (.q 7 (.p 8 (.p 9 (.q 10 (.p 11 (.e 12 (.e 13 (.p 14 .done))))))))))))))))]}
noncomputable def Uf:G4:= []
def Sq:An:= {plan:= [(1,[0,3,4,7,10],[],false,(.q 0 (.p 1 (.p 2 (.q 3 (.q 4 (.p 5 (.p 6 (.q 7 (.p 8 (.p 9 (.q 10 (.p 11 (.e 12 (.e 13 (.p 14 .done))))))))))))))))]}
noncomputable def CW:G4:= [(98,V4 (Jf ⟨prog,RX⟩ [(20,Uc,Sn),(23,Ud,So),(28,Ue,Sp),(33,Uf,Sq)] f98.results.toList (f98.body.getD .skip) f98.ntmps))]
def BY:An:= {join:= [(8,⟨[1,6,14,15],[1,2,3,4,5,6,7,9,10,13,14,15],[(5,false,vI)],[],[(11, .nest (.mp false (.int .i64) false .bool) 134 4)]⟩),(10,⟨[1,6],[1,2,3,4,5,6,7,9,10,13,14,15],[(5,false,vI)],[],[(11, .nest (.mp false (.int .i64) false .bool) 134 4)]⟩),(14,⟨[1,3],[1,2,3,4,5,6,7,15],[],[(13,100,[.fix 9, .fix 10, .fix 11, .own (.int .i64) 3])],[(9, .row (.sl tE) 67),(10, .nest (.sl tE) 67 70),(11, .nest (.mp false (.int .i64) false .bool) 134 4)]⟩),(20,⟨[3],[1,2,3,4,5,6,7,9,10,13,17],[(2,false,vI)],[],[(11, .nest (.mp false (.int .i64) false .bool) 134 4)]⟩)],loop:= [(4,⟨[1,6,14],[1,2,3,4,5,6,7,9,10,13,14,15],[(5,false,vI),(15,false,vI)],[],[(11, .nest (.mp false (.int .i64) false .bool) 134 4)]⟩),(16,⟨[1,3,66],[1,2,3,4,5,6,7,9,10,11,13,15,17],[(2,false,vI)],[],[(19, .itM false (.int .i64) false .bool 18)]⟩)],plan:= [(13,[1,4,7,10],[14,17],false,(.q 1 (.p 2 (.p 3 (.q 4 (.p 5 (.p 6 (.q 7 (.p 8 (.p 9 (.q 10 (pZ9 11 3 (.or 0 (.e 14 (.p 15 (.p 16 (.e 17 .done)))) (.e 14 (.e 0 (.p 15 (.p 16 (.e 17 .done)))))))))))))))))),(18,[3,6,9,11,14,17,22,25,28,30,33,36],[],true,(pZ9 0 3 (.q 3 (.p 4 (.p 5 (.q 6 (.p 7 (.p 8 (.q 9 (.p 10 (.q 11 (.p 12 (.p 13 (.q 14 (.p 15 (.p 16 (.q 17 (pZ9 18 4 (.q 22 (.p 23 (.p 24 (.q 25 (.p 26 (.p 27 (.q 28 (.p 29 (.q 30 (.p 31 (.p 32 (.q 33 (.p 34 (.p 35 (.q 36 (pZ9 37 8 .done))))))))))))))))))))))))))))))))))]}
noncomputable def Ug:G4:= []
def Sr:An:= {loop:= [(1,⟨[0,2,6,7],[1,2,3,4,5,6,7,9,10,13,15,16,17],[(8,false,vI)],[],[(11, .nest (.mp false (.int .i64) false .bool) 134 4)]⟩)],plan:= [(3,[0,3,5],[9],false,(.q 0 (.p 1 (.p 2 (.q 3 (.p 4 (.q 5 (.p 6 (.p 8 (.e 7 (.e 9 .done)))))))))))]}
noncomputable def Rs:G4:= []
def Po:An:= {loop:= [(1,⟨[0,2,6,7],[1,2,3,4,5,6,7,9,10,13,15,16,17,18,19],[(8,false,vI)],[],[(11, .nest (.mp false (.int .i64) false .bool) 134 4)]⟩)],plan:= [(3,[0,3,5],[9],false,(.q 0 (.p 1 (.p 2 (.q 3 (.p 4 (.q 5 (.p 6 (.p 8 (.e 7 (.e 9 .done)))))))))))]}
noncomputable def CX:G4:= [(36,Y6),(38,Q5),(96,L5),(100,Y5),(101,Cy),(99,V4 (Jf ⟨prog,RX⟩ [(29,Ug,Sr),(107,Rs,Po)] f99.results.toList (f99.body.getD .skip) f99.ntmps))]
def BZ:An:= {join:= [(10,⟨[1,3,4,8,9,10],[1,2,3,4,5,6,7,9,10,13,15,16,17,18],[(12,false,[.own (.int .i64) 3])],[],[(11, .nest (.mp false (.int .i64) false .bool) 134 4)]⟩),(14,⟨[1,3,4,8,9,10,15,53,54,55],[1,2,3,4,5,6,7,9,10,11,13,15,16,17,18,19],[(16,false,[.fixB 20])],[(20,31,[.val .bool, .val (.sl (.int .u32)), .val (.sl (.int .u32))])],[]⟩),(15,⟨[1,3,4,8,9,10,15,16,53,54,55],[1,2,3,4,5,6,7,9,11,13,15,16,17,18,19,20],[],[],[(10, .nest (.sl tE) 67 70)]⟩)],loop:= [(7,⟨[1,3,4,8,9,10,44],[1,2,3,4,5,6,7,9,10,11,13,15,16,17,18],[(12,false,[.own (.int .i64) 3])],[],[(20, .itM false (.int .i64) false .bool 19)]⟩),(18,⟨[1,3,4,8,9,10,15,53,54,55,114,115],[1,2,3,4,5,6,7,9,10,13,15,16,17,18,19],[(116,false,vI)],[],[(11, .nest (.mp false (.int .i64) false .bool) 134 4)]⟩),(11,⟨[1,3,4,8,9,10,53,54],[1,2,3,4,5,6,7,13,15,16,17,18,19],[(55,false,vI)],[],[(9, .row (.sl tE) 67),(10, .nest (.sl tE) 67 70),(11, .nest (.mp false (.int .i64) false .bool) 134 4)]⟩)],plan:= [(13,[0,3,6,9],[12],true,(.q 0 (.p 1 (.p 2 (.q 3 (.p 4 (.p 5 (.q 6 (.p 7 (.q 9 (.or 8 (.or 10 (.e 11 (.e 12 .done)) (.e 11 (.e 10 (.e 12 .done)))) (.e 11 (.e 8 (.e 10 (.e 12 .done))))))))))))))),(14,[5,8,13],[16,18],false,(.p 4 (.q 5 (.p 6 (.p 7 (.q 8 (.p 9 (.p 10 (.p 12 (.q 13 (.p 14 (.or 0 (.p 1 (.p 2 (.or 3 (.or 11 (.e 15 (.e 16 (.p 17 (.e 18 .done)))) (.e 15 (.e 11 (.e 16 (.p 17 (.e 18 .done)))))) (.or 11 (.or 3 (.e 15 (.e 16 (.p 17 (.e 18 .done)))) (.e 15 (.or 3 (.e 16 (.p 17 (.e 18 .done))) (.e 16 (.e 3 (.p 17 (.e 18 .done))))))) (.e 15 (.or 3 (.e 11 (.e 16 (.p 17 (.e 18 .done)))) (.e 11 (.or 3 (.e 16 (.p 17 (.e 18 .done))) (.e 16 (.e 3 (.p 17 (.e 18 .done)))))))))))) (.or 11 (.or 0 (.p 1 (.p 2 (.or 3 (.e 15 (.e 16 (.p 17 (.e 18 .done)))) (.e 15 (.or 3 (.e 16 (.p 17 (.e 18 .done))) (.e 16 (.e 3 (.p 17 (.e 18 .done))))))))) (.e 15 (.or 0 (.p 1 (.p 2 (.or 3 (.e 16 (.p 17 (.e 18 .done))) (.e 16 (.e 3 (.p 17 (.e 18 .done))))))) (.e 16 (.e 0 (.p 1 (.p 2 (.e 3 (.p 17 (.e 18 .done)))))))))) (.e 15 (.or 0 (.p 1 (.p 2 (.or 3 (.e 11 (.e 16 (.p 17 (.e 18 .done)))) (.e 11 (.or 3 (.e 16 (.p 17 (.e 18 .done))) (.e 16 (.e 3 (.p 17 (.e 18 .done))))))))) (.e 11 (.or 0 (.p 1 (.p 2 (.or 3 (.e 16 (.p 17 (.e 18 .done))) (.e 16 (.e 3 (.p 17 (.e 18 .done))))))) (.e 16 (.e 0 (.p 1 (.p 2 (.e 3 (.p 17 (.e 18 .done)))))))))))))))))))))))),(15,[0,3,5,8,11,12,14],[17],true,(.q 0 (.p 1 (.p 2 (.q 3 (.p 4 (.q 5 (.p 6 (.p 7 (.q 8 (.p 9 (.p 10 (.q 11 (.q 12 (.q 14 (.e 13 (.e 15 (.p 16 (.e 17 .done))))))))))))))))))),(20,[0,3,5],[9],false,(.q 0 (.p 1 (.p 2 (.q 3 (.p 4 (.q 5 (.p 6 (.p 8 (.e 7 (.e 9 .done)))))))))))]}
def Pn:An:= {join:= [(13,⟨[2,5,6,7,8,45,46],[1,2,3,4,5,6,7],[(9,false,vI),(10,false,vI),(11,false,[.val .bool])],[(13,100,[.fix 9, .fix 10, .fix 11, .own (.int .i64) 3])],[(9, .row (.sl tE) 67),(10, .nest (.sl tE) 67 70),(11, .nest (.mp false (.int .i64) false .bool) 134 4)]⟩),(16,⟨[2,5,6,7,8,9,10,45,46],[1,4,5,6,9,10,11,13,15],[],[],[(2, .row (.int .i64) 3),(3, .row (.int .i64) 3),(7, .row (.int .i64) 3)]⟩),(22,⟨[2,5,6,7,12,13,79,80,81],[1,2,3,5,6,9,11,13,14],[],[],[(4, .row (.sl tE) 67),(10, .nest (.sl tE) 67 70)]⟩)],loop:= [(10,⟨[2,5,6,7,45],[1,4,5,6],[(46,false,vI)],[(13,100,[.fix 9, .fix 10, .fix 11, .own (.int .i64) 3])],[(2, .row (.int .i64) 3),(3, .row (.int .i64) 3),(7, .row (.int .i64) 3),(9, .row (.sl tE) 67),(10, .nest (.sl tE) 67 70),(11, .nest (.mp false (.int .i64) false .bool) 134 4)]⟩),(19,⟨[2,5,7,79,80],[1,2,3,6,9,11,13,14],[(6,false,[.val (.sl (.int .i64))]),(81,false,vI)],[],[(4, .row (.sl tE) 67),(5, .row (.sl tE) 67),(10, .nest (.sl tE) 67 70)]⟩)],plan:= [(6,[],[16],true,(.p 0 (.p 2 (pZ9 4 3 (pZ9 9 3 (.al [1,3,7,12,15] [8,13,14] (.e 16 .done))))))),(15,[1],[12,14,16],false,(.p 0 (.q 1 (.p 2 (.p 3 (pZ9 5 7 (.or 4 (.e 12 (.p 13 (.e 14 (.p 15 (.e 16 .done))))) (.e 12 (.e 4 (.p 13 (.e 14 (.p 15 (.e 16 .done))))))))))))),(21,[7],[15,17],false,(.p 0 (.p 1 (pZ9 3 4 (.q 7 (.p 8 (.p 9 (.p 11 (.or 2 (.or 10 (.e 12 (.p 13 (.e 14 (.e 15 (.p 16 (.e 17 .done)))))) (.e 12 (.p 13 (.or 10 (.e 14 (.e 15 (.p 16 (.e 17 .done)))) (.e 14 (.e 10 (.e 15 (.p 16 (.e 17 .done))))))))) (.or 10 (.or 2 (.e 12 (.p 13 (.e 14 (.e 15 (.p 16 (.e 17 .done)))))) (.e 12 (.p 13 (.or 2 (.e 14 (.e 15 (.p 16 (.e 17 .done)))) (.e 14 (.or 2 (.e 15 (.p 16 (.e 17 .done))) (.e 15 (.e 2 (.p 16 (.e 17 .done)))))))))) (.e 12 (.p 13 (.or 2 (.or 10 (.e 14 (.e 15 (.p 16 (.e 17 .done)))) (.e 14 (.e 10 (.e 15 (.p 16 (.e 17 .done)))))) (.or 10 (.or 2 (.e 14 (.e 15 (.p 16 (.e 17 .done)))) (.e 14 (.or 2 (.e 15 (.p 16 (.e 17 .done))) (.e 15 (.e 2 (.p 16 (.e 17 .done))))))) (.e 14 (.or 2 (.e 10 (.e 15 (.p 16 (.e 17 .done)))) (.e 10 (.or 2 (.e 15 (.p 16 (.e 17 .done))) (.e 15 (.e 2 (.p 16 (.e 17 .done)))))))))))))))))))))),(22,[2,7,10],[17],true,(.p 0 (.p 1 (.q 2 (pZ9 3 4 (.q 7 (.p 8 (.p 9 (.q 10 (.p 11 (.e 12 (pZ9 13 4 (.e 17 .done)))))))))))))]}
noncomputable def Rr:G4:= [(35,L3),(52,K4),(60,M7),(57,V4 (Jf ⟨prog,RX⟩ [(44,CV,BV)] f57.results.toList (f57.body.getD .skip) f57.ntmps)),(58,V4 (Jf ⟨prog,RX⟩ [(51,CW,BY)] f58.results.toList (f58.body.getD .skip) f58.ntmps)),(59,V4 (Jf ⟨prog,RX⟩ [(76,CX,BZ)] f59.results.toList (f59.body.getD .skip) f59.ntmps))]
abbrev C2u:=(List (List EE)×List Nat)×Unit
abbrev C3b:=Int×(List (Int×Bool)×List (Int×Bool))×Unit
abbrev C3c:=Int×(List (List (Int×Bool))×List Nat)×Wf×Unit
abbrev KC:=Int×(List (List (Int×Bool))×List Nat)×Unit
abbrev C3d:=Int×Int×(List (List (Int×Bool))×List Nat)×Unit
abbrev C3e:=Int×Int×Bool×Wf×List (List EE)×(List (List EE)×List Nat)×(List (List (Int×Bool))×List Nat)×Unit
abbrev C3j:=Int×List (List EE)×(List (List (Int×Bool))×List Nat)×Unit
abbrev C3k:=Int×List (List EE)×(List (List EE)×List Nat)×(List (List (Int×Bool))×List Nat)×Unit
abbrev C3l:=Int×Wf×Wf×Wf×Wf×List (List EE)×(List (List EE)×List Nat)×(List (List (Int×Bool))×List Nat)×Unit
abbrev C3n:=List (List EE)×(List (List EE)×List Nat)×Unit
abbrev C0z:=List EE×Bool×Unit
abbrev C3s:=Wf×(List (Int×Bool)×List (Int×Bool))×Unit
abbrev C3t:=Wf×(List (List (Int×Bool))×List Nat)×Unit
abbrev C4a:=Wf×Int×List (List EE)×List (List EE)×(List (List EE)×List Nat)×Unit
abbrev C4e:=Wf×List (List EE)×(List (List EE)×List Nat)×(List (List (Int×Bool))×List Nat)×Unit
abbrev C4f:=Wf×Wf×Wf×Unit
def Hv:A4 R3.args->Prop:=fun(x:U5)=>let b9:=(281474976710656:Int);let bd:=x.1.2.1.toNat;let ac:=(6:Int);let ab:=(4:Int);let b5:=(9223372036854775807:Int);let aj:=(140737488355328:Nat);let ad:=x.1.1.toNat;let g:=(1:Int);let U:=(0:Int);let bw:Prop:=(U<=x.1.2.1/\x.1.2.1<=x.1.2.1/\(↑(8:Nat):Int)*x.1.2.1<=b9/\x.1.2.1<=b5);let ai:Prop:=(∀(v:List EE),v∈ []->O9 v);let o:(Nat)->(Nat)->Prop:=(fun i j=>i<x.1.1.toNat->j<x.1.1.toNat->luM ([],[],(U,U,[]),U,U,[]) x.1.1.toNat i j=el x.1 (ix [] i) (ix [] j));let m:Prop:=(U<=x.1.1/\x.1.1<=x.1.1/\(↑(8:Nat):Int)*x.1.1<=b9/\x.1.1<=b5);let bc:Prop:=(∀(T:Nat),(1:Nat)<=T->Di x.1.1.toNat x.1.1.toNat (el x.1) T->∀(i j:Nat),i<x.1.1.toNat->qs (T+T) (el (U,U,[]) i j)/\qs (T+T) (el (U,U,[]) i j));let e:Prop:=(U<=x.1.1/\x.1.1<=x.1.1/\(↑(24:Nat):Int)*x.1.1<=b9/\x.1.1<=b5);True/\∀(r:Aj),True/\True->r.1=decide (A7 x.1)->((!r.1)=true->(¬A7 x.1->([],[],(U,U,[]),U,U,[])=bC/\g=g)/\(A7 x.1->(x.1.1≠x.1.2.1->([],[],(U,U,[]),U,U,[])=bC/\g=ab)/\(x.1.1=x.1.2.1->(¬nonsing x.1.1.toNat (el x.1)->([],[],(U,U,[]),U,U,[])=bC/\g=ac)/\(nonsing x.1.1.toNat (el x.1)->Af ([],[],(U,U,[]),U,U,[]) x.1.1/\g=U/\ai/\ai/\bc/\∀(i j:Nat),o i j))))/\((!r.1)=false->(decide (x.1.1≠x.1.2.1)=true->(¬A7 x.1->([],[],(U,U,[]),U,U,[])=bC/\ab=g)/\(A7 x.1->(x.1.1≠x.1.2.1->([],[],(U,U,[]),U,U,[])=bC/\ab=ab)/\(x.1.1=x.1.2.1->(¬nonsing x.1.1.toNat (el x.1)->([],[],(U,U,[]),U,U,[])=bC/\ab=ac)/\(nonsing x.1.1.toNat (el x.1)->Af ([],[],(U,U,[]),U,U,[]) x.1.1/\ab=U/\ai/\ai/\bc/\∀(i j:Nat),o i j))))/\(decide (x.1.1≠x.1.2.1)=false->m/\m/\e/\e/\m/\e/\e/\bw/\bw/\∃(I:C3c->Prop),∃(u: _->Nat),I (U,(List.replicate bd [],Ko (Ty.mp false (Ty.int i64) false Ty.bool) bd),List.replicate bd U,())/\∀(p:C3c),let ah:=p.1.toNat;(Ty.int i64).wf p.1/\p.2.1.1.length.le 9223372036854775807/\PW p.2.2.1/\True->I p->(decide (p.1<x.1.2.1)=true->(U<=p.1/\p.1<(↑p.2.1.1.length:Int))/\(U<=p.1/\p.1<(p.2.2.1.length:Int))/\I (i64.wrap (p.1+g),(p.2.1.1.set ah [],NW ah p.2.1.2),List.set p.2.2.1 ah p.1,())/\u (i64.wrap (p.1+g),(p.2.1.1.set ah [],NW ah p.2.1.2),List.set p.2.2.1 ah p.1,())<u p)/\(decide (p.1<x.1.2.1)=false->∃(I:C3j->Prop),∃(u: _->Nat),I (U,List.replicate ad [],p.2.1,())/\∀(w:C3j),let aw:=(gx [] x.1.2.2 w.1);let K:Prop:=(w.1<(x.1.2.2.length:Int));(Ty.int i64).wf w.1/\ET w.2.1/\w.2.2.1.1.length.le 9223372036854775807/\True->I w->(decide K=true->(U<=w.1/\K)/\Jg aw/\∀(r:Gj),Mk r.1/\True->HP (A3 aw) r.1->(U<=w.1/\w.1<(w.2.1.length:Int))/\∃(I_1:KC->Prop),∃(an: _->Nat),I_1 (U,w.2.2.1,())/\∀(p:KC),let bm:=(i64.wrap (w.1+g),List.set w.2.1 w.1.toNat r.1,p.2.1,());let ar:=(gx D5 aw p.1);let ap:=ar.1.toNat;let G:Prop:=(p.1<(↑aw.length:Int));(Ty.int i64).wf p.1/\p.2.1.1.length.le 9223372036854775807/\True->I_1 p->(decide G=true->(U<=p.1/\G)/\(U<=ar.1/\ar.1<(↑p.2.1.1.length:Int))/\¬Int.toNat ar.1∈p.2.1.2/\I_1 (i64.wrap (p.1+g),(p.2.1.1.set ap (Df (Ty.int i64) w.1 true (p.2.1.1.getD ap [])),p.2.1.2),())/\an (i64.wrap (p.1+g),(p.2.1.1.set ap (Df (Ty.int i64) w.1 true (p.2.1.1.getD ap [])),p.2.1.2),())<an p)/\(decide G=false->I bm/\u bm<u w))/\(decide K=false->∃(I:C3l->Prop),∃(u: _->Nat),I (U,p.2.2.1,List.replicate ad U,List.replicate ad U,List.replicate ad U,w.2.1,(List.replicate ad [],Ko tE.sl ad),w.2.2.1,())/\∀(b:C3l),let bp:=(b.2.2.1.length:Int);let a5:=(↑b.2.1.length:Int);(Ty.int i64).wf b.1/\(Ty.int i64).sl.wf b.2.1/\PW b.2.2.1/\PW b.2.2.2.1/\PW b.2.2.2.2.1/\ET b.2.2.2.2.2.1/\b.2.2.2.2.2.2.1.1.length.le 9223372036854775807/\b.2.2.2.2.2.2.2.1.1.length.le 9223372036854775807/\True->I b->(decide (b.1<x.1.1)=true->∃(J:C3e->Prop),(∃(J_1:KC->Prop),(∃(I:C3d->Prop),∃(u: _->Nat),I (U,U,b.2.2.2.2.2.2.2.1,())/\∀(a:C3d),let bs:=(↑a.2.2.1.1.length:Int);let a9:=a.1.toNat;let a1:=a.2.1.toNat;let M:Prop:=(a.2.1<a5);let k:Prop:=((↑(a.2.2.1.1.getD (b.2.1.getD a1 U).toNat []).length:Int)<(↑((a.2.2.1.1.set (b.2.1.getD a1 U).toNat (a.2.2.1.1.getD (b.2.1.getD a1 U).toNat [])).getD (b.2.1.getD a9 U).toNat []).length:Int));(Ty.int i64).wf a.1/\(Ty.int i64).wf a.2.1/\a.2.2.1.1.length.le 9223372036854775807/\True->I a->(decide M=true->∃(J:KC->Prop),((U<=a.2.1/\M)/\(U<=b.2.1.getD a1 U/\b.2.1.getD a1 U<bs)/\¬(b.2.1.getD a1 U).toNat∈a.2.2.1.2/\(a.2.2.1.1.getD (b.2.1.getD a1 U).toNat []).length<=9223372036854775807/\(U<=a.1/\a.1<a5)/\(U<=b.2.1.getD a9 U/\b.2.1.getD a9 U<bs)/\¬(b.2.1.getD a9 U).toNat∈a.2.2.1.2/\((a.2.2.1.1.set (b.2.1.getD a1 U).toNat (a.2.2.1.1.getD (b.2.1.getD a1 U).toNat [])).getD (b.2.1.getD a9 U).toNat []).length<=9223372036854775807/\(decide k=true->J (a.2.1,((a.2.2.1.1.set (b.2.1.getD a1 U).toNat (a.2.2.1.1.getD (b.2.1.getD a1 U).toNat [])).set (b.2.1.getD a9 U).toNat ((a.2.2.1.1.set (b.2.1.getD a1 U).toNat (a.2.2.1.1.getD (b.2.1.getD a1 U).toNat [])).getD (b.2.1.getD a9 U).toNat []),a.2.2.1.2),()))/\(decide k=false->J (a.1,((a.2.2.1.1.set (b.2.1.getD a1 U).toNat (a.2.2.1.1.getD (b.2.1.getD a1 U).toNat [])).set (b.2.1.getD a9 U).toNat ((a.2.2.1.1.set (b.2.1.getD a1 U).toNat (a.2.2.1.1.getD (b.2.1.getD a1 U).toNat [])).getD (b.2.1.getD a9 U).toNat []),a.2.2.1.2),())))/\∀(d:KC),let a6:=d.1.toNat;let E:Prop:=((↑(d.2.1.1.getD (b.2.1.getD a6 U).toNat []).length:Int)<=g);(Ty.int i64).wf d.1/\d.2.1.1.length.le 9223372036854775807/\True->J d->(U<=d.1/\d.1<a5)/\(U<=b.2.1.getD a6 U/\b.2.1.getD a6 U<(↑d.2.1.1.length:Int))/\¬(b.2.1.getD a6 U).toNat∈d.2.1.2/\(d.2.1.1.getD (b.2.1.getD a6 U).toNat []).length<=9223372036854775807/\(decide E=true->J_1 (d.1,(d.2.1.1.set (b.2.1.getD a6 U).toNat (d.2.1.1.getD (b.2.1.getD a6 U).toNat []),d.2.1.2),()))/\(decide E=false->I (d.1,i64.wrap (a.2.1+g),(d.2.1.1.set (b.2.1.getD a6 U).toNat (d.2.1.1.getD (b.2.1.getD a6 U).toNat []),d.2.1.2),())/\u (d.1,i64.wrap (a.2.1+g),(d.2.1.1.set (b.2.1.getD a6 U).toNat (d.2.1.1.getD (b.2.1.getD a6 U).toNat []),d.2.1.2),())<u a))/\(decide M=false->J_1 (a.1,a.2.2.1,())))/\∀(a:KC),let b3:=(i64.wrap (a.1+g));let y:=a.1.toNat;let R:Prop:=(U<=a.1/\a.1<a5);let F:Prop:=((↑(a.2.1.1.getD (b.2.1.getD y U).toNat []).length:Int)=U);(Ty.int i64).wf a.1/\a.2.1.1.length.le 9223372036854775807/\True->J_1 a->R/\(U<=b.2.1.getD y U/\b.2.1.getD y U<(↑a.2.1.1.length:Int))/\¬(b.2.1.getD y U).toNat∈a.2.1.2/\(a.2.1.1.getD (b.2.1.getD y U).toNat []).length<=9223372036854775807/\(decide F=true->J (U,U,false,b.2.1,b.2.2.2.2.2.1,b.2.2.2.2.2.2.1,(a.2.1.1.set (b.2.1.getD y U).toNat (a.2.1.1.getD (b.2.1.getD y U).toNat []),a.2.1.2),()))/\(decide F=false->R/\∃(J_2:C4e->Prop),let c:Prop:=(((Int.toNat a.1+(List.drop b3.toNat (List.take a5.toNat b.2.1)).length)*(8:Nat)<=aj/\Int.toNat a.1+(List.drop b3.toNat (List.take a5.toNat b.2.1)).length<=9223372036854775807)/\J_2 (List.take y b.2.1++List.drop b3.toNat (List.take a5.toNat b.2.1),b.2.2.2.2.2.1,b.2.2.2.2.2.2.1,(a.2.1.1.set (b.2.1.getD y U).toNat (a.2.1.1.getD (b.2.1.getD y U).toNat []),a.2.1.2),()));((U<=U/\U<=a.1/\a.1<=a5)/\(U<=i64.wrap (a.1+g)/\i64.wrap (a.1+g)<=a5/\a5<=a5)/\c/\c)/\∀(d:C4e),let bt:=(d.2.1.length:Int);(Ty.int i64).sl.wf d.1/\ET d.2.1/\d.2.2.1.1.length.le 9223372036854775807/\d.2.2.2.1.1.length.le 9223372036854775807/\True->J_2 d->∃(J_3:KC->Prop),((U<=b.2.1.getD y U/\b.2.1.getD y U<(↑d.2.2.2.1.1.length:Int))/\¬(b.2.1.getD y U).toNat∈d.2.2.2.1.2/\∃(I:C3b->Prop),∃(u: _->Nat),I ((-1:Int),(d.2.2.2.1.1.getD (b.2.1.getD y U).toNat [],d.2.2.2.1.1.getD (b.2.1.getD y U).toNat []),())/\∀(f:C3b),let ao:=(decide (f.1<U));let bh:=(↑(List.getD d.2.1 f.1.toNat []).length:Int);let O:Prop:=(U<=f.1/\f.1<bt);(Ty.int i64).wf f.1/\(∀(x:Int×Bool),x∈f.2.1.2->O4 x.1/\True)/\True->I f->(f.2.1.2= []->(false=true->False)/\(false=false->J_3 (f.1,(d.2.2.2.1.1.set (b.2.1.getD y U).toNat f.2.1.1,d.2.2.2.1.2),())))/\∀(ak:List (Int×Bool)) (a4:Int×Bool) (am:List (Int×Bool)),let bi:=(↑(List.getD d.2.1 a4.1.toNat []).length:Int);let ax:=(f.2.1.1,ak++am);let Q:Prop:=(U<=a4.1/\a4.1<bt);let D:Prop:=(bi=bh);let bn:=(I5 (decide D) (decide (a4.1<f.1)) false);let bz:Prop:=(bi<bh);let b1:=(decide bz);f.2.1.2=ak++a4::am->(true=true->(decide (f.1<U)=false->Q)/\(decide (f.1<U)=false->O)/\(I5 ao true b1=false->Q)/\(I5 ao true b1=false->O)/\(I5 (I5 ao true b1) true bn=true->I (a4.1,ax,())/\u (a4.1,ax,())<u f)/\(I5 (I5 ao true b1) true bn=false->I (f.1,ax,())/\u (f.1,ax,())<u f))/\(true=false->J_3 (f.1,(d.2.2.2.1.1,(b.2.1.getD y U).toNat::d.2.2.2.1.2),())))/\∀(p:KC),(Ty.int i64).wf p.1/\p.2.1.1.length.le 9223372036854775807/\True->J_3 p->J (p.1,b.2.1.getD y U,true,d.1,d.2.1,d.2.2.1,p.2.1,())))/\∀(a:C3e),let ay:=a.2.1.toNat;let V:=(List.getD a.2.2.2.2.1 a.1.toNat []);(Ty.int i64).wf a.1/\(Ty.int i64).wf a.2.1/\Ty.bool.wf a.2.2.1/\(Ty.int i64).sl.wf a.2.2.2.1/\ET a.2.2.2.2.1/\a.2.2.2.2.2.1.1.length.le 9223372036854775807/\a.2.2.2.2.2.2.1.1.length.le 9223372036854775807/\True->J a->((!a.2.2.1)=true->(¬A7 x.1->([],[],(U,U,[]),U,U,[])=bC/\ac=g)/\(A7 x.1->(x.1.1≠x.1.2.1->([],[],(U,U,[]),U,U,[])=bC/\ac=ab)/\(x.1.1=x.1.2.1->(¬nonsing x.1.1.toNat (el x.1)->([],[],(U,U,[]),U,U,[])=bC/\ac=ac)/\(nonsing x.1.1.toNat (el x.1)->Af ([],[],(U,U,[]),U,U,[]) x.1.1/\ac=U/\ai/\ai/\bc/\∀(i j:Nat),o i j))))/\((!a.2.2.1)=false->∃(J:C4f->Prop),let bv:Prop:=((U<=b.1/\b.1<(b.2.2.2.1.length:Int))/\(U<=a.2.1/\a.2.1<(b.2.2.2.2.1.length:Int))/\J (List.set b.2.2.1 b.1.toNat a.1,List.set b.2.2.2.1 b.1.toNat a.2.1,List.set b.2.2.2.2.1 ay b.1,()));((U<=b.1/\b.1<bp)/\bv/\bv)/\∀(d:C4f),PW d.1/\PW d.2.1/\PW d.2.2.1/\True->J d->(U<=a.1/\a.1<(a.2.2.2.2.1.length:Int))/\∃(I_1:KC->Prop),∃(an: _->Nat),I_1 (U,a.2.2.2.2.2.2.1,())/\∀(f:KC),let bu:=(↑f.2.1.1.length:Int);let av:=(gx D5 V f.1);let aq:=av.1.toNat;let B:Prop:=(f.1<(↑V.length:Int));(Ty.int i64).wf f.1/\f.2.1.1.length.le 9223372036854775807/\True->I_1 f->(decide B=true->(U<=f.1/\B)/\(U<=av.1/\av.1<bu)/\¬Int.toNat av.1∈f.2.1.2/\I_1 (i64.wrap (f.1+g),(f.2.1.1.set aq (Om (Ty.int i64) a.1 (f.2.1.1.getD aq [])),f.2.1.2),())/\an (i64.wrap (f.1+g),(f.2.1.1.set aq (Om (Ty.int i64) a.1 (f.2.1.1.getD aq [])),f.2.1.2),())<an f)/\(decide B=false->DX K1 V/\∀(a7:C9),HO a7.1/\True->a7.1=rc (A3 V a.2.1)->G3 a7.1/\∀(af:KD),HO af.1/\True/\True->(rv a7.1=(0:Rat)->af.2.1=false)/\(rv a7.1≠(0:Rat)->af.1=rc (rv a7.1)⁻¹/\af.2.1=true)->∃(J:C3t->Prop),((U<=a.2.1/\a.2.1<bu)/\¬Int.toNat a.2.1∈f.2.1.2/\∃(I:C3s->Prop),∃(u: _->Nat),I ([],(f.2.1.1.getD ay [],f.2.1.1.getD ay []),())/\∀(p:C3s),(Ty.int i64).sl.wf p.1/\(∀(x:Int×Bool),x∈p.2.1.2->O4 x.1/\True)/\True->I p->(p.2.1.2= []->(false=true->False)/\(false=false->J (p.1,(f.2.1.1.set ay p.2.1.1,f.2.1.2),())))/\∀(ak:List (Int×Bool)) (a4:Int×Bool) (am:List (Int×Bool)),let bo:=(p.1++ [a4.1],(p.2.1.1,ak++am),());p.2.1.2=ak++a4::am->(true=true->((p.1.length+ [a4.1].length)*(8:Nat)<=aj/\p.1.length+ [a4.1].length<=9223372036854775807)/\I bo/\u bo<u p)/\(true=false->J (p.1,(f.2.1.1,Int.toNat a.2.1::f.2.1.2),())))/\∀(h:C3t),(Ty.int i64).sl.wf h.1/\h.2.1.1.length.le 9223372036854775807/\True->J h->∃(I_2:C3k->Prop),∃(bx: _->Nat),I_2 (U,a.2.2.2.2.1,a.2.2.2.2.2.1,h.2.1,())/\∀(l:C3k),let bk:=(i64.wrap (b.1+g),a.2.2.2.1,d.1,d.2.1,d.2.2.1,l.2.1,l.2.2.1,l.2.2.2.1,());let Y:=l.1.toNat;let ag:=(List.getD l.2.1 (h.1.getD Y U).toNat []);let P:Prop:=(l.1<(↑h.1.length:Int));let C:Prop:=(U<=h.1.getD Y U/\h.1.getD Y U<(↑l.2.2.1.1.length:Int));let q:Prop:=(U<=h.1.getD Y U/\h.1.getD Y U<(l.2.1.length:Int));(Ty.int i64).wf l.1/\ET l.2.1/\l.2.2.1.1.length.le 9223372036854775807/\l.2.2.2.1.1.length.le 9223372036854775807/\True->I_2 l->(decide P=true->(U<=l.1/\P)/\∃(J:oH->Prop),let A:(C9)->(C9)->Prop:=(fun r a3=>HO a3.1/\True->a3.1=rc (rv r.1*rv af.1)->J (a3.1.1.1,a3.1.1.2,a3.1.2,()));let S:(C9)->Prop:=(fun r=>(G3 r.1/\G3 af.1)/\∀(a3:C9),A r a3);(q/\(DX K1 ag/\∀(r:C9),HO r.1/\True->r.1=rc (A3 ag a.2.1)->(S r)/\(G3 r.1/\G3 af.1)/\∀(a3:C9),A r a3)/\DX K1 ag/\∀(r:C9),HO r.1/\True->r.1=rc (A3 ag a.2.1)->S r)/\∀(aa:oH),let ba:=(aa.1,aa.2.1);let b7:=(b.1,ba,aa.2.2.1);Ty.bool.wf aa.1/\(Ty.int u32).sl.wf aa.2.1/\(Ty.int u32).sl.wf aa.2.2.1/\True->J aa->∃(J:C2u->Prop),let a2:Prop:=((((l.2.2.1.1.getD (h.1.getD Y U).toNat []).length+ [b7].length)*(64:Nat)<=aj/\(l.2.2.1.1.getD (h.1.getD Y U).toNat []).length+ [b7].length<=9223372036854775807)/\C/\(h.1.getD Y U).toNat=(h.1.getD Y U).toNat/\J ((l.2.2.1.1.set (h.1.getD Y U).toNat (l.2.2.1.1.getD (h.1.getD Y U).toNat []++ [b7]),l.2.2.1.2),()));let t:Prop:=(¬(h.1.getD Y U).toNat∈l.2.2.1.2/\a2);let L:Prop:=(t/\¬(h.1.getD Y U).toNat∈l.2.2.1.2/\a2/\a2);(C/\((t/\t)/\(¬(h.1.getD Y U).toNat∈l.2.2.1.2/\a2/\a2/\a2)/\L)/\(¬(h.1.getD Y U).toNat∈l.2.2.1.2/\(a2/\a2/\a2)/\(a2/\a2)/\a2)/\L/\¬(h.1.getD Y U).toNat∈l.2.2.1.2/\(a2/\a2)/\a2)/\∀(bf:C2u),bf.1.1.length.le 9223372036854775807/\True->J bf->q/\G3 (ba,aa.2.2.1)/\∀(a3:C9),HO a3.1/\True->a3.1=rc (-rv (ba,aa.2.2.1))->(DX K1 ag/\sz K1 a3.1/\DX K1 V)/\∀(b2:Gj),let b6:=(List.set l.2.1 (h.1.getD Y U).toNat b2.1);Mk b2.1/\True->HP (fun(i:Int)=>A3 ag i+rv a3.1*A3 V i) b2.1->q/\∃(I:KC->Prop),∃(u: _->Nat),I (U,l.2.2.2.1,())/\∀(z:KC),let au:=(gx D5 V z.1);let az:=au.1.toNat;let bg:Prop:=(z.1<(↑V.length:Int));(Ty.int i64).wf z.1/\z.2.1.1.length.le 9223372036854775807/\True->I z->(decide bg=true->(U<=z.1/\bg)/\(U<=au.1/\au.1<(↑z.2.1.1.length:Int))/\¬Int.toNat au.1∈z.2.1.2/\I (i64.wrap (z.1+g),(z.2.1.1.set az (Om (Ty.int i64) (h.1.getD Y U) (z.2.1.1.getD az [])),z.2.1.2),())/\u (i64.wrap (z.1+g),(z.2.1.1.set az (Om (Ty.int i64) (h.1.getD Y U) (z.2.1.1.getD az [])),z.2.1.2),())<u z)/\(decide bg=false->(U<=h.1.getD Y U/\h.1.getD Y U<(↑b6.length:Int))/\∃(I:KC->Prop),∃(u: _->Nat),I (U,z.2.1,())/\∀(a0:KC),let al:=(i64.wrap (l.1+g),List.set l.2.1 (h.1.getD Y U).toNat b2.1,bf.1,a0.2.1,());let X:=(gx D5 (b6.getD (h.1.getD Y U).toNat []) a0.1);let b0:=X.1.toNat;let be:Prop:=(a0.1<(↑(b6.getD (h.1.getD Y U).toNat []).length:Int));(Ty.int i64).wf a0.1/\a0.2.1.1.length.le 9223372036854775807/\True->I a0->(decide be=true->(U<=a0.1/\be)/\(U<=X.1/\X.1<(↑a0.2.1.1.length:Int))/\¬Int.toNat X.1∈a0.2.1.2/\I (i64.wrap (a0.1+g),(a0.2.1.1.set b0 (Df (Ty.int i64) (h.1.getD Y U) true (a0.2.1.1.getD b0 [])),a0.2.1.2),())/\u (i64.wrap (a0.1+g),(a0.2.1.1.set b0 (Df (Ty.int i64) (h.1.getD Y U) true (a0.2.1.1.getD b0 [])),a0.2.1.2),())<u a0)/\(decide be=false->I_2 al/\bx al<bx l)))/\(decide P=false->I bk/\u bk<u b))))/\(decide (b.1<x.1.1)=false->∃(I:C4a->Prop),∃(u: _->Nat),I (b.2.2.2.2.1,U,List.replicate ad [],List.replicate ad [],b.2.2.2.2.2.2.1,())/\∀(a:C4a),let bq:=(x.1.1,x.1.1,a.2.2.1);let b4:=(a.1.length:Int);let a8:=a.2.1.toNat;let Z:=(b.2.2.1,b.2.2.2.1,bq,x.1.1,x.1.1,a.2.2.2.1);let W:=(List.getD b.2.2.1 a8 U);let b8:=(List.getD b.2.2.2.2.2.1 W.toNat []);let H:Prop:=(a.2.1<bp);let s:Prop:=(U<=a.2.1/\a.2.1<(a.2.2.1.length:Int));let bb:(C9)->Prop:=(fun r=>((a.2.2.2.2.1.1.getD W.toNat []).length+ [(a.2.1,r.1)].length)*(64:Nat)<=aj/\(a.2.2.2.2.1.1.getD W.toNat []).length+ [(a.2.1,r.1)].length<=9223372036854775807);(Ty.int i64).sl.wf a.1/\(Ty.int i64).wf a.2.1/\ET a.2.2.1/\ET a.2.2.2.1/\a.2.2.2.2.1.1.length.le 9223372036854775807/\True->I a->(decide H=true->(U<=a.2.1/\H)/\∃(J:C3n->Prop),let ae:(C9)->Prop:=(fun r=>let bj:=(a.2.1,r.1);(((a.2.2.2.2.1.1.getD W.toNat []).length+ [bj].length)*(64:Nat)<=aj/\(a.2.2.2.2.1.1.getD W.toNat []).length+ [bj].length<=9223372036854775807)/\s/\J (List.set a.2.2.1 a8 (a.2.2.2.2.1.1.getD W.toNat []++ [bj]),(a.2.2.2.2.1.1,W.toNat::a.2.2.2.2.1.2),()));let N:Prop:=(True/\∀(r:C9),HO r.1/\True->r.1=ri g->ae r);let n:(C9)->Prop:=(fun r=>¬W.toNat∈a.2.2.2.2.1.2/\ae r);((U<=List.getD b.2.2.1 a8 U/\List.getD b.2.2.1 a8 U<(↑a.2.2.2.2.1.1.length:Int))/\((¬W.toNat∈a.2.2.2.2.1.2/\N)/\True/\∀(r:C9),HO r.1/\True->r.1=ri g->(n r)/\¬W.toNat∈a.2.2.2.2.1.2/\(bb r)/\s/\J (List.set a.2.2.1 a8 (a.2.2.2.2.1.1.getD W.toNat []++ [(a.2.1,r.1)]),(a.2.2.2.2.1.1,W.toNat::a.2.2.2.2.1.2),()))/\(¬W.toNat∈a.2.2.2.2.1.2/\N/\True/\∀(r:C9),HO r.1/\True->r.1=ri g->(ae r)/\(ae r)/\(bb r)/\s/\J (List.set a.2.2.1 a8 (a.2.2.2.2.1.1.getD W.toNat []++ [(a.2.1,r.1)]),(a.2.2.2.2.1.1,W.toNat::a.2.2.2.2.1.2),()))/\True/\∀(r:C9),HO r.1/\True->r.1=ri g->((n r)/\n r)/\(¬W.toNat∈a.2.2.2.2.1.2/\(ae r)/\(ae r)/\ae r)/\(n r)/\¬W.toNat∈a.2.2.2.2.1.2/\(ae r)/\(bb r)/\s/\J (List.set a.2.2.1 a8 (a.2.2.2.2.1.1.getD W.toNat []++ [(a.2.1,r.1)]),(a.2.2.2.2.1.1,W.toNat::a.2.2.2.2.1.2),()))/\∀(d:C3n),ET d.1/\d.2.1.1.length.le 9223372036854775807/\True->J d->(U<=List.getD b.2.2.1 a8 U/\List.getD b.2.2.1 a8 U<(b.2.2.2.2.2.1.length:Int))/\(DX K1 b8/\List.length a.1<=100000)/\∀(a7:C0z),let bl:=(a.1,i64.wrap (a.2.1+g),d.1,List.set a.2.2.2.1 a8 a7.1,d.2.1,());Mk a7.1/\True/\True->(G1 a.1 b4->(∀(j:Int),A3 b8 j≠(0:Rat)->U<=j/\j<b4)->HP (fun(i:Int)=>if U<=i/\i<b4 then A3 b8 (↑(List.idxOf i a.1):Int)else(0:Rat)) a7.1/\a7.2.1=true)->(U<=a.2.1/\a.2.1<(a.2.2.2.1.length:Int))/\I bl/\u bl<u a)/\(decide H=false->(¬A7 x.1->Z=bC/\U=g)/\(A7 x.1->(x.1.1≠x.1.2.1->Z=bC/\U=ab)/\(x.1.1=x.1.2.1->(¬nonsing x.1.1.toNat (el x.1)->Z=bC/\U=ac)/\(nonsing x.1.1.toNat (el x.1)->Af Z x.1.1/\U=U/\(∀(v:List EE),v∈a.2.2.1->O9 v)/\(∀(v:List EE),v∈a.2.2.2.1->O9 v)/\(∀(T:Nat),(1:Nat)<=T->Di x.1.1.toNat x.1.1.toNat (el x.1) T->∀(i j:Nat),i<x.1.1.toNat->qs (T+T) (el bq i j)/\qs (T+T) (el (x.1.1,x.1.1,a.2.2.2.1) i j))/\∀(i j:Nat),i<x.1.1.toNat->j<x.1.1.toNat->luM Z x.1.1.toNat i j=el x.1 (ix b.2.2.1 i) (ix b.2.2.2.1 j))))))))))
def DD (x:A4 R3.args):C0l prog RX Rr Pn R3 f24 x=Hv x:=by kernel_rfl
def C4v (n:Nat) (M:N0) (rest:Wf) (rows lower:List (List C8)) (cols:List R6) (q:Int×Int×Bool×Wf×List (List C8)×NR×NB×Unit):Prop:=q.2.2.2.2.1=rows/\q.2.2.2.2.2.1.1=lower/\jC n q.2.2.2.2.2.1.2/\q.2.2.2.2.2.2.1.1=cols/\jC n q.2.2.2.2.2.2.1.2/\(q.2.2.1=false->¬nonsing n (el M))/\(q.2.2.1=true->q.2.1∈rest/\q.1∈keys (cols.getD q.2.1.toNat [])/\q.2.2.2.1.Nodup/\∀x,x∈q.2.2.2.1↔x∈rest/\x≠q.2.1)
def B7s (n:Nat) (rest:Wf) (cols:List R6) (q:Int×NB×Unit):Prop:=0<=q.1/\q.1<(rest.length:Int)/\q.2.1.1=cols/\jC n q.2.1.2
def C1o (n:Nat) (rest:Wf) (cols:List R6) (q:Int×Int×NB×Unit):Prop:=0<=q.1/\q.1<(rest.length:Int)/\0<=q.2.1/\q.2.1<=(rest.length:Int)/\q.2.2.1.1=cols/\jC n q.2.2.1.2
def C4w (n:Nat) (rest:Wf) (b:Nat) (rows lower:List (List C8)) (cols:List R6) (q:Wf×List (List C8)×NR×NB×Unit):Prop:=q.1=rest.take b++rest.drop (b+1)/\q.2.1=rows/\q.2.2.1.1=lower/\jC n q.2.2.1.2/\q.2.2.2.1.1=cols/\jC n q.2.2.2.1.2
def C5f (es:R6) (q:Int×(R6×R6)×Unit):Prop:=q.2.1.1=es/\(∀y∈q.2.1.2,y∈es)/\((q.1<0/\q.2.1.2.length=es.length)\/q.1∈keys es)
def C5g (n:Nat) (cols:List R6) (c:Int) (q:Int×NB×Unit):Prop:=q.1∈keys (cols.getD c.toNat [])/\q.2.1.1=cols/\jC n q.2.1.2
def C5d (es:R6) (q:Wf×(R6×R6)×Unit):Prop:=q.2.1.1=es/\(q.1++keys q.2.1.2).Perm (keys es)
def C5e (n:Nat) (cols:List R6) (c:Int) (q:Wf×NB×Unit):Prop:=q.1.Perm (keys (cols.getD c.toNat []))/\q.2.1.1=cols/\jC n q.2.1.2
def M9 (n:Nat) (M:N0) (k:Nat) (rest P:Wf) (rows lower:List (List C8)) (r c:Int) (a:Wf) (q:Int×List (List C8)×NR×NB×Unit):Prop:=0<=q.1/\q.1<=(a.length:Int)/\(∀s,1<=s->Di n n (el M) s->CI n k (s+s) rest P rows lower r c (a.take q.1.toNat) q.2.1 q.2.2.1.1 q.2.2.2.1.1)/\jC n q.2.2.1.2/\jC n q.2.2.2.1.2
def C1w (x:Rat) (q:Bool×Wf×Wf×Unit):Prop:=((q.1,q.2.1),q.2.2.1)=rc x
def C5a (n:Nat) (P place:Wf) (rows lower:List (List C8)) (q:Wf×Int×List (List C8)×List (List C8)×NR×Unit):Prop:=q.1=place/\0<=q.2.1/\q.2.1<=(n:Int)/\q.2.2.1.length=n/\q.2.2.2.1.length=n/\q.2.2.2.2.1.1=lower/\(∀m∈q.2.2.2.2.1.2,n<=m\/∃a:Nat,(a:Int)<q.2.1/\m=ix P a)/\(∀a:Nat,(a:Int)<q.2.1->q.2.2.1.getD a []=lower.getD (ix P a) []++ [((a:Int),rc 1)])/\∀a:Nat,(a:Int)<q.2.1->HP (fun i=>if 0<=i/\i<(n:Int)then A3 (rows.getD (ix P a) []) ((List.idxOf i place:Nat):Int)else 0) (q.2.2.2.1.getD a [])
def EI.okFin {n k:Nat} {S:Nat->Nat} {A:Nat->Nat->Rat} {rest P Q place:Wf} {rows lower:List (List C8)} {cols:List R6} (h:EI n k S A rest P Q place rows lower cols) (b:n<=16384) {a:Nat} (d:a<k) (f:S a<=K1):DX K1 (rows.getD (ix P a) []):=by
 obtain⟨b,c,_⟩:=h.can _ (h.elim.plt a d);have:=S3 (n:=(n:Int)) (v:=rows.getD (ix P a) []) ⟨b.1,fun e he=>⟨(c e he).1,(c e he).2,(b.2 e he).1⟩⟩;exact⟨b.1,IL b fun j=>G9 (h.fin a d j) f,by omega⟩
def EI.cnt {n k:Nat} {S:Nat->Nat} {A:Nat->Nat->Rat} {rest P Q place:Wf} {rows lower:List (List C8)} {cols:List R6} (h:EI n k S A rest P Q place rows lower cols) (a:n<=16384) {i:Int} (b:0<=i) (c:i<(rest.length:Int)):(0<=rest.getD i.toNat 0/\rest.getD i.toNat 0<((cols.length:Nat):Int))/\(rest.getD i.toNat 0).toNat<n/\(cols.getD (rest.getD i.toNat 0).toNat []).length<=9223372036854775807/\rest.getD i.toNat 0∈rest:=by
 have a:rest.getD i.toNat 0∈rest:=D2 (by omega);obtain⟨b,c1⟩:=h.crange a;have:=h.colLen a;rw[h.lcols];exact⟨⟨b,c1⟩,by omega,by omega,a⟩
set_option maxHeartbeats 4000000
def DF (x:A4 R3.args) (bx:awf R3.args x) (f8:R3.pre x):Hv x:=by
 obtain⟨⟨R,C,D⟩,_⟩:=x;have f0:Yb (R,C,D):=Jx bx.1.2.2.2;change Int at R C;change List (List C8)at D;obtain⟨fh,ew⟩:Q8 K1 (R,C,D)/\(A7 (R,C,D)->R=C->∃T:Nat,1<=T/\8*T+8<=K1/\Di R.toNat R.toNat (el (R,C,D)) T):=f8;simp only[Hv];refine⟨trivial, ?_⟩;rintro⟨r,_⟩ _ M;simp only at M⊢;by_cases a6:A7 (R,C,D)
 case neg=>
  have M:r=false:=by rw[M];exact rC a6
  rw[M];exact⟨fun _=>⟨fun _=>⟨rfl,trivial⟩,fun h=>absurd h a6⟩,fun h=>(by cases h)⟩
 have M:r=true:=by rw[M];exact rE a6
 rw[M];obtain⟨g2,g3,g4,g5,ed,ee⟩:=id a6;simp only at g2 g3 g4 g5 ed ee;refine⟨fun h=>(by cases h),fun _=>⟨fun bs=> ?_,fun cd=> ?_⟩⟩
 . have bs:=qA bs;exact⟨fun h=>absurd a6 h,fun _=>⟨fun _=>⟨rfl,trivial⟩,fun h=>absurd h bs⟩⟩
 have cd:R=C:=qK (qB cd);subst cd;obtain⟨n,rfl⟩:∃n:Nat,R=(n:Int):=⟨R.toNat,by omega⟩;obtain⟨W,co,gu,bw⟩:=ew a6 rfl;rw[qV]at bw;simp only[qV];have az:0<=(n:Int)/\(n:Int)<=(n:Int)/\8*(n:Int)<=281474976710656/\(n:Int)<=9223372036854775807:=⟨by omega,qG _,by omega,by omega⟩;have bf:0<=(n:Int)/\(n:Int)<=(n:Int)/\24*(n:Int)<=281474976710656/\(n:Int)<=9223372036854775807:=⟨by omega,qG _,by omega,by omega⟩;refine⟨az,az,bf,bf,az,bf,bf,az,az,JA n,fun p=>((n:Int)-p.1).toNat,JA.init, ?_⟩;rintro⟨t,⟨cols,dd⟩,left,_⟩ _ J;change Int at t;change List R6 at cols;simp only;have bq:=J.1;have dp:=J.2.1;have f1:cols.length=n:=J.2.2.1;have f2:left.length=n:=J.2.2.2.2.2.1;simp only at bq dp;refine⟨fun f=> ?_,fun f=> ?_⟩
 . have f:=qA f;rw[wv (by omega)];exact⟨⟨bq,by omega⟩,⟨bq,by omega⟩,J.next f,by omega⟩
 have f:=qB f;have ck:(n:Int)<=t:=by omega
 have gl:(D.length:Int)=(n:Int):=ed;refine⟨EB n D,fun p=>((n:Int)-p.1).toNat,EB.init J ck, ?_⟩;rintro⟨X,eb,⟨cols1,d0⟩,_⟩ _ ak;change Int at X;change List (List C8)at eb;change List R6 at cols1;simp only;have ar:=ak.1;have dx:=ak.2.1;have fe:eb.length=n:=ak.2.2.1;simp only at ar dx;refine⟨fun A=> ?_,fun A=> ?_⟩
 . have A:=qA A;have fi:X<(n:Int):=by omega
   have cj:=G5 (d:=([]:List C8)) ar A;rw[Hi ar A]at cj⊢;have cr:=ee _ cj;have a5:=XF a6 fh cj;refine⟨⟨ar,A⟩, .inl ⟨a5.1,a5.2.1,a5.2.2⟩, ?_⟩;rintro⟨av,_⟩ _ bx;change List C8 at av;simp only at bx⊢;refine⟨⟨ar,by omega⟩,ON n (fun i=>A3 (D.getD i [])) X (D.getD X.toNat []),fun p=>(((D.getD X.toNat []).length:Int)-p.1).toNat,ak.row, ?_⟩;rintro⟨bz,⟨cols2,d1⟩,_⟩ _ b6;change Int at bz;change List R6 at cols2;simp only;have et:=b6.1;have eu:=b6.2.1;simp only at et eu;have e0:∀e∈D.getD X.toNat [],0<=e.1/\e.1<(n:Int):=fun e a1=>⟨(cr.2 e a1).1,(cr.2 e a1).2.1⟩
   have f6:=a5.2.2;refine⟨fun H=> ?_,fun H=> ?_⟩
   . have H:=qA H;rw[wv (by omega)];obtain⟨u,w,a8⟩:=b6.rng e0 H;exact⟨u,w,a8,b6.next e0 H,by omega⟩
   . have H:=qB H;rw[wv (by omega)];exact⟨ak.next fi cr bx b6 (by omega),by omega⟩
 have A:=qB A;have dq:(n:Int)<=X:=by omega
 refine⟨B5y n ((n:Int),(n:Int),D),fun p=>((n:Int)-p.1).toNat,B5y.init a6 f0 rfl rfl J ck ak dq, ?_⟩;clear J bq dp f1 f2 ak ar dx fe f ck A dq;rintro⟨k,rest,P,Q,place,rows,⟨lower,gf⟩,⟨cols,dd⟩,_⟩ _ ⟨cu,fk,ai,b1,d2⟩;change Int at k;change Wf at rest P Q place;change List (List C8)at rows lower;change List R6 at cols;simp only at cu fk ai b1 d2⊢;have a:=ai W co bw;refine⟨fun b7=> ?_,fun b7=> ?_⟩
 . have b7:=qA b7;have ci:k.toNat<n:=by omega
   have b4:W+W<=K1:=by omega
   have gs:=a.more ci;have b9:=a.lrows;have dk:=a.llow;have dj:=a.lcols;have gt:rest.length<=n:=NE a.rnd fun x hx=>a.crange hx
   refine⟨C4v n ((n:Int),(n:Int),D) rest rows lower cols,⟨B7s n rest cols,⟨C1o n rest cols,fun q=>((rest.length:Int)-q.2.1).toNat,⟨qG _,by simp only;omega,qG _,by simp only;omega,rfl,d2⟩, ?_⟩, ?_⟩, ?_⟩
   . rintro⟨b,j,⟨b0,cz⟩,_⟩ _ ⟨a0,a2,aa,ct,rfl,O⟩;change Int at b j;simp only at a0 a2 aa ct O⊢;refine⟨fun l=> ?_,fun l=>⟨a0,a2,rfl,O⟩⟩;have l:=qA l;obtain⟨c2,bc,c3,aw⟩:=a.cnt (by omega) aa l;obtain⟨eg,eh,ei,g9⟩:=a.cnt (by omega) a0 a2;simp only[JW];refine⟨B7s n rest b0,⟨⟨aa,l⟩,c2,O _ bc,c3,⟨a0,a2⟩,eg,O _ eh,ei,fun _=>⟨aa,l,rfl,O⟩,fun _=>⟨a0,a2,rfl,O⟩⟩, ?_⟩;rintro⟨ef,⟨cols2,d1⟩,_⟩ _ ⟨ax,ay,rfl,af⟩;change Int at ef;simp only at ax ay af⊢;obtain⟨bg,bh,bi,gj⟩:=a.cnt (by omega) ax ay;rw[wv (by omega)];exact⟨⟨ax,ay⟩,bg,af _ bh,bi,fun _=>⟨ax,ay,rfl,af⟩,fun _=>⟨⟨ax,ay,by simp only;omega,by simp only;omega,rfl,af⟩,by omega⟩⟩
   . rintro⟨b,⟨b0,cz⟩,_⟩ _ ⟨a0,a2,rfl,O⟩;change Int at b;simp only at a0 a2 O⊢;obtain⟨c2,bc,c3,aw⟩:=a.cnt (by omega) a0 a2;simp only[JW];refine⟨⟨a0,a2⟩,c2,O _ bc,c3,fun ah=> ?_,fun ah=> ?_⟩
     . have ah:=qA ah;exact⟨rfl,rfl,b1,rfl,O,fun _=>a.stuck aw (qO (g3m.1 ah)),fun h=>(by cases h)⟩
     have ah:=qB ah;rw[wv (by omega)];simp only[qV,uS];rw[show(b+1).toNat=b.toNat+1 from by omega];have b8:b.toNat+(List.drop (b.toNat+1) rest).length<=n:=by rw[sQ];omega
     generalize ab:rest.getD b.toNat 0=c at*;obtain⟨be,c1⟩:=a.crange aw;have cl:=a.pick (b:=b.toNat) (by omega);rw[ab]at cl;refine⟨⟨a0,a2⟩,C4w n rest b.toNat rows lower b0,⟨⟨qG _,a0,by omega⟩,⟨by omega,by omega,qG _⟩,⟨⟨by omega,by omega⟩,rfl,rfl,rfl,b1,rfl,O⟩,⟨by omega,by omega⟩,rfl,rfl,rfl,b1,rfl,O⟩, ?_⟩;rintro⟨fs,ea,⟨gw,gg⟩,⟨cols2,d1⟩,_⟩ _ ⟨ag,rfl,rfl,b2,rfl,ao⟩;change Wf at fs;simp only at ag b2 ao⊢;obtain⟨gp,d9⟩:=a.col c aw;have ff:∀B:Int×Bool,B∈cols2.getD c.toNat []->0<=B.1/\B.1<(ea.length:Int):=fun B a7=>by
      obtain⟨c8,g6,_⟩:=(d9 B.1).1 (mN a7);rw[b9];exact⟨c8,g6⟩
     have bs:0<(cols2.getD c.toNat []).length:=by
      rcases vE (cols2.getD c.toNat []).length with N|N
      . exact absurd (g3m.2 N) ah
      . exact N
     have cb:c<(cols2.length:Int):=by rw[dj];exact c1
     refine⟨C5g n cols2 c,⟨⟨be,cb⟩,ao _ bc,C5f (cols2.getD c.toNat []),fun q=>q.2.1.2.length,⟨rfl,fun B a7=>a7, .inl ⟨by show(-1:Int)<0;decide,rfl⟩⟩, ?_⟩, ?_⟩
     . rintro⟨i,⟨es,left⟩,_⟩ _ ⟨rfl,ad,G⟩;change Int at i;change R6 at left;simp only at ad G⊢;refine⟨fun a3=>⟨fun h=>(by cases h),fun _=>⟨?_,JW _ _ _,ao⟩⟩,fun l1 B l2 a3=>⟨fun _=> ?_,fun h=>(by cases h)⟩⟩
       . rcases G with⟨_,G⟩ |G
         . rw[a3]at G;simp only[yD]at G;omega
         . exact G
       have a7:=ff B (ad B (by rw[a3];simp));have fj:B.1∈keys (cols2.getD c.toNat []):=mN (ad B (by rw[a3];simp));have dy:∀z∈l1++l2,z∈cols2.getD c.toNat []:=fun z N=>ad z (by
        rw[a3];rcases qZ.1 N with N|N
        . exact sN _ N
        . exact tJ _ (qM _ N))
       have bo:(l1++l2).length<left.length:=by rw[a3,rR,rR,rF];omega
       have ac:¬i<0->i∈keys (cols2.getD c.toNat [])/\0<=i/\i<(ea.length:Int):=fun h=>by
        rcases G with⟨H,_⟩ |H
        . exact absurd H h
        . obtain⟨c8,g6,_⟩:=(d9 i).1 H;rw[b9];exact⟨H,c8,g6⟩
       have f3:∀ {q:Bool},I5 (decide (i<0)) true q=false->¬i<0:=fun {q} h H=>by
        rw[rE H]at h;cases h
       refine⟨fun _=>a7,fun h=>(ac (qB h)).2,fun _=>a7,fun h=>(ac (f3 h)).2,fun _=>⟨⟨rfl,dy, .inr fj⟩,bo⟩,fun h=>⟨⟨rfl,dy, .inr (ac ?_).1⟩,bo⟩⟩;intro H;rw[rE H]at h;cases h
     . rintro⟨i,⟨g7,gc⟩,_⟩ _ ⟨ad,rfl,bb⟩;exact⟨rfl,rfl,b2,rfl,bb,fun h=>(by cases h),fun _=>⟨aw,ad,ag▸cl.1,ag▸cl.2⟩⟩
   . rintro⟨r,c,e5,fr,o,⟨Y,c6⟩,⟨b0,cz⟩,_⟩ _ ⟨rfl,rfl,O,rfl,af,e3,e4⟩;change Int at r c;change Bool at e5;change Wf at fr;simp only at O af e3 e4⊢;cases e5 with
     |false=>exact⟨fun _=>⟨fun h=>absurd a6 h,fun _=>⟨fun h=>absurd rfl h,fun _=>⟨fun _=>⟨rfl,trivial⟩,fun h=>absurd h (e3 rfl)⟩⟩⟩,fun h=>(by cases h)⟩
     |true=>
     obtain⟨ab,M,fc,fd⟩:=e4 rfl;obtain⟨be,c1⟩:=a.crange ab;obtain⟨fo,fp,fq,e9⟩:=a.row ab M;have em:=a.lP;have gm:=a.lQ;have bv:=a.lpl;refine⟨fun h=>(by cases h),fun _=> ?_⟩;have fm:0<=k/\k<(P.length:Int):=⟨cu,by omega⟩;have e6:0<=k/\k<(Q.length:Int):=⟨cu,by omega⟩;have e7:0<=c/\c<(place.length:Int):=⟨be,by omega⟩;refine⟨fun q=>q.1=P.set k.toNat r/\q.2.1=Q.set k.toNat c/\q.2.2.1=place.set c.toNat k,⟨fm,⟨e6,e7,rfl,rfl,rfl⟩,e6,e7,rfl,rfl,rfl⟩, ?_⟩;rintro⟨P',Q',e8,_⟩ _ ⟨bg,bh,bi⟩;simp only at bg bh bi⊢;have cn:DX K1 (o.getD r.toNat []):=a.okRow b4 (by omega) (by omega);have ba:∀e∈o.getD r.toNat [],0<=e.1/\e.1<(n:Int):=(a.can r.toNat (by omega)).2.1;have fa:=(a.can r.toNat (by omega)).2.2;have du:U6 o r.toNat c.toNat=A3 (o.getD r.toNat []) c:=by unfold U6;rw[show((c.toNat:Nat):Int)=c from by omega]
     rw[du]at e9;generalize cm:o.getD r.toNat []=y at*;have gr:=cn.2.2;refine⟨⟨fo,by rw[b9];exact fp⟩,FQ n rest (inC b0) r y,fun p=>((y.length:Int)-p.1).toNat,⟨qG _,qF _,dj,af,fun j l=>⟨a.crange l,kR ⟨(a.col j l).1,fun x=>xS⟩⟩⟩, ?_⟩;rintro⟨t,⟨cols1,d0⟩,_⟩ _ E;change Int at t;change List R6 at cols1;simp only;have fu:=E.1;have fw:=E.2.1;simp only at fu fw;refine⟨fun f=> ?_,fun f=> ?_⟩
     . have f:=qA f;rw[wv (by omega)];obtain⟨u,w,a8⟩:=E.rng ba f;exact⟨u,w,a8,E.next ba f,by omega⟩
     have f:=qB f;have cf:∀s,1<=s->Di n n (el ((n:Int),(n:Int),D)) s->CI n k.toNat (s+s) rest P o Y r c [] o Y cols1:=fun s u w=>CI.init (ai s u w) ab M E.2.2.1 fun j l=>by
      have c8:=(E.2.2.2.2 j l).2;simp only at c8;rw[H1 (show(y.length:Int)<=t by omega)]at c8;rw[cm];exact c8
     have d3:jC n d0:=E.2.2.2.1;have ez:cols1.length=n:=E.2.2.1;clear E;obtain⟨ch,bn⟩:=(cf W co bw).col c ab;have dh:∀x∈keys (cols1.getD c.toNat []),0<=x/\x<(n:Int):=fun x hx=>⟨((bn x).1 hx).2.1,((bn x).1 hx).2.2.1⟩
     have df:(keys (cols1.getD c.toNat [])).length<=n:=NE ch dh;refine⟨cn, ?_⟩;rintro⟨v,_⟩ _ cp;change C6 at v;simp only at cp⊢;have cq:qs (W+W) (A3 y c):=fa c;refine⟨by rw[cp];exact O1 (G9 cq b4) (by decide), ?_⟩;rintro⟨cs,h0,_⟩ _ aq;change C6 at cs;simp only at aq⊢;rw[cp,H8]at aq;obtain⟨aq,_⟩:=aq.2 e9;have cb:c<(cols1.length:Int):=by rw[ez];exact c1
     refine⟨C5e n cols1 c,⟨⟨be,cb⟩,d3 _ (by omega),C5d (cols1.getD c.toNat []),fun q=>q.2.1.2.length,⟨rfl,wT _⟩, ?_⟩, ?_⟩
     . rintro⟨c4,⟨es,left⟩,_⟩ _ ⟨rfl,G⟩;change Wf at c4;change R6 at left;simp only at G⊢;refine⟨fun a3=>⟨fun h=>(by cases h),fun _=>⟨?_,JW _ _ _,d3⟩⟩,fun l1 B l2 a3=>⟨fun _=> ?_,fun h=>(by cases h)⟩⟩
       . subst a3;rw[show keys []= []from rfl,vX]at G;exact G
       subst a3;have dt:(c4++ [B.1]++keys (l1++l2)).Perm (keys (cols1.getD c.toNat [])):=by
        refine List.Perm.trans ?_ G;rw[uJ];refine g2r c4 ?_;unfold keys;rw[vH,vH,rV,List.singleton_append];exact List.perm_middle.symm
       have en:=dt.length_eq;rw[rR,rR,rA]at en;have bo:(l1++l2).length<(l1++B::l2).length:=by rw[rR,rR,rF];omega
       exact⟨⟨by rw[rA];omega,by rw[rA];omega⟩,⟨rfl,dt⟩,bo⟩
     rintro⟨Z,⟨g8,gd⟩,_⟩ _ ⟨b3,rfl,d4⟩;change Wf at Z;simp only at b3 d4⊢;have f7:Z.Nodup:=b3.nodup_iff.2 ch;have dr:∀x,x∈Z↔x≠r/\0<=x/\x<(n:Int)/\(∀g,g<k.toNat->x.toNat≠ix P g)/\U6 o x.toNat c.toNat≠0:=fun x=>by rw[b3.mem_iff];exact bn x
     have f6:Z.length<=n:=by
      rw[b3.length_eq];exact df
     refine⟨M9 n ((n:Int),(n:Int),D) k.toNat rest P o Y r c Z,fun q=>((Z.length:Int)-q.1).toNat,⟨qG _,qF _,cf,O,d4⟩, ?_⟩;clear cf ch bn dh df b3;rintro⟨X,cw,⟨cv,ej⟩,⟨c5,ge⟩,_⟩ _ ⟨c0,g1,bk,bj,c7⟩;change Int at X;simp only at c0 g1 bk bj c7⊢;have aj:=bk W co bw;refine⟨fun A=> ?_,fun A=> ?_⟩
     . have A:=qA A;have ey:Z.getD X.toNat 0∈Z:=D2 (by omega);have cg:Z.getD X.toNat 0∉Z.take X.toNat:=fun hh=>by
        obtain⟨g,V,ap⟩:=wA.1 hh;rw[qU]at V;rw[g1g,Q9 _ _ (show X.toNat<Z.length by omega)]at ap;have:=(xW f7).1 ap;omega
       have dz:=Ru (d:=(0:Int)) c0 A;rw[V2 c0 A]at dz;obtain⟨ad,G,bb,e2,gv⟩:=(dr _).1 ey;generalize Z.getD X.toNat 0=i at*;have a9:i.toNat<n:=by omega
       have dc:((i.toNat:Nat):Int)=i:=by omega
       have fg:cw.getD i.toNat []=o.getD i.toNat []:=aj.ru _ a9 (by rw[dc];exact cg);have dn:cv.getD i.toNat []=Y.getD i.toNat []:=by rw[aj.lo _ a9,qH (by rw[dc];exact cg)]
       have b8:=a.lowLen a9;have gk:=a.two (i:=r.toNat) (j:=i.toNat) (by omega) a9 (by omega) fq e2;have a5:=a.okRow b4 (by omega) a9;have dw:=(a.can _ a9).2.2;have ac:0<=i/\i<(cw.length:Int):=⟨G,by rw[aj.lrows];exact bb⟩;have de:0<=i/\i<(cv.length:Int):=⟨G,by rw[aj.llow];exact bb⟩;have ep:i.toNat∉ej:=bj _ a9;rw[fg,dn];have eo:U6 o i.toNat c.toNat=A3 (o.getD i.toNat []) c:=by unfold U6;rw[show((c.toNat:Nat):Int)=c from by omega]
       have gn:4*(W+W)+1<=K1:=by omega
       have fb:qs (W+W+(W+W)) (A3 (o.getD i.toNat []) c/A3 y c):=Tx (dw c) cq;have F:∀(ae:QQ×Unit),HO ae.1/\True->ae.1=rc (A3 (o.getD i.toNat []) c)->(G3 ae.1/\G3 cs)/\∀(au:QQ×Unit),HO au.1/\True->au.1=rc (rv ae.1*rv cs)->C1w (A3 (o.getD i.toNat []) c/A3 y c) (au.1.1.1,au.1.1.2,au.1.2,()):=fun ae _ h1=>by
        refine⟨⟨by rw[h1];exact O1 (G9 (dw c) b4) (by decide),by rw[aq];exact O1 (G9 (B2k cq) b4) (by decide)⟩,fun au _ c8=> ?_⟩;rw[h1,aq,H8,H8, <-uE]at c8;exact c8
       refine⟨⟨c0,A⟩,C1w (A3 (o.getD i.toNat []) c/A3 y c),⟨ac,⟨a5,fun ae av h=>⟨F ae av h,F ae av h⟩⟩,a5,F⟩, ?_⟩;rintro⟨d6,d7,d8,_⟩ _ ce;change Bool at d6;change Wf at d7 d8;have ce:((d6,d7),d8)=rc (A3 (o.getD i.toNat []) c/A3 y c):=ce;simp only;rw[ce];refine⟨fun q=>q.1.1=cv.set i.toNat (Y.getD i.toNat []++ [(k,rc (A3 (o.getD i.toNat []) c/A3 y c))])/\jC n q.1.2, ?_, ?_⟩
       . have L1:((Y.getD i.toNat []).length+ [(k,rc (A3 (o.getD i.toNat []) c/A3 y c))].length)*64<=140737488355328/\(Y.getD i.toNat []).length+ [(k,rc (A3 (o.getD i.toNat []) c/A3 y c))].length<=9223372036854775807:=by
          have N:∀z:Nat,z<=n->(z+1)*64<=140737488355328/\z+1<=9223372036854775807:=fun z N=>⟨by omega,by omega⟩
          exact N _ (qY b8 (by omega))
         repeat' apply And.intro
         all_goals first
          |exact de.1
          |exact de.2
          |exact ep
          |exact L1.1
          |exact L1.2
          |exact rfl
          |exact bj
          |exact True.intro
       rintro⟨⟨gz,gi⟩,_⟩ _ ⟨di,d5⟩;simp only at di d5⊢;have dv:qs K1 (A3 (o.getD i.toNat []) c/A3 y c):=G9 fb (by omega);refine⟨ac,O1 dv (by decide), ?_⟩;rintro⟨fl,_⟩ _ bt;change C6 at fl;simp only at bt⊢;rw[H8]at bt;refine⟨⟨a5,by rw[bt];exact Iu (NL dv),cn⟩, ?_⟩;rintro⟨nw,_⟩ _ a4;change List C8 at nw;simp only at a4⊢;have a4:HP (fun j=>A3 (o.getD i.toNat []) j-A3 (o.getD i.toNat []) c/A3 y c*A3 y j) nw:=⟨a4.1,fun j=>(a4.2 j).trans (by dsimp only;rw[bt,H8,g0g, <-tH])⟩;have bu:∀e∈nw,0<=e.1/\e.1<(n:Int):=fun e a1=>qK fun hh=>by
        refine(a4.1.2 e a1).1 ?_;rw[<-F9 a4.1.1 a1];refine(a4.2 e.1).trans ?_;dsimp only;rw[D1 (v:=o.getD i.toNat []) (i:=e.1) fun B a7 c8=>hh (by rw[<-c8];exact(a.can _ a9).2.1 B a7),D1 (v:=y) (i:=e.1) fun B a7 c8=>hh (by rw[<-c8];exact ba B a7),sE,tH,wS,rG]
       have gq:nw.length<=n:=by
        have:=S3 (n:=(n:Int)) (v:=nw) ⟨a4.1.1,fun e a1=>⟨(bu e a1).1,(bu e a1).2,(a4.1.2 e a1).1⟩⟩;omega
       refine⟨ac,FQ n rest (inC c5) i y,fun p=>((y.length:Int)-p.1).toNat,⟨qG _,qF _,aj.lcols,c7,fun j l=>⟨a.crange l,kR ⟨(aj.col j l).1,fun x=>xS⟩⟩⟩, ?_⟩;rintro⟨bz,⟨cx,ga⟩,_⟩ _ E;change Int at bz;change List R6 at cx;simp only;have fx:=E.1;have fy:=E.2.1;simp only at fx fy;refine⟨fun f=> ?_,fun f=> ?_⟩
       . have f:=qA f;rw[wv (by omega)];obtain⟨u,w,a8⟩:=E.rng ba f;exact⟨u,w,a8,E.next ba f,by omega⟩
       have f:=qB f;have dm:∀j:Int,j∈rest->kQ (inC c5) i y j (cx.getD j.toNat []):=fun j l=>by
        have c8:=(E.2.2.2.2 j l).2;simp only at c8;rwa[H1 (show(y.length:Int)<=bz by omega)]at c8
       rw[show(cw.set i.toNat nw).getD i.toNat []=nw from B8 (by rw[aj.lrows];exact a9)];refine⟨by rw[qN];exact ac,cC n rest (fun j x=>inC c5 j x/\¬(x=i/\∃e∈y,e.1=j)) i nw,fun p=>((nw.length:Int)-p.1).toNat,⟨qG _,qF _,E.2.2.1,E.2.2.2.1,fun j l=>⟨a.crange l,A8x ⟨(dm j l).1,(dm j l).2⟩⟩⟩, ?_⟩;rintro⟨ec,⟨cy,gb⟩,_⟩ _ I;change Int at ec;change List R6 at cy;simp only;have fz:=I.1;have g0:=I.2.1;simp only at fz g0;refine⟨fun f=> ?_,fun f=> ?_⟩
       . have f:=qA f;rw[wv (by omega)];obtain⟨u,w,a8⟩:=I.rng bu f;exact⟨u,w,a8,I.next bu f,by omega⟩
       have f:=qB f;rw[wv (by omega)];refine⟨⟨by simp only;omega,by simp only;omega,fun s u w=> ?_,d5,I.2.2.2.1⟩,by omega⟩;have f5:=CI.next (ai s u w) ab M (bk s u w) G bb ad e2 cg (q:=A3 (o.getD i.toNat []) c/A3 y c) (by rw[eo,du]) (nw:=nw) (by rw[cm];exact a4) (cols2:=cy) I.2.2.1 fun j l=>by
        have c8:=(I.2.2.2.2 j l).2;simp only at c8;rw[H1 (show(nw.length:Int)<=ec by omega)]at c8;rw[cm];exact c8
       simp only;rw[dz,di, <-dn];rwa[show((k.toNat:Nat):Int)=k from by omega]at f5
     . have A:=qB A;rw[wv (by omega)];refine⟨⟨by simp only;omega,by simp only;omega,fun s u w=> ?_,bj,c7⟩,by omega⟩;have db:=bk s u w;rw[H1 (by omega)]at db;have er:=CI.doneT (ai s u w) u w ab M db dr fc fd;simp only;rw[show(k+1).toNat=k.toNat+1 from by omega,bg,bh,bi];rwa[show((k.toNat:Nat):Int)=k from by omega]at er
 . have b7:=qB b7;have ci:k=(n:Int):=by omega
   subst ci;simp only[qV]at ai a;have b9:=a.lrows;have dk:=a.llow;have em:=a.lP;have f9:=a.places;refine⟨C5a n P place rows lower,fun q=>((n:Int)-q.2.1).toNat,⟨rfl,qG _,qF _,rK,rK,rfl,fun m J=> .inl (g1u fun h=>b1 m h J),fun g V=>by simp only at V;omega,fun g V=>by simp only at V;omega⟩, ?_⟩;rintro⟨e8,j,L,U,⟨Y,c6⟩,_⟩ _ ⟨rfl,aa,ct,am,an,rfl,cc,c9,ca⟩;change Int at j;change List (List C8)at L U;simp only at aa ct am an cc c9 ca⊢;refine⟨fun l=> ?_,fun l=> ?_⟩
   . have l:=qA l;have I:j.toNat<n:=by omega
     have ek:P.getD j.toNat 0=(ix P j.toNat:Int):=a.P0 _ I;have bp:=a.elim.plt _ I;have b8:=a.lowLen bp;have f4:ix P j.toNat∉c6:=fun J=>by
      rcases cc _ J with h| ⟨g,V,ap⟩
      . omega
      . have:=a.elim.pinj _ _ I (show g<n by omega) ap;omega
     have a5:=a.okFin (by omega) I (show W+W<=K1 by omega);rw[ek];simp only[qV];have u:0<=j/\j<(P.length:Int):=⟨aa,l⟩;have w:0<=(ix P j.toNat:Int)/\(ix P j.toNat:Int)<(Y.length:Int):=⟨qF _,by rw[dk];exact uA.2 bp⟩;have a8:0<=j/\j<(L.length:Int):=⟨aa,by rw[am];omega⟩;have N:∀z:Nat,z<=n->(z+1)*64<=140737488355328/\z+1<=9223372036854775807:=fun z N=>⟨by omega,by omega⟩
     refine⟨u,fun q=>q.1=L.set j.toNat (Y.getD (ix P j.toNat) []++ [(j,rc 1)])/\q.2.1.1=Y/\q.2.1.2=ix P j.toNat::c6, ?_, ?_⟩
     . repeat' first
        |exact f4
        |exact True.intro
        |exact u.1
        |exact u.2
        |exact w.1
        |exact w.2
        |exact a8.1
        |exact a8.2
        |exact rfl
        |exact(N _ (qY b8 (qT _))).1
        |exact(N _ (qY b8 (qT _))).2
        |apply And.intro
        | (rintro⟨r,_⟩ _ M
           have M:r=rc 1:=M.trans (Yo 1);subst M)
     rintro⟨L4,⟨gy,gh⟩,_⟩ _ ⟨ag,b2,ao⟩;simp only at ag b2 ao⊢;refine⟨⟨w.1,by rw[b9];exact uA.2 bp⟩,⟨a5,by rw[a.lpl];omega⟩, ?_⟩;rintro⟨av,h2,_⟩ _ ds;change List C8 at av;simp only at ds⊢;have bv:=a.lpl;obtain⟨e1,_⟩:=ds (by rw[bv];exact f9.1) fun i ex=>by
      rw[bv];obtain⟨e,a1,rfl⟩:=AR ex;exact(a.can _ bp).2.1 e a1
     rw[bv]at e1;rw[wv (by omega)];refine⟨⟨aa,by rw[an];omega⟩,⟨rfl,by simp only;omega,by simp only;omega,by simp only;rw[ag,qN];exact am,by simp only;rw[qN];exact an,b2,fun m J=> ?_,fun g V=> ?_,fun g V=> ?_⟩,by omega⟩
     . simp only at J⊢;rw[ao]at J;rcases qS.1 J with h|h
       . exact .inr ⟨j.toNat,by omega,h⟩
       . rcases cc m h with h| ⟨g,V,ap⟩
         . exact .inl h
         . exact .inr ⟨g,by omega,ap⟩
     . simp only at V⊢;rw[ag];by_cases b5:g=j.toNat
       . subst b5;rw[B8 (by rw[am];exact I),show((j.toNat:Nat):Int)=j from by omega]
       . rw[D7 b5];exact c9 g (by omega)
     . simp only at V⊢;by_cases b5:g=j.toNat
       . subst b5;rw[B8 (by rw[an];exact I)];exact e1
       . rw[D7 b5];exact ca g (by omega)
   . have l:=qB l;have I:j=(n:Int):=by omega
     subst I;have bl:∀g,g<n->L.getD g []=Y.getD (ix P g) []++ [((g:Int),rc 1)]:=fun g V=>c9 g (by omega)
     have bm:∀g,g<n->HP (fun i=>if 0<=i/\i<(n:Int)then A3 (rows.getD (ix P g) []) ((List.idxOf i e8:Nat):Int)else 0) (U.getD g []):=fun g V=>ca g (by omega)
     have da:=a.done (by omega) am an bl bm;exact⟨fun h=>absurd a6 h,fun _=>⟨fun h=>absurd rfl h,fun _=>⟨fun h=>absurd a.elim.nonsing h,fun _=>⟨da.1,trivial,(a.cans am an bl bm).1,(a.cans am an bl bm).2,fun s u w g b V=>(ai s u w).sizes (fun g=>by omega) bl bm V b,da.2⟩⟩⟩⟩
def HU:An:= {}
abbrev C2x:=(Wf×Wf×MM×Int×Int×List (List EE))×List QQ×Unit
def Nn:A4 X7.args->Prop:=fun(x:C2x)=>let e:=(4:Int);let d:=(1:Int);let c:=(0:Int);let b:=(↑x.1.1.length:Int);let a:=(x.1.1.length:Int);let f:Prop:=((x.2.1.length:Int)≠a);(c<=a/\a<=(16384:Int)/\Q8 K1 x.1.2.2.1/\Q8 K1 x.1.2.2.2)/\Mj fun r=>(r.1=true↔Af x.1 a)->(iB ((!r.1)) ((¬Af x.1 b->d=d)/\(Af x.1 b->(x.2.1.length≠x.1.1.length->d=e)/\(x.2.1.length=x.1.1.length->d=c))) ((iB (decide f) ((¬Af x.1 b->e=d)/\(Af x.1 b->(x.2.1.length≠x.1.1.length->e=e)/\(x.2.1.length=x.1.1.length->e=c))) ((¬Af x.1 b->c=d)/\(Af x.1 b->(x.2.1.length≠x.1.1.length->c=e)/\(x.2.1.length=x.1.1.length->c=c))))))
def PY:An:= {loop:= [(12,⟨[1,2,7,8,9,30,31,55,56],[0],[(57,false,vI)],[],[(1, .row tQ 31)]⟩),(7,⟨[1,2,7,8,30],[0],[(31,false,vI)],[],[(1, .row tQ 31)]⟩),(24,⟨[2,7,8,13,15,16,80,81,95,96],[0,2],[(97,false,vI)],[],[(1, .row tQ 31)]⟩),(19,⟨[2,7,8,13,80],[0],[(81,false,vI)],[],[(1, .row tQ 31),(2, .row tQ 31)]⟩)],plan:= [(14,[5,7,10,12],[15],true,(pZ9 0 5 (.q 5 (.p 6 (.q 7 (.p 8 (.p 9 (.q 10 (.p 11 (.q 12 (.e 13 (.p 14 (.e 15 .done))))))))))))),(26,[5,7,10,12],[15],true,(pZ9 0 5 (.q 5 (.p 6 (.q 7 (.p 8 (.p 9 (.q 10 (.p 11 (.q 12 (.e 13 (.p 14 (.e 15 .done))))))))))))),(28,[5,9],[15],true,(pZ9 0 5 (.q 5 (pZ9 6 3 (.q 9 (.e 10 (pZ9 11 4 (.e 15 .done)))))))),(29,[2,5,9],[11],true,(.p 0 (.p 1 (.q 2 (.p 3 (.p 4 (.q 5 (pZ9 6 3 (.q 9 (.p 10 (.e 11 .done)))))))))))]}
abbrev C3m:=Int×List QQ×List QQ×Unit
def Va:A4 Cc.args->Prop:=fun(x:C2x)=>let P:=(1:Nat);let D:=(↑x.1.1.length:Int);let w:=(1:Int);let q:=(0:Int);let n:=(x.1.1.length:Int);let d:Prop:=(q<=n/\n<=n/\(↑(56:Nat):Int)*n<=(281474976710656:Int)/\n<=(9223372036854775807:Int));(List.length x.1.1<=16384/\Q8 K1 x.1.2.2.1/\Q8 K1 x.1.2.2.2)/\Fg fun r=>(¬Af x.1 n->r.1=w)/\(Af x.1 n->(List.length x.2.1≠List.length x.1.1->r.1=4)/\(List.length x.2.1=List.length x.1.1->r.1=q))->(iB (decide (r.1≠q)) ((¬Af x.1 D->Er QQ= []/\r.1=w)/\(Af x.1 D->(x.2.1.length≠x.1.1.length->Er QQ= []/\r.1=4)/\(x.2.1.length=x.1.1.length->r.1=q/\0=x.1.1.length/\(∀(e:QQ),e∈ []->e=rc (rv e))/\(∀(s T:Nat),P<=s->P<=T->Q8 s x.1.2.2.1->Q8 s x.1.2.2.2->Mq T x.2.1->Mq (hK s (gK s T x.1.1.length) x.1.1.length+s) [])/\∀(i:Nat),i<x.1.1.length->(C0 x.1.1.length fun(j:Nat)=>luM x.1 x.1.1.length i j*rv ([].getD (ix x.1.2.1 j) zr))=rv (x.2.1.getD (ix x.1.1 i) zr)))) (d/\∃(I:oK->Prop),∃(a: _->Nat),I (q,List.replicate n.toNat dQ,())/\∀(p:oK),let G:=p.1.toNat;let u:=(gx [] x.1.2.2.1.2.2 p.1);let E:=(↑u.length:Int);let O:=(i64.wrap (E-w));let f:Prop:=(p.1<n);(Ty.int i64).wf p.1/\jM p.2.1/\True->I p->(iB (decide f) ((q<=p.1/\f)/\(q<=gx q x.1.1 p.1/\gx q x.1.1 p.1<(x.2.1.length:Int))/\(q<=p.1/\p.1<(p.2.1.length:Int))/\(q<=p.1/\p.1<(x.1.2.2.1.2.2.length:Int))/\(q<=q/\q<=i64.wrap (E-w)/\i64.wrap (E-w)<=E)/\∃(I_1:oK->Prop),∃(b: _->Nat),I_1 (q,List.set p.2.1 G (gx dQ x.2.1 (gx q x.1.1 p.1)),())/\∀(Q:oK),let N:=(List.getD Q.2.1 G dQ);let J:=(Q.2.1.length:Int);let H:=(i64.wrap (p.1+w),Q.2.1,());let l:=(gx D5 (List.drop q.toNat (List.take O.toNat u)) Q.1);let y:=(List.getD Q.2.1 l.1.toNat dQ);let g:Prop:=(q<=p.1/\p.1<J);let c:Prop:=(Q.1<(↑(List.drop q.toNat (List.take O.toNat u)).length:Int));(Ty.int i64).wf Q.1/\jM Q.2.1/\True->I_1 Q->(iB (decide c) ((q<=Q.1/\c)/\g/\(q<=l.1/\l.1<J)/\(sz K1 N/\sz K1 l.2/\sz K1 y)/\K7 fun r=>let C:=(i64.wrap (Q.1+w),List.set Q.2.1 G r.1,());(rv y=(0:Rat)->r.1=List.getD Q.2.1 G dQ)/\(rv y≠(0:Rat)->r.1=rc (rv N-rv l.2*rv y))->g/\I_1 C/\b C<b Q) (I H/\a H<a p))) (d/\∃(I:C3m->Prop),∃(a: _->Nat),I (q,p.2.1,List.replicate n.toNat dQ,())/\∀(p:C3m),let t:=(i64.wrap (n-w)-p.1);let k:=(i64.wrap t);let o:=(gx [] x.1.2.2.2.2.2 k);let M:=(gx D5 o q);let B:=(↑o.length:Int);let h:Prop:=(p.1<n);(Ty.int i64).wf p.1/\jM p.2.1/\jM p.2.2.1/\True->I p->(iB (decide h) ((q<=i64.wrap t/\i64.wrap t<(x.1.2.2.2.2.2.length:Int))/\(q<=w/\w<=B/\B<=B)/\∃(I_1:oK->Prop),∃(b: _->Nat),I_1 (q,p.2.1,())/\∀(Q:oK),let K:=(Q.2.1.length:Int);let A:=(List.getD Q.2.1 k.toNat dQ);let m:=(gx D5 (List.drop w.toNat (List.take B.toNat o)) Q.1);let z:=(List.getD Q.2.1 m.1.toNat dQ);let f:Prop:=(Q.1<(↑(List.drop w.toNat (List.take B.toNat o)).length:Int));let d:Prop:=(q<=i64.wrap t/\i64.wrap t<K);(Ty.int i64).wf Q.1/\jM Q.2.1/\True->I_1 Q->(iB (decide f) ((q<=Q.1/\f)/\d/\(q<=m.1/\m.1<K)/\(sz K1 A/\sz K1 m.2/\sz K1 z)/\K7 fun r=>let F:=(i64.wrap (Q.1+w),List.set Q.2.1 k.toNat r.1,());(rv z=(0:Rat)->r.1=List.getD Q.2.1 k.toNat dQ)/\(rv z≠(0:Rat)->r.1=rc (rv A-rv m.2*rv z))->d/\I_1 F/\b F<b Q) (d/\(q<=q/\q<B)/\(G3 A/\G3 M.2)/\∀(r:KD),let L:=(List.set Q.2.1 k.toNat r.1);let v:=(i64.wrap (p.1+w),List.set Q.2.1 k.toNat r.1,List.set p.2.2.1 (gx q x.1.2.1 k).toNat (L.getD k.toNat dQ),());HO r.1/\True/\True->(rv M.2=(0:Rat)->r.2.1=false)/\(rv M.2≠(0:Rat)->r.1=rc (rv A/rv M.2)/\r.2.1=true)->d/\(q<=i64.wrap t/\i64.wrap t<(x.1.2.1.length:Int))/\(q<=i64.wrap t/\i64.wrap t<(↑L.length:Int))/\(q<=gx q x.1.2.1 k/\gx q x.1.2.1 k<(p.2.2.1.length:Int))/\I v/\a v<a p))) ((¬Af x.1 D->p.2.2.1= []/\q=w)/\(Af x.1 D->(x.2.1.length≠x.1.1.length->p.2.2.1= []/\q=(4:Int))/\(x.2.1.length=x.1.1.length->q=q/\List.length p.2.2.1=x.1.1.length/\(∀(e:QQ),e∈p.2.2.1->e=rc (rv e))/\(∀(s T:Nat),P<=s->P<=T->Q8 s x.1.2.2.1->Q8 s x.1.2.2.2->Mq T x.2.1->Mq (hK s (gK s T x.1.1.length) x.1.1.length+s) p.2.2.1)/\∀(i:Nat),i<x.1.1.length->(C0 x.1.1.length fun(j:Nat)=>luM x.1 x.1.1.length i j*rv (List.getD p.2.2.1 (ix x.1.2.1 j) zr))=rv (x.2.1.getD (ix x.1.1 i) zr)))))))))
def zok (k:Nat) (q:Rat) (x:C6):Prop:=sz k x/\Qa x/\rv x=q
def B3o {k:Nat} {q:Rat} (h:qs k q):zok k q (rc q):=⟨Iu h,gJ q,H8 q⟩
def oW {j k:Nat} {q:Rat} {x:C6} (h:zok j q x) (a:j<=k):zok k q x:=⟨F8 h.1 a,h.2⟩
def Hw {s T:Nat} :∀ {a b:Nat},a<=b->gK s T a<=gK s T b
 |a,0,h=>by have:a=0:=by omega
            subst this;exact qT _
 |a,b+1,h=>by
  by_cases c:a=b+1
  . subst c;exact qT _
  . have:=Hw (s:=s) (T:=T) (a:=a) (b:=b) (by omega);simp only[gK];omega
def Jv {s T:Nat} :∀ {a b:Nat},a<=b->hK s T a<=hK s T b
 |a,0,h=>by have:a=0:=by omega
            subst this;exact qT _
 |a,b+1,h=>by
  by_cases c:a=b+1
  . subst c;exact qT _
  . have:=Jv (s:=s) (T:=T) (a:=a) (b:=b) (by omega);simp only[hK];omega
def B4t {v:List C8} {i:Nat} (a:∀e∈v,0<=e.1/\e.1<(i:Int)) (h:Nat->Rat):Sz v (fun j=>h j.toNat)=C0 i fun j=>A3 v (j:Int)*h j:=by
 rw[A3d a];exact B6 fun j _=>by rw[qV]
def oV {s j k:Nat} {a f b r:C6} {x y:Rat} (d:zok j x a) (w:Qa f) (z:sz s f) (D:1<=s) (v:zok k y b) (A:1<=j) (B:1<=k) (t:rv b=0->r=a) (u:rv b≠0->r=rc (rv a-rv f*rv b)):zok (j+(s+k)+1) (x-rv f*y) r:=by
 obtain⟨g,h,i⟩:=id d;obtain⟨l,n,o⟩:=id v;subst i o;by_cases c:rv b=0
 . rw[t c,c,sE,tH,wS,rG];exact oW d (by omega)
 . rw[u c];exact B3o (B2l (Gy h g A) (Ot (Gy w z D) (Gy n l B)))
def FW (s T n i:Nat) (Lm:Nat->Nat->Rat) (b:Nat->Rat) (z:List C6):Prop:=z.length=n/\∀j,j<i->zok (gK s T j) (rv (z.getD j zr)) (z.getD j zr)/\rv (z.getD j zr)+C0 j (fun m=>Lm j m*rv (z.getD m zr))=b j
def FI (s T i:Nat) (c:Rat) (w:List C8) (b:List C6) (t:Nat) (z:List C6):Prop:=∃a,z=b.set i a/\Qa a/\rv a=c-Sz (w.take t) (fun j=>rv (b.getD j.toNat zr))/\∀m:Nat,(∀e∈w.take t,e.1<(m:Int))->sz (gK s T m) a
variable {s T n i:Nat} {c:Rat} {w:List C8} {z0 z:List C6} {Lm:Nat->Nat->Rat} {b:Nat->Rat}
def FI.init {x:C6} (a:zok T c x):FI s T i c w z0 0 (z0.set i x):=
 ⟨x,rfl,a.2.1,by rw[a.2.2];simp only[g0z,Sz];rw[tH,wS,rG],fun m _=>F8 a.1 (Hw (rL m))⟩
def FI.next (l:FW s T n i Lm b z0) (hT:1<=T) (hs:1<=s) (hi:i<n) (hasc:asc w) (hw:∀e∈w,0<=e.1/\e.1<(i:Int)/\sz s e.2/\Qa e.2) {t:Int} (t0:0<=t) (t1:t<(w.length:Int)) (h:FI s T i c w z0 t.toNat z):
 (z.length=n/\sz (gK s T i) (z.getD i zr)/\sz (gK s T i) (z.getD (gx D5 w t).1.toNat zr))/\∀r,(rv (z.getD (gx D5 w t).1.toNat zr)=0->r=z.getD i zr)->(rv (z.getD (gx D5 w t).1.toNat zr)≠0->r=rc (rv (z.getD i zr)-rv (gx D5 w t).2*rv (z.getD (gx D5 w t).1.toNat zr)))->FI s T i c w z0 (t+1).toNat (z.set i r):=by
 obtain⟨v,rfl,F,I,M⟩:=h;have E:=G5 (d:=D5) t0 t1;obtain⟨Q,R,A,B⟩:=hw _ E;have D:∀y∈w.take t.toNat,y.1<(gx D5 w t).1:=fun y hy=>by
  have f:(w.take (t+1).toNat).Pairwise (fun a b=>a.1<b.1):=zL hasc;rw[show(t+1).toNat=t.toNat+1 from by omega,rS,H5 (d:=D5) t0 t1,sY]at f;exact f.2.2 y hy (gx D5 w t) (by simp)
 have J:=bQ (d:=D5) t0 t1 (fun j=>rv (z0.getD j.toNat zr));have N:∀m:Nat,(∀e∈w.take (t+1).toNat,e.1<(m:Int))->(gx D5 w t).1<(m:Int):=fun m k=>k _ (by
  rw[show(t+1).toNat=t.toNat+1 from by omega,rS,H5 (d:=D5) t0 t1];simp)
 generalize gx D5 w t=e at*;have H:e.1.toNat≠i:=by omega
 have G:=l.1;rw[D7 H,B8 (by omega)];obtain⟨u,_⟩:=l.2 e.1.toNat (by omega);have f:=M e.1.toNat fun y hy=>by have:=D y hy;omega
 have o:∀m,1<=gK s T m:=fun m=>qY hT (Hw (rL m))
 refine⟨⟨by rw[qN];exact G,F8 f (Hw (by omega)),F8 u.1 (Hw (by omega))⟩,fun r O P=> ?_⟩;have g:=oV (x:=rv v) ⟨f,F,rfl⟩ B A hs u (o _) (o _) O P;refine⟨r,by rw[g4f],g.2.1, ?_,fun m k=> ?_⟩
 . rw[g.2.2,J,I];grind
 . refine F8 g.1 (qY ?_ (Hw (show e.1.toNat+1<=m by have:=N m k;omega)));simp only[gK];omega
def FI.done (k:FW s T n i Lm b z0) (G:i<n) (r:∀e∈w,0<=e.1/\e.1<(i:Int)) (x:∀j,j<i->A3 w (j:Int)=Lm i j) {t:Nat} (F:w.length<=t) (h:FI s T i (b i) w z0 t z):FW s T n (i+1) Lm b z:=by
 obtain⟨d,rfl,D,l,o⟩:=h;have E:=k.1;rw[qR F]at l o;have c:∀j,j<i->(z0.set i d).getD j zr=z0.getD j zr:=fun j A=>D7 (by omega)
 refine⟨by rw[qN];exact E,fun j A=> ?_⟩;by_cases B:j=i
 . subst B;rw[B8 (by omega)];refine⟨⟨o j fun e y=>(r e y).2,D,rfl⟩, ?_⟩;rw[l,B4t r (fun m=>rv (z0.getD m zr)),B6 (f:=fun m=>Lm j m*rv ((z0.set j d).getD m zr)) (g:=fun m=>A3 w (m:Int)*rv (z0.getD m zr)) fun m a=>by rw[c m a,x m a]];grind
 . rw[c j (by omega)];obtain⟨u,v⟩:=k.2 j (by omega);refine⟨u, ?_⟩;rw[<-v];congr 1;exact B6 fun m a=>by rw[c m (by omega)]
end Go.Proofs.YtljgpjhcieidbaaGreat
