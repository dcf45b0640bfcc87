/- Part. -/
import Derived.Test.YtljgpjhcieidbaaGreatKDG
set_option linter.all false
namespace Go.Proofs.YtljgpjhcieidbaaGreat
open Go.Proofs.Tryz
open Go.Vc Go.Gw
open Go.IntKind (i64 u64 u32)
def grown (n m i j:Nat) (f:Nat->Nat->Rat) (rows:List (List C7)):Prop:=rows.length=n/\∀k,k<n->rows.getD k []=(List.range (if k<i then m else if k=i then j else 0)).map fun l=>rc (f k l)
def A8h {n m:Nat} {f:Nat->Nat->Rat} :grown n m 0 0 f (List.replicate n []):=⟨rM,fun k a=>by
 rw[qE,uO,qL a,qH (by omega)];by_cases h:k=0
 . rw[qL h];rfl
 . rw[qH h];rfl⟩
def SQ {n m i j:Nat} {f:Nat->Nat->Rat} {rows:List (List C7)} {v:C7} (h:grown n m i j f rows) (d:i<n) (c:v=rc (f i j)):grown n m i (j+1) f (rows.set i (rows.getD i []++ [v])):=⟨by rw[qP];exact h.1,fun k b=>by
 rw[qE,yJ];by_cases a:i=k
 . subst a;rw[qL rfl,qL (by rw[h.1];exact b)];show rows.getD i []++ [v]= _;rw[h.2 i b,qH (by omega),qL rfl,qH (by omega),qL rfl,g2h,vG,c];rfl
 . rw[qH a, <-qE,h.2 k b,qH (fun e:k=i=>a e.symm),qH (fun e:k=i=>a e.symm)]⟩
def SP {n m i:Nat} {f:Nat->Nat->Rat} {rows:List (List C7)} (h:grown n m i m f rows):grown n m (i+1) 0 f rows:=⟨h.1,fun k a=>by
 rw[h.2 k a];have e:(if k<i then m else if k=i then m else 0)=(if k<i+1 then m else if k=i+1 then 0 else 0):=by
  by_cases a:k<i
  . rw[qL a,qL (by omega)]
  . rw[qH a];by_cases a:k=i
    . rw[qL a,qL (by omega)]
    . rw[qH a,qH (by omega)];split<;>rfl
 rw[e]⟩
def ZR {n m i j:Nat} {f:Nat->Nat->Rat} {rows:List (List C7)} (h:grown n m i j f rows) (a:i<n):(rows.getD i []).length=j:=by
 rw[h.2 i a,qH (by omega),qL rfl];simp
def jV {n m:Nat} {f:Nat->Nat->Rat} {rows:List (List C7)} (h:grown n m n 0 f rows) {k:Nat} (a:k<n):rows.getD k []=(List.range m).map fun l=>rc (f k l):=by
 rw[h.2 k a,qL a]
def SO {n m:Nat} {f:Nat->Nat->Rat} {rows:List (List C7)} (h:grown n m n 0 f rows) (g:∀i j,i<n->j<m->qs K1 (f i j)):∀l∈rows,II K1 l/\(l.length:Int)=(m:Int):=fun l d=>by
 obtain⟨o,a,rfl⟩:=Aa [] d;rw[h.1]at a;rw[jV h a];refine⟨fun x k=> ?_,by simp⟩;obtain⟨c,b,rfl⟩:=tS.1 k;exact g o c a (yO.1 b)
def ZS {n m:Nat} {f:Nat->Nat->Rat} {rows:List (List C7)} (h:grown n m n 0 f rows) {i j:Nat} (a:i<n) (b:j<m):rv ((rows.getD i []).getD j zr)=f i j:=by
 rw[jV h a,qE,vA,vZ b];exact H8 _
def A7r {m:N7} (i:Int) (a:0<=i) (b:i<m.1):gx [] (GY m) i=dl m.2.1 (A5 (m.2.2.getD i.toNat [])):=by
 rw[T1 a (by rw[PN];omega),A7q (by omega)]
def cZ {m:N7} {i:Int} (a:0<=i) (b:i<m.1):(gx [] (GY m) i).length=m.2.1.toNat:=by rw[A7r i a b,RQ]
def dA {m:N7} {i j:Int} (a:0<=i) (b:i<m.1) (c:0<=j) (d:j<m.2.1):gx dQ (gx [] (GY m) i) j=rc (el m i.toNat j.toNat):=by
 rw[A7r i a b,T1 c (by rw[RQ];omega),cX _ (by omega)];rfl
def BO (x:A4 Aj.args) (F:awf Aj.args x) (B:Aj.pre x):Rl x:=by
 obtain⟨⟨R,C,D⟩,_⟩:=x;have A:HE (R,C,D):=Jf F.1.2.2.2;change Int at R C;change List (List D1)at D;have s:O5 K1 (R,C,D):=B;simp only[Rl,iB,Ml,mW];refine⟨s, ?_⟩;rintro⟨O,_⟩ _ r;simp only at r⊢;refine⟨fun h=> ?_,fun h=> ?_⟩
 . have b:¬A6 (R,C,D):=fun b=>by rw[r,rH b]at h;cases h
   exact⟨fun _=>⟨rfl,by trivial⟩,fun c=>absurd c b⟩
 have b:A6 (R,C,D):=qM fun b=>by rw[r,rD b]at h;cases h
 obtain⟨t,w,u,J,_,_⟩:=id b;simp only at t w u J;refine⟨⟨s,b⟩, ?_⟩;rintro⟨e,_⟩ _ g;simp only at g⊢;have M:e.length=R.toNat:=by rw[g];exact PN _
 refine⟨⟨u,qI _,by omega,by omega⟩, ?_⟩
 let n:Nat->Nat->Rat:=fun i j=>el (R,C,D) j i
 refine⟨fun p=>0<=p.1/\p.1<=C/\grown C.toNat R.toNat p.1.toNat 0 n p.2.1,fun p=>(C-p.1).toNat,⟨qI _,u,A8h⟩, ?_⟩;rintro⟨i,rows,_⟩ _ ⟨f,G,a⟩;change Int at i;change List (List C7)at rows;simp only at f G a⊢;refine⟨fun d=> ?_,fun d=> ?_⟩
 . have d:=qA d;refine⟨fun p=>0<=p.1/\p.1<=R/\grown C.toNat R.toNat i.toNat p.1.toNat n p.2.1,fun p=>(R-p.1).toNat,⟨qI _,t,a⟩, ?_⟩;rintro⟨j,rows,_⟩ _ ⟨l,H,a⟩;change Int at j;change List (List C7)at rows;simp only at l H a⊢;have k:=a.1;have v:=ZR a (by omega);refine⟨fun c=> ?_,fun c=> ?_⟩
   . have c:=qA c;have N:(gx [] e j).length=C.toNat:=by rw[g];exact cZ l c
     have E:gx dQ (gx [] e j) i=rc (n i.toNat j.toNat):=by rw[g];exact dA l c f d
     rw[wv (by omega)];refine⟨⟨f,by omega⟩,⟨l,by omega⟩,⟨f,by omega⟩,⟨by rw[v,rA];omega,by rw[v,rA];omega⟩,⟨f,by omega⟩,by trivial,⟨by omega,by omega, ?_⟩,by omega⟩;rw[show(j+1).toNat=j.toNat+1 from by omega];exact SQ a (by omega) E
   . have c:=qB c;rw[wv (by omega),show(i+1).toNat=i.toNat+1 from by omega];rw[show j.toNat=R.toNat from by omega]at a;exact⟨⟨by omega,by omega,SP a⟩,by omega⟩
 . have d:=qB d;rw[show i.toNat=C.toNat from by omega]at a;have k:=a.1;refine⟨⟨fun I k=> ?_,t,w,by omega⟩, ?_⟩
   . have:=SO a (fun i j _ _=>MP b A s (by decide) j i) I k;exact⟨this.1,by omega⟩
   . rintro⟨m,_⟩ _ o;simp only at o⊢;rw[k]at o;exact⟨fun h=>absurd b h,fun _=>⟨Zy o fun i j y z=>ZS a y z,by trivial⟩⟩
def YU (x:A4 Qu.args) (Y:awf Qu.args x) (a6:Qu.pre x):WZ x:=by
 obtain⟨⟨R,C,D⟩,⟨R',C',D'⟩,_⟩:=x;have P:HE (R,C,D):=Jf Y.1.2.2.2;have Q:HE (R',C',D'):=Jf Y.2.1.2.2.2;change Int at R C R' C';change List (List D1)at D D';obtain⟨A,g,u,G,H,ao,a3⟩:∃A g:Nat,1<=A/\O5 A (R,C,D)/\O5 A (R',C',D')/\C<=(g:Int)/\(A+A+1)*(g+1)<=K1:=a6;have hK:K1=549755813888:=rfl;have an:A+A+1<=K1:=qX (g1t _ (Nat.succ_pos g)) a3;have V:=kY G (show A<=K1 by omega);have W:=kY H (show A<=K1 by omega);simp only[WZ,iB,H4,Ml,mW];refine⟨V, ?_⟩;rintro⟨a0,_⟩ _ f;simp only at f⊢;refine⟨fun _=>W, ?_⟩;rintro⟨av,_⟩ B;simp only at B⊢;rw[M0];by_cases c:A6 (R,C,D)
 case neg=>
  have f:a0=false:=by rw[f];exact rD c
  rw[f];exact⟨fun _=>⟨fun _=>⟨rfl,by trivial⟩,fun h=>absurd h.1 c⟩,fun h=>(by cases h)⟩
 have f:a0=true:=by rw[f];exact rH c
 have B:=(B (by rw[f];rfl)).2;rw[f,B];by_cases d:A6 (R',C',D')
 case neg=>
  rw[rD d];exact⟨fun _=>⟨fun _=>⟨rfl,by trivial⟩,fun h=>absurd h.2 d⟩,fun h=>(by cases h)⟩
 rw[rH d];refine⟨fun h=>(by cases h),fun _=>⟨fun h=> ?_,fun h=> ?_⟩⟩
 . have h:=qA h;exact⟨fun h=>absurd ⟨c,d⟩ h,fun _=>⟨fun _=>⟨rfl,by trivial⟩,fun b=>absurd b h⟩⟩
 have h:=uR.1 (qB h);obtain⟨J,ae,a1,af,_,_⟩:=id c;obtain⟨ag,ah,M,a2,_,_⟩:=id d;simp only at J ae a1 af ag ah M a2;refine⟨⟨V,c⟩, ?_⟩;rintro⟨e,_⟩ _ v;simp only at v⊢;refine⟨⟨W,d⟩, ?_⟩;rintro⟨E,_⟩ _ w;simp only at w⊢;have ap:e.length=R.toNat:=by rw[v];exact PN _
 have aq:E.length=R'.toNat:=by rw[w];exact PN _
 refine⟨⟨J,qI _,by omega,by omega⟩, ?_⟩
 let N:Nat->Nat->Rat:=fun i j=>C2 C.toNat fun k=>el (R,C,D) i k*el (R',C',D') k j
 have U:∀i k j,qs (A+A) (el (R,C,D) i k*el (R',C',D') k j):=fun i k j=>Nz (MP c P G u i k) (MP d Q H u k j)
 have T:∀n,n<=g->∀i j,qs K1 (C2 n fun k=>el (R,C,D) i k*el (R',C',D') k j):=fun n hn i j=>F8 (A2s fun k _=>U i k j) (by
  have ak:=rI (A+A+1) hn;have am:(A+A+1)*(g+1)=g*(A+A+1)+(A+A+1):=by rw[sX,wR,sN]
  omega)
 refine⟨fun p=>0<=p.1/\p.1<=R/\grown R.toNat C'.toNat p.1.toNat 0 N p.2.1,fun p=>(R-p.1).toNat,⟨qI _,J,A8h⟩, ?_⟩;rintro⟨i,rows,_⟩ _ ⟨r,a9,a⟩;change Int at i;change List (List C7)at rows;simp only at r a9 a⊢;refine⟨fun l=> ?_,fun l=> ?_⟩
 . have l:=qA l;refine⟨fun p=>0<=p.1/\p.1<=C'/\grown R.toNat C'.toNat i.toNat p.1.toNat N p.2.1,fun p=>(C'-p.1).toNat,⟨qI _,M,a⟩, ?_⟩;rintro⟨j,rows,_⟩ _ ⟨I,aa,a⟩;change Int at j;change List (List C7)at rows;simp only at I aa a⊢;have y:=a.1;have O:=ZR a (by omega);refine⟨fun b=> ?_,fun b=> ?_⟩
   . have b:=qA b;refine⟨trivial, ?_⟩;rintro⟨ax,_⟩ _ Z;simp only at Z⊢;refine⟨fun p=>0<=p.1/\p.1<=C/\((p.2.1,p.2.2.1),p.2.2.2.1)=rc (C2 p.1.toNat fun k=>el (R,C,D) i.toNat k*el (R',C',D') k j.toNat),fun p=>(C-p.1).toNat,⟨qI _,a1,by rw[Z];rfl⟩, ?_⟩;rintro⟨k,ai,aw,aj,_⟩ _ ⟨s,ab,t⟩;change Int at k;simp only at s ab t⊢;refine⟨fun o=> ?_,fun o=> ?_⟩
     . have o:=qA o;have ar:(gx [] e i).length=C.toNat:=by rw[v];exact cZ r l
       have a7:gx dQ (gx [] e i) k=rc (el (R,C,D) i.toNat k.toNat):=by rw[v];exact dA r l s o
       have au:(gx [] E k).length=C'.toNat:=by rw[w];exact cZ s (by show k<R';omega)
       have a8:gx dQ (gx [] E k) j=rc (el (R',C',D') k.toNat j.toNat):=by rw[w];exact dA s (by show k<R';omega) I b
       rw[a7,a8];refine⟨⟨r,by omega⟩,⟨s,by omega⟩,⟨s,by omega⟩,⟨I,by omega⟩,⟨J6 (MP c P G u _ _) (by omega),J6 (MP d Q H u _ _) (by omega)⟩, ?_⟩;rintro⟨q,_⟩ _ z;simp only at z⊢;rw[H8,H8]at z;refine⟨⟨by rw[t];exact J6 (T _ (by omega) _ _) (by decide),by rw[z];exact J6 (U _ _ _) (by omega)⟩, ?_⟩;rintro⟨ad,_⟩ _ X;simp only at X⊢;rw[wv (by omega)];refine⟨⟨by omega,by omega, ?_⟩,by omega⟩;show ad= _;rw[X,t,z,H8,H8,show(k+1).toNat=k.toNat+1 from by omega,C2]
     . have o:=qB o;rw[show k.toNat=C.toNat from by omega]at t;rw[wv (by omega)];refine⟨⟨r,by omega⟩,⟨by rw[O,rA];omega,by rw[O,rA];omega⟩,⟨r,by omega⟩,by trivial,⟨by omega,by omega, ?_⟩,by omega⟩;rw[show(j+1).toNat=j.toNat+1 from by omega];exact SQ a (by omega) t
   . have b:=qB b;rw[wv (by omega),show(i+1).toNat=i.toNat+1 from by omega];rw[show j.toNat=C'.toNat from by omega]at a;exact⟨⟨by omega,by omega,SP a⟩,by omega⟩
 . have l:=qB l;rw[show i.toNat=R.toNat from by omega]at a;have y:=a.1;refine⟨⟨fun ac y=> ?_,M,a2,by omega⟩, ?_⟩
   . have:=SO a (fun i j _ _=>T _ (by omega) i j) ac y;exact⟨this.1,by omega⟩
   . rintro⟨m,_⟩ _ F;simp only at F⊢;rw[y]at F;exact⟨fun h=>absurd ⟨c,d⟩ h,fun _=>⟨fun b=>absurd h b,fun _=>⟨Zy F fun i j a4 a5=>ZS a a4 a5,by trivial⟩⟩⟩
def gJ:An:= {}
def gL:An:= {}
def GF:An:= {plan:= [(1,[3,7],[],true,(pZ9 0 3 (.q 3 (pZ9 4 3 (.q 7 (.p 8 (.p 9 .done))))))),(4,[3,7,10],[],true,(pZ9 0 3 (.q 3 (pZ9 4 3 (.q 7 (.p 8 (.p 9 (.q 10 (.p 11 (.e 12 (.p 13 .done)))))))))))]}
def JS:An:= {}
def AS:An:= {join:= [(12,⟨[0,1,2,6,7,8,9,10,11],[1,2,3],[],[(0,81,[.val (.sl (.int .i64)), .val (.int .i64)]),(4,31,[.val .bool, .val (.sl (.int .u32)), .val (.sl (.int .u32))])],[]⟩)],loop:= [(7,⟨[0,1,2,6,7,8],[1,2],[(9,false,[.own tQ 31]),(10,false,vI)],[(0,81,[.val (.sl (.int .i64)), .val (.int .i64)])],[]⟩),(3,⟨[0,1,2,6],[1],[(7,false,[.own (.sl tQ) 56]),(8,false,vI)],[(0,81,[.val (.sl (.int .i64)), .val (.int .i64)])],[]⟩)]}
def NH:A4 Kn.args->Prop:=fun(x:Dc)=>let b:=(u64.wrap x.2.1);let a:=(u64.wrap x.1);u64.wrap x.2.1≠0/\(0<x.2.1->(0:Int)<=i64.wrap (a.tmod b)/\i64.wrap (a.tmod b)<x.2.1/\i64.wrap (a.tmod b)=a.tmod x.2.1)
def mN:A4 Gz.args->Prop:=fun(x:BG)=>(x.1,(0:Int))=(x.1,(0:Int))
def Mv:A4 S1.args->Prop:=fun(x:(List Int×Int)×Int×Unit)=>let e:=(1:Int);let d:=(↑x.1.1.length:Int);let c:=(x.1.1.length:Int);let b:=(0:Int);let a:=(i64.wrap (x.1.2+e)-e);(iB (decide (c<=x.1.2)) ((b<=b/\b<x.2.1)/\x.1.1=x.1.1/\b<=x.1.2/\x.1.2<=d) ((b<=i64.wrap a/\i64.wrap a<c)/\b<x.2.1/\Ef fun r=>(b<x.2.1->b<=r.1/\r.1<x.2.1/\r.1=(u64.wrap (gx b x.1.1 (i64.wrap a))).tmod x.2.1)->(b<=r.1/\r.1<x.2.1)/\x.1.1=x.1.1/\b<=i64.wrap (x.1.2+e)/\i64.wrap (x.1.2+e)<=d))
abbrev VL:=(List Int×Int)×Unit
def Rh:A4 Ag.args->Prop:=fun(x:VL)=>let b:=(x.1.1.length:Int);let a:=(0:Int);(a<(13:Int)/\a<=x.1.2/\x.1.2<=b)/\∀(r:E1) (o:VL),let c:=(o.1.1.length:Int);Q8 r.1/\True->((Ty.int i64).sl.pair (Ty.int i64)).wf o.1/\True->a<=r.1/\r.1<13->o.1.1=x.1.1/\a<=o.1.2/\o.1.2<=b->(a<(4:Int)/\a<=o.1.2/\o.1.2<=c)/\∀(e:E1) (d:VL),Q8 e.1/\True->((Ty.int i64).sl.pair (Ty.int i64)).wf d.1/\True->a<=e.1/\e.1<4->d.1.1=o.1.1/\a<=d.1.2/\d.1.2<=c->True/\H4 fun f=>f.1=rc (Rat.divInt (i64.wrap (r.1-6)) (i64.wrap (1+e.1)))->dR f.1/\d.1.1=x.1.1/\a<=d.1.2/\d.1.2<=(↑x.1.1.length:Int)
abbrev C1d:=List (List QQ)×Int×List Int×Int×Unit
abbrev C1j:=List Int×Int×Bool×List Int×List Int×Unit
abbrev C1t:=List QQ×Int×List Int×Int×Unit
def Iu:A4 O1.args->Prop:=fun(x:(List Int×Int)×Int×Int×Unit)=>let g:=(140737488355328:Nat);let c:=(0:Int);∃(I:C1d->Prop),∃(h: _->Nat),I ([],c,x.1.1,x.1.2,())/\∀(p:C1d),tQ.sl.sl.wf p.1/\(Ty.int i64).wf p.2.1/\(Ty.int i64).sl.wf p.2.2.1/\(Ty.int i64).wf p.2.2.2.1/\True->I p->(iB (decide (p.2.1<x.2.1)) (∃(I_1:C1t->Prop),∃(i: _->Nat),I_1 ([],c,p.2.2.1,p.2.2.2.1,())/\∀(k:C1t),let a:Prop:=(k.2.1<x.2.2.1);let e:=(k.2.2.1.length:Int);let b:=(p.1++ [k.1],i64.wrap (p.2.1+1),k.2.2.1,k.2.2.2.1,());tQ.sl.wf k.1/\(Ty.int i64).wf k.2.1/\(Ty.int i64).sl.wf k.2.2.1/\(Ty.int i64).wf k.2.2.2.1/\True->I_1 k->(iB (decide a) (True/\H4 fun r=>r.1=rc (0:Rat)->∃(J:C1j->Prop),((c<(3:Int)/\c<=k.2.2.2.1/\k.2.2.2.1<=e)/\∀(n:E1) (o:VL),let f:=(o.1.1.length:Int);Q8 n.1/\True->((Ty.int i64).sl.pair (Ty.int i64)).wf o.1/\True->c<=n.1/\n.1<3->o.1.1=k.2.2.1/\c<=o.1.2/\o.1.2<=e->(iB (decide (c<n.1)) ((c<=o.1.2/\o.1.2<=f)/\∀(r:H5) (m:VL),Wb r.1/\True->((Ty.int i64).sl.pair (Ty.int i64)).wf m.1/\True->dR r.1->m.1.1=o.1.1/\c<=m.1.2/\m.1.2<=f->J (m.1.1,m.1.2,r.1.1.1,r.1.1.2,r.1.2,())) (J (o.1.1,o.1.2,r.1.1.1,r.1.1.2,r.1.2,()))))/\∀(p:C1j),let a:=((p.2.2.1,p.2.2.2.1),p.2.2.2.2.1);let d:=(k.1++ [a],i64.wrap (k.2.1+1),p.1,p.2.1,());(Ty.int i64).sl.wf p.1/\(Ty.int i64).wf p.2.1/\Ty.bool.wf p.2.2.1/\(Ty.int u32).sl.wf p.2.2.2.1/\(Ty.int u32).sl.wf p.2.2.2.2.1/\True->J p->((k.1.length+ [a].length)*(56:Nat)<=g/\k.1.length+ [a].length<=9223372036854775807)/\I_1 d/\i d<i k) (((p.1.length+ [k.1].length)*(24:Nat)<=g/\p.1.length+ [k.1].length<=9223372036854775807)/\I b/\h b<h p))) (((∀(l:List QQ),l∈p.1->II K1 l/\(↑l.length:Int)=x.2.2.1)/\c<=x.2.2.1/\x.2.2.1<=16384/\p.1.length<=(16384:Nat))/\mW fun r=>HC p.1.length x.2.2.1.toNat (fun(i j:Nat)=>rv ((p.1.getD i []).getD j zr)) r.1->B2w x.2.1.toNat x.2.2.1.toNat r.1/\p.2.2.1=x.1.1/\c<=p.2.2.2.1/\p.2.2.2.1<=(↑x.1.1.length:Int)))
def VS (x:A4 Gz.args) (_:awf Gz.args x) (_:Gz.pre x):mN x:=rfl
def Yj (x:A4 S1.args) (f:awf S1.args x) (d:S1.pre x):Mv x:=by
 obtain⟨⟨l,i⟩,n,_⟩:=x;have k:l.length<=9223372036854775807:=f.1.1.1;change Int at i n;change List Int at l;obtain⟨b,g,j⟩:0<n/\0<=i/\i<=(l.length:Int):=d;simp only[Mv,iB,Ef];refine⟨fun h=>⟨⟨by omega,b⟩,by trivial,g,j⟩,fun h=> ?_⟩;have h:=qB h;rw[wv (a:=i+1) (by omega),wv (a:=i+1-1) (by omega)];refine⟨⟨by omega,by omega⟩,b, ?_⟩;rintro⟨r,_⟩ _ c;exact⟨⟨(c b).1,(c b).2.1⟩,by trivial,by omega,by omega⟩
def VR (x:A4 Kn.args) (j:awf Kn.args x) (i:Kn.pre x):NH x:=by
 obtain⟨a,b,_⟩:=x;change Int at a b;have h:0<b:=i;have c:KP .i64 b:=j.2.1;unfold KP at c;rw[show i64.min= -9223372036854775808 from by decide,show i64.max=9223372036854775807 from by decide]at c;simp only[NH];have e:u64.wrap b=b:=by simp[IntKind.wrap,IntKind.bits,IntKind.signed];omega
 have d:0<=u64.wrap a:=by simp[IntKind.wrap,IntKind.bits,IntKind.signed];omega
 rw[e];have f:0<=(u64.wrap a).tmod b:=zD _ d;have g:(u64.wrap a).tmod b<b:=Int.tmod_lt_of_pos _ h;rw[wv (by omega)];exact⟨by omega,fun _=>⟨f,g,rfl⟩⟩
def jT {a b:Int} (d:a.natAbs<4294967296) (c:0<b) (f:b.natAbs<4294967296):dR (rc (Rat.divInt a b)):=by
 refine⟨_, ?_,rfl⟩;rw[RP c];exact HZ (by omega) (Ed (by simpa using d)) (Ed (by simpa using f))
def BL (x:A4 Ag.args) (v:awf Ag.args x) (k:Ag.pre x):Rh x:=by
 obtain⟨⟨l,i⟩,_⟩:=x;change Int at i;change List Int at l;obtain⟨t,u⟩:0<=i/\i<=(l.length:Int):=k;simp only[Rh,H4];refine⟨⟨by omega,t,u⟩, ?_⟩;rintro⟨f,_⟩ ⟨⟨r,n⟩,_⟩ _ _ h a;change Int at n f;change List Int at r;simp only at h a⊢;obtain⟨rfl,b,c⟩:=a;refine⟨⟨by omega,b,c⟩, ?_⟩;rintro⟨g,_⟩ ⟨⟨s,o⟩,_⟩ _ _ j a;change Int at o g;change List Int at s;simp only at j a⊢;obtain⟨rfl,b,c⟩:=a;refine⟨trivial, ?_⟩;rintro⟨q,_⟩ _ d;simp only at d⊢;rw[wv (by omega),wv (by omega)]at d;exact⟨by rw[d];exact jT (by omega) (by omega) (by omega),by trivial,b,c⟩
def B2x {x:C7} (h:dR x):qs 1 (rv x):=by
 obtain⟨q,a,rfl⟩:=h;rw[H8];exact a
def B2y {x:C7} (h:dR x) {k:Nat} (a:1<=k):sz k x:=by
 obtain⟨q,b,rfl⟩:=h;exact⟨qX b.1 a,qX b.2 a⟩
def Ts (x:A4 O1.args) (aa:awf O1.args x) (Y:O1.pre x):Iu x:=by
 obtain⟨⟨l,t⟩,R,C,_⟩:=x;change Int at t R C;change List Int at l;obtain⟨a7,ab,B,c1,a5,a6⟩:0<=R/\R<=20/\0<=C/\C<=20/\0<=t/\t<=(l.length:Int):=Y;simp only[Iu,iB,H4,mW];refine⟨fun p=>0<=p.2.1/\p.2.1<=R/\(p.1.length:Int)=p.2.1/\(∀v∈p.1,(v.length:Int)=C/\∀e∈v,dR e)/\p.2.2.1=l/\0<=p.2.2.2.1/\p.2.2.2.1<=(l.length:Int),fun p=>(R-p.2.1).toNat,⟨qI _,a7,rfl,fun e a=>(by cases a),rfl,a5,a6⟩, ?_⟩;rintro⟨o,a3,w,Z,_⟩ _ ⟨U,V,W,f,G,n,r⟩;change Int at a3 Z;change List Int at w;change List (List C7)at o;simp only at U V W f G n r⊢;subst G;refine⟨fun h=> ?_,fun h=> ?_⟩
 . have h:=qA h;refine⟨fun p=>0<=p.2.1/\p.2.1<=C/\(p.1.length:Int)=p.2.1/\(∀e∈p.1,dR e)/\p.2.2.1=w/\0<=p.2.2.2.1/\p.2.2.2.1<=(w.length:Int),fun p=>(C-p.2.1).toNat,⟨qI _,B,rfl,fun e a=>(by cases a),rfl,n,r⟩, ?_⟩;rintro⟨a8,a2,y,a0,_⟩ _ ⟨P,Q,T,i,F,j,k⟩;change Int at a2 a0;change List Int at y;change List C7 at a8;simp only at P Q T i F j k⊢;subst F;refine⟨fun h=> ?_,fun h=> ?_⟩
   . have h:=qA h;refine⟨trivial, ?_⟩;rintro⟨ac,_⟩ _ M;simp only at M⊢;refine⟨fun p=>p.1=y/\0<=p.2.1/\p.2.1<=(y.length:Int)/\dR ((p.2.2.1,p.2.2.2.1),p.2.2.2.2.1),⟨⟨by omega,j,k⟩, ?_⟩, ?_⟩
     . rintro⟨b,_⟩ ⟨⟨z,u⟩,_⟩ _ _ s g;change Int at u b;change List Int at z;simp only at s g⊢;obtain⟨rfl,c,d⟩:=g;refine⟨fun _=>⟨⟨c,d⟩, ?_⟩,fun _=> ?_⟩
       . rintro⟨q,_⟩ ⟨⟨a4,a1⟩,_⟩ _ _ I g;change Int at a1;change List Int at a4;simp only at I g⊢;obtain⟨rfl,N,O⟩:=g;exact⟨by trivial,N,O,I⟩
       . exact⟨by trivial,c,d,⟨0,K5 (by decide),M⟩⟩
     . rintro⟨z,u,A,m,a9,_⟩ _ ⟨c,d,D,E⟩;change Int at u;change List Int at z;simp only at c d D E⊢;subst c;rw[wv (by omega)];refine⟨⟨by rw[rA];omega,by rw[rA];omega⟩,⟨by omega,by omega,by rw[rQ,rA];omega,fun e a=> ?_,by trivial,d,D⟩,by omega⟩;rcases qZ.1 a with a|a
       . exact i e a
       . rw[qW.1 a];exact E
   . have h:=qB h;rw[wv (by omega)];refine⟨⟨by rw[rA];omega,by rw[rA];omega⟩,⟨by omega,by omega,by rw[rQ,rA];omega,fun e a=> ?_,by trivial,j,k⟩,by omega⟩;rcases qZ.1 a with a|a
     . exact f e a
     . rw[qW.1 a];exact⟨by omega,i⟩
 . have h:=qB h;refine⟨⟨fun v J=>⟨fun e a=>B2y ((f v J).2 e a) (by decide),(f v J).1⟩,B,by omega,by omega⟩, ?_⟩;rintro⟨m,_⟩ _ H;simp only at H⊢;refine⟨⟨_,fun b A=> ?_,by rw[show R.toNat=o.length from by omega];exact H⟩,by trivial,n,r⟩;by_cases s:b<o.length
   . by_cases X:A<(o.getD b []).length
     . exact B2x ((f _ (E8 s)).2 _ (E8 X))
     . rw[qE (l:=o.getD b []),rU (by omega)];exact K5 (by decide)
   . rw[qE (l:=o),rU (by omega)];exact K5 (by decide)
def Cn:An:= {}
def Cz:An:= {loop:= [(4,⟨[0,1,2,3,8],[],[(9,false,vI)],[],[(0, .row tE 70)]⟩),(1,⟨[0,1,2,3],[],[(8,false,vI)],[],[(0, .row tE 70)]⟩)],plan:= [(4,[8,13],[],false,(pZ9 0 8 (.q 8 (pZ9 9 4 (.q 13 (.e 14 (.p 15 (.p 16 .done)))))))),(6,[9,13],[15,17],true,(pZ9 0 9 (.q 9 (pZ9 10 3 (.q 13 (.p 14 (.e 15 (.p 16 (.e 17 .done)))))))))]}
def Hj:An:= {join:= [(16,⟨[0,1,2,6],[],[],[],[(0, .row tE 70)]⟩)],loop:= [(2,⟨[0,1,2,6],[],[(7,false,vI),(8,false,vI)],[],[(0, .row tE 70)]⟩),(9,⟨[0,1,2,6],[],[(7,false,vI),(8,false,vI)],[],[(0, .row tE 70)]⟩),(7,⟨[0,1,2],[],[(6,false,vI)],[],[(0, .row tE 70)]⟩)]}
def GP:An:= {}
def GO:An:= {join:= [(14,⟨[3,18,19,20],[],[(4,false,vI)],[],[(0, .row tE 70)]⟩)],loop:= [(8,⟨[3,18,19],[],[(4,false,vI),(20,false,vI)],[],[(0, .row tE 70)]⟩)],plan:= [(10,[8,10],[],true,(pZ9 0 8 (.q 8 (.p 9 (.q 10 (.p 11 (.p 12 .done))))))),(11,[8,10],[14],true,(pZ9 0 8 (.q 8 (.p 9 (.q 10 (.e 11 (.p 12 (.p 13 (.e 14 .done)))))))))]}
def Q7:A4 F2.args->Prop:=fun(x:List EE×((EE×EE×Unit->Prop)×(EE×EE×Unit->Int))×Unit)=>let a:=(x.1.length:Int);Go.Proofs.Tryz.prog=Go.Proofs.Tryz.prog/\false=false/\((Xe x.2.1.1 fun(z:OY)=>x.2.1.2 z)/\a=a/\List.length x.1<=20)/\∀(r:Unit) (o:Rc),True->tE.sl.wf o.1/\True->True->o.1.Perm x.1/\Vq (fun(z:OY)=>x.2.1.2 z) o.1->True/\o.1.Perm x.1/\Vq x.2.1.2 o.1
abbrev YB:=Int×List EE×Unit
def R5:A4 F4.args->Prop:=fun(x:List EE×Int×Int×((EE×EE×Unit->Prop)×(EE×EE×Unit->Int))×Unit)=>let h:=(0:Int);let f:=(1:Int);∃(I:YB->Prop),∃(j: _->Nat),I (i64.wrap (x.2.1+f),x.1,())/\∀(p:YB),(Ty.int i64).wf p.1/\AO p.2.1/\True->I p->(iB (decide (p.1<x.2.2.1)) (∃(I_1:YB->Prop),∃(n: _->Nat),I_1 (p.1,p.2.1,())/\∀(m:YB),let k:=m.1.toNat;let i:=(i64.wrap (p.1+f),m.2.1,());let e:Prop:=(x.2.1<m.1);let d:=(i64.wrap (m.1-f));let g:=(List.set m.2.1 k (List.getD m.2.1 d.toNat D6));let c:=(m.2.1.length:Int);let l:Prop:=(h<=m.1/\m.1<c);let b:=(i64.wrap (m.1-f),g.set d.toNat (List.getD m.2.1 k D6),());let a:=(List.getD m.2.1 k D6,List.getD m.2.1 d.toNat D6,());let d:=(decide (x.2.2.2.1.2 a<h));(Ty.int i64).wf m.1/\AO m.2.1/\True->I_1 m->(decide e=true->h<=m.1/\m.1<c)/\(decide e=true->h<=i64.wrap (m.1-f)/\i64.wrap (m.1-f)<c)/\Go.Proofs.Tryz.prog=Go.Proofs.Tryz.prog/\(decide e=true->x.2.2.2.1.1 a)/\((decide e=true->(Ty.int i64).wf (x.2.2.2.1.2 a))->(iB (J5 (decide e) d false) ((h<=i64.wrap (m.1-f)/\i64.wrap (m.1-f)<c)/\l/\l/\(h<=i64.wrap (m.1-f)/\i64.wrap (m.1-f)<(↑g.length:Int))/\I_1 b/\n b<n m) (I i/\j i<j p)))) (True/\List.Perm p.2.1 x.1/\List.take x.2.1.toNat p.2.1=List.take x.2.1.toNat x.1/\List.drop x.2.2.1.toNat p.2.1=List.drop x.2.2.1.toNat x.1/\Vq x.2.2.2.1.2 (List.take (x.2.2.1.toNat-x.2.1.toNat) (List.drop x.2.1.toNat p.2.1))))
abbrev A5t:=Int×Int×List EE×Unit
def Y6:A4 H1.args->Prop:=fun(x:List EE×Int×((EE×EE×Unit->Prop)×(EE×EE×Unit->Int))×Unit)=>let g:=(0:Int);∃(I:A5t->Prop),∃(a: _->Nat),I (g,(20:Int),x.1,())/\∀(p:A5t),let f:=(p.2.2.1.length:Int);let b:=p.1.toNat;(Ty.int i64).wf p.1/\(Ty.int i64).wf p.2.1/\AO p.2.2.1/\True->I p->(iB (decide (p.2.1<=x.2.1)) (Go.Proofs.Tryz.prog=Go.Proofs.Tryz.prog/\false=false/\((Xe x.2.2.1.1 fun(z:OY)=>x.2.2.1.2 z)/\g<=p.1/\p.1<=p.2.1/\p.2.1<=f/\List.length p.2.2.1<=100000)/\∀(r:Unit) (o:Rc),let c:=(p.2.1,i64.wrap (p.2.1+20),o);True->tE.sl.wf o.1/\True->True->o.1.Perm p.2.2.1/\List.take b o.1=List.take b p.2.2.1/\List.drop p.2.1.toNat o.1=List.drop p.2.1.toNat p.2.2.1/\Vq (fun(z:OY)=>x.2.2.1.2 z) (List.take (Int.toNat p.2.1-Int.toNat p.1) (List.drop b o.1))->I c/\a c<a p) (Go.Proofs.Tryz.prog=Go.Proofs.Tryz.prog/\false=false/\((Xe x.2.2.1.1 fun(z:OY)=>x.2.2.1.2 z)/\g<=p.1/\p.1<=x.2.1/\x.2.1<=f/\List.length p.2.2.1<=100000)/\∀(r:Unit) (o:Rc),True->tE.sl.wf o.1/\True->True->o.1.Perm p.2.2.1/\List.take b o.1=List.take b p.2.2.1/\List.drop x.2.1.toNat o.1=List.drop x.2.1.toNat p.2.2.1/\Vq (fun(z:OY)=>x.2.2.1.2 z) (List.take (Int.toNat x.2.1-Int.toNat p.1) (List.drop b o.1))->∃(I:YB->Prop),∃(a: _->Nat),I ((20:Int),o)/\∀(p:YB),(Ty.int i64).wf p.1/\AO p.2.1/\True->I p->(iB (decide (p.1<x.2.1)) (∃(I_1:A5t->Prop),∃(c: _->Nat),I_1 (g,i64.wrap (2*p.1),p.2.1,())/\∀(h:A5t),let e:Prop:=(i64.wrap (h.1+p.1)<x.2.1);(Ty.int i64).wf h.1/\(Ty.int i64).wf h.2.1/\AO h.2.2.1/\True->I_1 h->(iB (decide (h.2.1<=x.2.1)) (Go.Proofs.Tryz.prog=Go.Proofs.Tryz.prog/\false=false/\False/\∀(r:Unit) (o:Rc),let b:=(h.2.1,i64.wrap (h.2.1+i64.wrap (2*p.1)),o);True->tE.sl.wf o.1/\True->True->True->I_1 b/\c b<c h) (∃(J:Rc->Prop),((iB (decide e) (Go.Proofs.Tryz.prog=Go.Proofs.Tryz.prog/\false=false/\False/\∀(r:Unit) (o:Rc),True->tE.sl.wf o.1/\True->True->True->J o) (J (h.2.2.1,()))))/\fX fun i=>let d:=(i64.wrap (p.1*2),i);J i->I d/\a d<a p))) (True/\List.Perm p.2.1 x.1/\Vq x.2.2.1.2 p.2.1))))
def Nh:A4 X9.args->Prop:=fun(x:OY)=>True/\Ef fun r=>r.1=O0 x.1.1 x.2.1.1->r.1=O0 x.1.1 x.2.1.1
def Ng:A4 X8.args->Prop:=fun(x:Rc)=>let i:=(1:Int);let e:=(0:Int);let k:=e.toNat;let d:=(x.1.length:Int);True/\Ml fun r=>r.1=decide (asc x.1)->(iB r.1 ((asc x.1->x.1=x.1)/\(¬asc x.1->asc x.1/\(∀(j:Int),A5 x.1 j=A5 x.1 j)/\List.length x.1<=20/\FV (16777216:Nat) x.1)) ((e<=d/\d<=d/\(↑(64:Nat):Int)*d<=(281474976710656:Int)/\d<=(9223372036854775807:Int))/\∃(b:OY->Prop),∃(a:OY->Int),(∀(y:OY),tE.wf y.1/\tE.wf y.2.1/\True->b y->True/\Ef fun z=>z.1=O0 y.1.1 y.2.1.1->false=false/\z.1=a y)/\(Xe b a/\(Jw (List.replicate d.toNat D6) x.1).length<=(20:Nat))/\∀(s:Unit) (o:Rc),True->tE.sl.wf o.1/\True->True->o.1.Perm (Jw (List.replicate d.toNat D6) x.1)/\Vq a o.1->∃(I:A5t->Prop),∃(n: _->Nat),I (e,e,o)/\∀(p:A5t),let m:Prop:=(p.2.1<(↑o.1.length:Int));let l:=(i64.wrap (p.1-i));let g:=p.1.toNat;let c:=(p.2.2.1.length:Int);let f:Prop:=(e<=i64.wrap (p.1-i)/\i64.wrap (p.1-i)<c);let b:=(List.getD p.2.2.1 p.2.1.toNat D6);let a:=(List.getD p.2.2.1 l.toNat D6);let d:=(decide (a.1=b.1));(Ty.int i64).wf p.1/\(Ty.int i64).wf p.2.1/\AO p.2.2.1/\True->I p->(iB (decide m) (∃(J:YB->Prop),((e<=p.2.1/\p.2.1<c)/\(decide (e<p.1)=true->e<=i64.wrap (p.1-i)/\i64.wrap (p.1-i)<c)/\(iB (J5 (decide (e<p.1)) d false) (f/\(D9 a.2/\D9 b.2)/\H4 fun r=>r.1=rc (rv a.2+rv b.2)->f/\J (p.1,List.set p.2.2.1 l.toNat (a.1,r.1),())) ((e<=p.1/\p.1<c)/\J (i64.wrap (p.1+i),List.set p.2.2.1 g b,()))))/\∀(q:YB),let h:=(q.1,i64.wrap (p.2.1+i),q.2.1,());(Ty.int i64).wf q.1/\AO q.2.1/\True->J q->I h/\n h<n p) ((e<=e/\e<=p.1/\p.1<=c)/\(asc x.1->List.drop k (List.take g p.2.2.1)=x.1)/\(¬asc x.1->asc (List.drop k (List.take g p.2.2.1))/\(∀(j:Int),A5 (List.drop k (List.take g p.2.2.1)) j=A5 x.1 j)/\(List.drop k (List.take g p.2.2.1)).length<=(20:Nat)/\FV (16777216:Nat) (List.drop k (List.take g p.2.2.1)))))))
def RJ {a b:List D1} (h:a.Perm b) (j:Int):A5 a j=A5 b j:=by
 induction h with
 |nil=>rfl
 |cons e _ c=>rw[A5,A5,c]
 |swap e f l=>simp only[A5];rw[<-g0b, <-g0b,g2e (if f.1=j then rv f.2 else 0)]
 |trans _ _ c d=>rw[c,d]
def RI (e:D1) (j:Int):A5 [e] j=if e.1=j then rv e.2 else 0:=by
 simp only[A5,rL]
structure JP (o:List D1) (n i:Int) (c:List D1):Prop where
 n0:0<=n
 ni:n<=i
 il:i<=(o.length:Int)
 cl:c.length=o.length
 rest:∀j:Nat,i.toNat<=j->c.getD j D6=o.getD j D6
 ord:asc (c.take n.toNat)
 cm:∀j,A5 (c.take n.toNat) j=A5 (o.take i.toNat) j
 le:∀e∈c.take n.toNat,∃y∈o.take i.toNat,y.1=e.1
 szs:∀e∈c.take n.toNat,sz (65537*i.toNat) e.2/\Xa e.2
def JP.init (o:List D1):JP o 0 0 o:=⟨qI _,qI _,qF _,rfl,fun _ _=>rfl,List.Pairwise.nil,fun _=>rfl,fun e a=>(by cases a),fun e a=>(by cases a)⟩
def CL {α:Type} {l:List α} {k:Nat} {x:α} (h:k<l.length):(l.set k x).take (k+1)=l.take k++ [x]:=by
 rw[rR,yW (qR k),sF h];rfl
def Tp {α:Type} {l:List α} {k:Nat} (d:α) (h:k<l.length):l.take (k+1)=l.take k++ [l.getD k d]:=by
 rw[rR,qS h,Q3 _ _ h];rfl
variable {o c:List D1} {n i:Int}
def JP.bound (h:JP o n i c) (j:o.Pairwise fun a b=>a.1<=b.1) (r:i<(o.length:Int)):∀e∈c.take n.toNat,e.1<=(o.getD i.toNat D6).1:=fun e f=>by
 obtain⟨y,k,d⟩:=h.le e f;obtain⟨l,g,rfl⟩:=vV.1 k;rw[qY]at g;rw[g1f]at d;have s:=h.n0;have t:=h.ni;have:=tZ.1 j l i.toNat (by omega) (by omega) (by omega);rw[Q3 _ _ (show i.toNat<o.length by omega), <-d];exact this
def JP.push (h:JP o n i c) (D:o.Pairwise fun a b=>a.1<=b.1) (G:FV 65536 o) (y:EC o) (w:i<(o.length:Int)) (r:0<n->(c.getD (n-1).toNat D6).1≠(o.getD i.toNat D6).1):JP o (n+1) (i+1) (c.set n.toNat (o.getD i.toNat D6)):=by
 have A:=h.n0;have N:=h.ni;have v:=h.cl;have k:=h.bound D w;have f:(c.set n.toNat (o.getD i.toNat D6)).take (n+1).toNat=c.take n.toNat++ [o.getD i.toNat D6]:=by
  rw[show(n+1).toNat=n.toNat+1 from by omega];exact CL (by omega)
 have s:o.take (i+1).toNat=o.take i.toNat++ [o.getD i.toNat D6]:=by
  rw[show(i+1).toNat=i.toNat+1 from by omega];exact Tp D6 (by omega)
 have z:∀e∈c.take n.toNat,e.1<(o.getD i.toNat D6).1:=fun e d=>by
  have I:=k e d;have B:0<n:=by
   rcases g3s A with g|g
   . exact g
   . rw[<-g]at d;cases d
  have x:(n-1).toNat<c.length:=by omega
  have t:c.take n.toNat=c.take (n-1).toNat++ [c.getD (n-1).toNat D6]:=by
   rw[show n.toNat=(n-1).toNat+1 from by omega];exact Tp D6 x
  have M:=k (c.getD (n-1).toNat D6) (by rw[t];simp);have r:=r B;have j:=h.ord;rw[t]at d j;rcases qZ.1 d with d|d
  . have:=(tA.1 j).2.2 e d _ (qW.2 rfl);omega
  . rw[qW]at d;subst d;omega
 have l:o.getD i.toNat D6∈o:=E8 (by omega);refine⟨by omega,by omega,by omega,by rw[qP];exact v,fun u J=> ?_, ?_,fun u=> ?_,fun e d=> ?_,fun e d=> ?_⟩
 . rw[qE,sQ (by omega), <-qE];exact h.rest u (by omega)
 . rw[f];exact iE h.ord z
 . rw[f,s,O7,O7,h.cm]
 . rw[f]at d;rw[s];rcases qZ.1 d with d|d
   . obtain⟨H,E,F⟩:=h.le e d;exact⟨H,sK _ E,F⟩
   . rw[qW]at d;subst d;exact⟨_,tH _ (qW.2 rfl),rfl⟩
 . rw[f]at d;rcases qZ.1 d with d|d
   . exact⟨G7 (h.szs e d).1 (by omega),(h.szs e d).2⟩
   . rw[qW]at d;subst d;exact⟨G7 (G _ l) (by omega),y _ l⟩
def JP.add (h:JP o n i c) (O:FV 65536 o) (G:EC o) (W:i<(o.length:Int)) (Z:0<n) (r:(c.getD (n-1).toNat D6).1=(o.getD i.toNat D6).1):sz (65537*i.toNat) (c.getD (n-1).toNat D6).2/\sz 65536 (o.getD i.toNat D6).2/\JP o n (i+1) (c.set (n-1).toNat ((c.getD (n-1).toNat D6).1,rc (rv (c.getD (n-1).toNat D6).2+rv (o.getD i.toNat D6).2))):=by
 have a0:=h.ni;have F:=h.cl;have s:(n-1).toNat<c.length:=by omega
 have w:c.take n.toNat=c.take (n-1).toNat++ [c.getD (n-1).toNat D6]:=by
  rw[show n.toNat=(n-1).toNat+1 from by omega];exact Tp D6 s
 have v:o.take (i+1).toNat=o.take i.toNat++ [o.getD i.toNat D6]:=by
  rw[show(i+1).toNat=i.toNat+1 from by omega];exact Tp D6 (by omega)
 have H:c.getD (n-1).toNat D6∈c.take n.toNat:=by rw[w];simp
 have u:o.getD i.toNat D6∈o:=E8 (by omega);obtain⟨A,T⟩:=h.szs _ H;have B:=O _ u;have U:=G _ u;refine⟨A,B, ?_⟩;have j:=h.ord;have l:=h.cm;have t:=h.le;have f:=h.szs;rw[w]at j l t f;have J:=h.rest;generalize Y:c.getD (n-1).toNat D6=z at*;generalize o.getD i.toNat D6=g at*;have d:∀x:D1,(c.set (n-1).toNat x).take n.toNat=c.take (n-1).toNat++ [x]:=fun x=>by
  rw[show n.toNat=(n-1).toNat+1 from by omega];exact CL s
 obtain⟨P,a1,Q⟩:=tA.1 j;have I:qs (65537*(i+1).toNat) (rv z.2+rv g.2):=by
  have a:1<=i.toNat:=by omega
  exact F8 (US (Qa T A (by omega)) (Qa U B (by decide))) (by omega)
 refine⟨h.n0,by omega,by omega,by rw[qP];exact F,fun y X=> ?_, ?_,fun y=> ?_,fun e b=> ?_,fun e b=> ?_⟩
 . rw[qE,sQ (by omega), <-qE];exact J y (by omega)
 . rw[d];exact tA.2 ⟨P,wS _ _,fun D E V k=>by rw[qW]at k;subst k;exact Q D E z (qW.2 rfl)⟩
 . rw[d,v,O7,O7, <-l,O7,RI,RI,RI];simp only;rw[H8,r,g0b];congr 1;split
   . rfl
   . rw[rL]
 . rw[d]at b;rw[v];rcases qZ.1 b with a|a
   . obtain⟨R,M,N⟩:=t e (sK _ a);exact⟨R,sK _ M,N⟩
   . rw[qW]at a;subst a;exact⟨g,tH _ (qW.2 rfl),r.symm⟩
 . rw[d]at b;rcases qZ.1 b with a|a
   . exact⟨G7 (f e (sK _ a)).1 (by omega),(f e (sK _ a)).2⟩
   . rw[qW]at a;subst a;exact⟨Xu I,A1z _⟩
def Zf (x:A4 X9.args) (a:awf X9.args x) (_:X9.pre x):Nh x:=by
 simp only[Nh,Ef];exact⟨trivial,fun r _ h=>h⟩
def Bl (x:A4 F4.args) (a1:awf F4.args x) (P:F4.pre x):R5 x:=by
 obtain⟨l,a,b,⟨T,g⟩,_⟩:=x;change List (Int×(Bool×List Int)×List Int)at l;change Int at a b;obtain⟨⟨O,R,N⟩,V,W,X,Z⟩:Xe T g/\0<=a/\a<=b/\b<=(l.length:Int)/\l.length<=100000:=P;simp only[R5,iB];have Q:∀x y z:D1,¬g (y,x,())<0->¬g (z,y,())<0->¬g (z,x,())<0:=fun x y z v f=>R z y x f v
 refine⟨fun p=>a+1<=p.1/\(p.1<=b\/p.1=a+1)/\p.2.1.Perm l/\p.2.1.take a.toNat=l.take a.toNat/\p.2.1.drop b.toNat=l.drop b.toNat/\(∀s t,a.toNat<=s->s<t->t<p.1.toNat->t<b.toNat->¬g (p.2.1.getD t D6,p.2.1.getD s D6,())<0),fun p=>(b-p.1).toNat, ?_, ?_⟩
 . rw[wv (by omega)];refine⟨qI _, .inr rfl,wP _,rfl,rfl,fun s t v f k w=> ?_⟩;change t<(a+1).toNat at k;omega
 rintro⟨i,m,_⟩ _ ⟨M,v,f,k,w,E⟩;change Int at i;change List (Int×(Bool×List Int)×List Int)at m;simp only at M v f k w E⊢;have a0:=f.length_eq;refine⟨fun h=> ?_,fun h=> ?_⟩
 . have h:=qA h;refine⟨fun p=>a<=p.1/\p.1<=i/\p.2.1.Perm l/\p.2.1.take a.toNat=l.take a.toNat/\p.2.1.drop b.toNat=l.drop b.toNat/\A8q (fun x y=>¬g (y,x,())<0) D6 p.2.1 a.toNat i.toNat p.1.toNat,fun p=>(p.1-a).toNat,⟨by show a<=i;omega,qI _,f,k,w,oP fun s t n o r=>E s t n o r (by omega)⟩, ?_⟩;rintro⟨j,y,_⟩ _ ⟨I,J,u,A,B,D⟩;change Int at j;change List (Int×(Bool×List Int)×List Int)at y;simp only at I J u A B D⊢;have a2:=u.length_eq;have H:i64.wrap (j-1)=j-1:=wv (by omega);rw[H];have G:(j-1).toNat=j.toNat-1:=by omega
   rw[G];refine⟨fun F=>⟨by omega,by omega⟩,fun F=> ?_,trivial,fun _=>O _ _,fun _=>⟨fun c=> ?_,fun c=> ?_⟩⟩
   . have F:=qA F;exact⟨by omega,by omega⟩
   . rw[H9]at c;simp only[qC,rS]at c;obtain⟨a4,U⟩:=c;refine⟨⟨by omega,by omega⟩,⟨by omega,by omega⟩,⟨by omega,by omega⟩,⟨by omega,by rw[qP];omega⟩,⟨by omega,by omega, ?_, ?_, ?_, ?_⟩,by omega⟩
     . exact(A0k (d:=D6) (l:=y) (j:=j.toNat) (by omega)).trans u
     . exact(A0l (d:=D6) (l:=y) (by omega)).trans A
     . exact(A0j (d:=D6) (l:=y) (by omega)).trans B
     . exact A4e D (by omega) (by omega) (by omega) (N _ _ U)
   . rw[H9]at c;simp only[wG,rP]at c;rw[wv (by omega)];refine⟨⟨by omega, .inl (by omega),u,A,B,fun s t n o r a3=> ?_⟩,by omega⟩;refine A8r D Q (by omega) (fun Y=> ?_) s t n o (by change t<(i+1).toNat at r;omega);rcases c with c|c
     . omega
     . exact c
 . have h:=qB h;refine⟨trivial,f,k,w, ?_⟩;unfold Vq;have:=UP (q:=fun x y=>¬g (y,x,())<0) (d:=D6) (l:=m) (a:=a.toNat) (b:=b.toNat) (by omega) fun s t n o r=>E s t n o (by omega) r
   exact this
def Ga (x:A4 H1.args) (O:awf H1.args x) (j:H1.pre x):Y6 x:=by
 obtain⟨l,n,⟨G,c⟩,_⟩:=x;change List (Int×(Bool×List Int)×List Int)at l;change Int at n;obtain⟨u,N,J⟩:Xe G c/\n=(l.length:Int)/\l.length<=20:=j;simp only[Y6,iB,fX];refine⟨fun p=>(p.1=0/\p.2.1=20/\p.2.2.1=l)\/(p.1=20/\p.2.1=40/\n=20/\p.2.2.1.Perm l/\Vq c p.2.2.1),fun p=>(40-p.2.1).toNat, .inl ⟨rfl,rfl,rfl⟩, ?_⟩;rintro⟨b,r,m,_⟩ _ i;change Int at b r;change List (Int×(Bool×List Int)×List Int)at m;simp only at i⊢;refine⟨fun h=> ?_,fun h=> ?_⟩
 . have h:=qA h;obtain⟨rfl,rfl,rfl⟩:b=0/\r=20/\m=l:=by
    rcases i with s| ⟨_,s,_⟩
    . exact s
    . omega
   refine⟨trivial,trivial,⟨u,qI _,by omega,by omega,by omega⟩, ?_⟩;rintro H ⟨o,_⟩ _ _ _ ⟨d,f,k,a⟩;simp only at d f k a⊢;rw[wv (by omega)];refine⟨.inr ⟨by trivial,by trivial,by omega,d, ?_⟩,by simp⟩;have B:=d.length_eq;change Vq c ((o.drop 0).take (20-0))at a;rw[tW,qQ (by omega)]at a;exact a
 . have h:=qB h;have A:0<=b/\b<=n/\m.Perm l/\(b=0\/b=n/\Vq c m):=by
    rcases i with⟨rfl,rfl,rfl⟩ | ⟨rfl,rfl,I,j,s⟩
    . exact⟨qI _,by omega,wP _, .inl rfl⟩
    . exact⟨by decide,by omega,j, .inr ⟨by omega,s⟩⟩
   obtain⟨E,F,z,g⟩:=A;have M:=z.length_eq;refine⟨trivial,trivial,⟨u,E,F,by omega,by omega⟩, ?_⟩;rintro H ⟨o,_⟩ _ _ _ ⟨d,f,k,a⟩;simp only at d f k a⊢;have B:=d.length_eq;have D:Vq c o:=by
    rcases g with g| ⟨g,s⟩
    . change Vq c ((o.drop b.toNat).take (n.toNat-b.toNat))at a;rw[g]at a;change Vq c ((o.drop 0).take (n.toNat-0))at a;rw[tW,qQ (by omega)]at a;exact a
    . rw[qQ (by omega),qQ (by omega)]at f;rw[f];exact s
   refine⟨fun p=>p.1=20/\p.2.1.Perm l/\Vq c p.2.1,fun _=>0,⟨rfl,d.trans z,D⟩, ?_⟩;rintro⟨P,Q,_⟩ _ ⟨v,w,y⟩;simp only at v w y⊢;subst v;refine⟨fun t=> ?_,fun _=>⟨trivial,w,y⟩⟩;have t:=qA t;omega
def Bc (x:A4 F2.args) (g:awf F2.args x) (c:F2.pre x):Q7 x:=by
 obtain⟨l,⟨d,f⟩,_⟩:=x;obtain⟨b,a⟩:Xe d f/\l.length<=20:=c;simp only[Q7];refine⟨trivial,trivial,⟨b,trivial,a⟩, ?_⟩;rintro r ⟨o,_⟩ _ _ _ h;exact⟨trivial,h⟩
def kX:Xe (fun _=>True) (fun z=>O0 z.1.1 z.2.1.1):=by
 refine⟨fun _ _=>trivial,fun a b c=> ?_,fun a b=> ?_⟩
 . simp only[O0];split<;>split<;>split<;>(try split)<;>(try split)<;>(try split)<;>omega
 . simp only[O0];split<;>split<;>(try split)<;>(try split)<;>omega
def A6z {a b:Int} :¬O0 a b<0↔b<=a:=by
 unfold O0;split
 . omega
 . split<;>omega
def Ze (x:A4 X8.args) (V:awf X8.args x) (r:X8.pre x):Ng x:=by
 obtain⟨t,_⟩:=x;have Q:EC t:=AA V.1.2;change List D1 at t;have r:ZA t:=r;simp only[Ng,iB,Ef,H4,Ml];refine⟨trivial, ?_⟩;rintro⟨X,_⟩ _ B;simp only at B⊢;subst B;refine⟨fun h=>⟨fun _=>by trivial,fun u=>absurd (qA h) u⟩,fun h=> ?_⟩;have w:=qB h;obtain⟨P,s⟩:=r.resolve_left w;refine⟨⟨by omega,by omega,by omega,by omega⟩,fun _=>True,fun z=>O0 z.1.1 z.2.1.1, ?_,⟨kX, ?_⟩, ?_⟩
 . rintro⟨k,l,_⟩ _ _;refine⟨trivial, ?_⟩;rintro⟨z,_⟩ _ s;exact⟨(by trivial),s⟩
 . rw[KD];exact P
 rintro X ⟨o,_⟩ _ _ _ ⟨j,E⟩;change List D1 at o;simp only[KD]at j E⊢;have a4:=j.length_eq;have U:o.Pairwise fun k l=>k.1<=l.1:=E.imp fun {k l} b=>A6z.1 b
 have D:FV 65536 o:=fun e f=>s e (j.mem_iff.1 f)
 have v:EC o:=fun e f=>Q e (j.mem_iff.1 f)
 refine⟨fun p=>JP o p.1 p.2.1 p.2.2.1,fun p=>((o.length:Int)-p.2.1).toNat,JP.init o, ?_⟩;rintro⟨n,i,c,_⟩ _ a;change Int at n i;change List D1 at c;simp only at a⊢;have I:=a.n0;have a2:=a.ni;have u:=a.il;have N:=a.cl;have g:(c.length:Int)=(o.length:Int):=by rw[N]
 refine⟨fun d=> ?_,fun d=> ?_⟩
 . have d:=qA d;have M:c.getD i.toNat D6=o.getD i.toNat D6:=a.rest _ (qR _);have O:0<=i/\i<(c.length:Int):=⟨by omega,by rw[g];exact d⟩;have R:i64.wrap (n-1)=n-1:=wv (by omega);rw[R,M];refine⟨fun p=>JP o p.1 (i+1) p.2.1,⟨O,fun b=> ?_,fun b=> ?_,fun b=> ?_⟩, ?_⟩
   . have b:=qA b;exact⟨by omega,by rw[g];omega⟩
   . rw[H9]at b;simp only[qC,rS]at b;obtain⟨G,H⟩:=b;have y:0<=n-1/\n-1<(c.length:Int):=⟨by omega,by rw[g];omega⟩;obtain⟨Y,Z,a0⟩:=a.add D v d G H;refine⟨y,⟨Z7 (G7 Y (show 65537*i.toNat<=2199023255552 by omega)) (qR _),Z7 Z (by decide)⟩, ?_⟩;rintro⟨q,_⟩ _ A;change C7 at q;simp only at A⊢;rw[A];exact⟨y,a0⟩
   . have T:0<n->(c.getD (n-1).toNat D6).1≠(o.getD i.toNat D6).1:=fun hn f=>by
      rw[H9,rH hn,rH f]at b;cases b
     rw[wv (by omega)];exact⟨⟨by omega,by rw[g];omega⟩,a.push U D v d T⟩
   . rintro⟨a5,a1,_⟩ _ J;simp only;rw[wv (by omega)];exact⟨J,by omega⟩
 . have d:=qB d;have a3:i=(o.length:Int):=by omega
   refine⟨⟨qI _,I,by rw[g];omega⟩,fun h=>absurd h w,fun _=> ?_⟩;have F:List.drop (Int.toNat 0) (List.take n.toNat c)=c.take n.toNat:=rfl;rw[F];refine⟨a.ord,fun W=> ?_, ?_,fun e f=>G7 (a.szs e f).1 (by omega)⟩
   . rw[a.cm,H2 (by omega)];exact RJ j W
   . rw[qY];omega
def GN:An:= {loop:= [(5,⟨[1,6,14,15],[],[(16,false,vI)],[],[(0, .row tE 70)]⟩)]}
def Nf:A4 O3.args->Prop:=fun(x:List EE×List Int×Unit)=>let h:=(0:Int);let g:=(x.2.1.length:Int);let d:=(↑x.2.1.length:Int);let e:Prop:=(∀(j:Int),A5 x.1 j≠(0:Rat)->h<=j/\j<d);List.length x.2.1<=100000/\Ml fun r=>r.1=decide (G5 x.2.1 g)->(iB ((!r.1)) (G5 x.2.1 d->e->JO (fun(i:Int)=>if h<=i/\i<d then A5 x.1 (↑(List.idxOf i x.2.1):Int)else(0:Rat)) []/\false=true) (Kc x.1/\fX fun n=>JO (A5 x.1) n.1->∃(I:YB->Prop),∃(μ: _->Nat),I (h,n)/\∀(p:YB),let l:Prop:=(p.1<(n.1.length:Int));let k:Prop:=(h<=p.1/\p.1<(p.2.1.length:Int));let c:=(List.getD p.2.1 p.1.toNat D6);let m:=(decide (g<=c.1));let f:=(i64.wrap (p.1+1),List.set p.2.1 p.1.toNat (gx h x.2.1 c.1,c.2),());(Ty.int i64).wf p.1/\AO p.2.1/\True->I p->(iB (decide l) (k/\(iB (J5 (decide (c.1<h)) true m) (G5 x.2.1 d->e->JO (fun(i:Int)=>if h<=i/\i<d then A5 x.1 (↑(List.idxOf i x.2.1):Int)else(0:Rat)) []/\false=true) ((h<=c.1/\c.1<g)/\k/\I f/\μ f<μ p))) (List.length p.2.1<=100000/\∀(l':List EE),tE.sl.wf l'->l'.Perm p.2.1->List.Pairwise (fun(a b:Int×(Bool×List Int)×List Int)=>¬O0 b.1 a.1<h) l'->G5 x.2.1 d->e->JO (fun(i:Int)=>if h<=i/\i<d then A5 x.1 (↑(List.idxOf i x.2.1):Int)else(0:Rat)) l'/\true=true))))
abbrev R0:=List (Int×Bool)
def keys (es:R0):List Int:=es.map fun e=>e.1
def aB (k:Int) (v:Bool) (es:R0):(keys es).Nodup->(keys (Ev (.int .i64) k v es)).Nodup/\∀i,i∈keys (Ev (.int .i64) k v es)↔i=k\/i∈keys es:=by
 intro h;unfold keys at*;rw[KX];by_cases a:k∈es.map fun e=>e.1
 . rw[qL a];exact⟨h,fun i=>⟨.inr,fun f=>f.elim (fun e=>e▸a) id⟩⟩
 . rw[qH a];refine⟨tK.2 ⟨h,by simp,fun g c j b d=> ?_⟩,fun i=> ?_⟩
   . rw[qW]at b;exact a (b▸d▸c)
   . rw[qZ,qW];exact Or.comm
def aA (k:Int):∀(es:R0),(keys es).Nodup->(keys (Ns (.int .i64) k es)).Nodup/\∀i,i∈keys (Ns (.int .i64) k es)↔i≠k/\i∈keys es
 | [],h=>⟨h,fun i=>⟨fun a=>(by cases a),fun a=>(by cases a.2)⟩⟩
 |x::r,h=>by
  have d:=sJ.1 (show(x.1::keys r).Nodup from h);have e:Ns (.int .i64) k (x::r)=if k=x.1 then r else x::Ns (.int .i64) k r:=by
   rw[Ns,Je];by_cases b:k=x.1
   . rw[qL b,rH b];rfl
   . rw[qH b,rD b];rfl
  rw[e];by_cases b:k=x.1
  . rw[qL b];refine⟨d.2,fun i=>⟨fun a=>⟨fun e=>d.1 (by rw[<-b, <-e];exact a),qK _ a⟩,fun a=> ?_⟩⟩;exact(qU.1 (show i∈x.1::keys r from a.2)).resolve_left fun e=>a.1 (by rw[e,b])
  . rw[qH b];obtain⟨g,c⟩:=aA k r d.2;refine⟨sJ.2 ⟨fun l=>d.1 ((c _).1 l).2,g⟩,fun i=> ?_⟩;constructor
    . intro a;rcases qU.1 (show i∈x.1::keys (Ns (.int .i64) k r)from a)with rfl|a
      . exact⟨fun e=>b e.symm,rJ⟩
      . exact⟨((c i).1 a).1,qK _ ((c i).1 a).2⟩
    . rintro⟨j,f⟩;rcases qU.1 (show i∈x.1::keys r from f)with rfl|f
      . exact rJ
      . exact qK _ ((c i).2 ⟨j,f⟩)
def T4 (rows:List (List D1)) (i j:Nat):Rat:=A5 (rows.getD i []) (j:Int)
def B5q (n k:Nat) (p:Nat->Nat) (R:Nat->Nat->Rat) (j:Nat) (es:R0):Prop:=(keys es).Nodup/\∀i:Int,i∈keys es↔0<=i/\i<(n:Int)/\(∀a,a<k->i.toNat≠p a)/\R i.toNat j≠0
structure EI (n k:Nat) (S:Nat->Nat) (A:Nat->Nat->Rat) (rest P Q place:List Int) (rows lower:List (List D1)) (cols:List R0):Prop where
 elim:Uw n k A (ix P) (ix Q) (T4 rows) (T4 lower)
 lP:P.length=n
 lQ:Q.length=n
 lpl:place.length=n
 lrows:rows.length=n
 llow:lower.length=n
 lcols:cols.length=n
 P0:∀a,a<k->P.getD a 0=(ix P a:Int)
 Q0:∀a,a<k->Q.getD a 0=(ix Q a:Int)
 pl:∀a,a<k->place.getD (ix Q a) 0=(a:Int)
 rnd:rest.Nodup
 rmem:∀c:Int,c∈rest↔0<=c/\c<(n:Int)/\∀a,a<k->c.toNat≠ix Q a
 can:∀i,i<n->T2 (rows.getD i [])/\(∀e∈rows.getD i [],0<=e.1/\e.1<(n:Int))/\∀j,qs (S k) (A5 (rows.getD i []) j)
 lcan:∀i,i<n->T2 (lower.getD i [])/\(∀e∈lower.getD i [],0<=e.1/\e.1<(k:Int))
 lq:∀i,i<n->∀j,qs (S k) (A5 (lower.getD i []) j)
 fin:∀a,a<k->∀j,qs (S a) (A5 (rows.getD (ix P a) []) j)
 col:∀j:Int,j∈rest->B5q n k (ix P) (T4 rows) j.toNat (cols.getD j.toNat [])
def Aq {P:List Int} {k m:Nat} {v:Int} (h:m≠k):ix (P.set k v) m=ix P m:=by
 unfold ix;rw[qE,sQ (Ne.symm h), <-qE]
def E9 {α:Type} {l:List α} {d v:α} {k m:Nat} (h:m≠k):(l.set k v).getD m d=l.getD m d:=by
 rw[qE,sQ (Ne.symm h), <-qE]
def C1 {α:Type} {l:List α} {d v:α} {k:Nat} (h:k<l.length):(l.set k v).getD k d=v:=by
 rw[qE,sF h];rfl
def Nr {P:List Int} {k:Nat} {v:Int} (h:k<P.length):ix (P.set k v) k=v.toNat:=by
 unfold ix;rw[C1 h]
variable {n k:Nat} {S:Nat->Nat} {A:Nat->Nat->Rat} {rest P Q place:List Int} {rows lower:List (List D1)} {cols:List R0}
def Vg (k:Nat) (p:Nat->Nat) (R:Nat->Nat->Rat) (r c i:Nat):Rat:=if i=r\/∃a,a<k/\i=p a then 0 else R i c/R r c
def A7t {p:Nat->Nat} {R:Nat->Nat->Rat} {r c:Nat} :Vg k p R r c r=0:=qL (.inl rfl)
def A7s {p:Nat->Nat} {R:Nat->Nat->Rat} {r c a:Nat} (h:a<k):Vg k p R r c (p a)=0:=qL (.inr ⟨a,h,rfl⟩)
def SD {p:Nat->Nat} {R:Nat->Nat->Rat} {r c i:Nat} (b:i≠r) (d:∀a,a<k->i≠p a):Vg k p R r c i=R i c/R r c:=qH fun f=>f.elim b fun⟨a,ha,e⟩=>d a ha e
def EI.step (h:EI n k S A rest P Q place rows lower cols) {r c:Int} (M:c∈rest) (Y:r∈keys (cols.getD c.toNat [])) {z:List Int} {t v:List (List D1)} {E:List R0}
 (a4:z.Nodup) (a5:∀x,x∈z↔x∈rest/\x≠c) (a0:t.length=n) (a1:v.length=n) (a2:E.length=n)
 (w:∀i,i<n->T2 (t.getD i [])/\(∀e∈t.getD i [],0<=e.1/\e.1<(n:Int))/\(∀j,qs (S (k+1)) (A5 (t.getD i []) j))/\∀j,A5 (t.getD i []) j=A5 (rows.getD i []) j-Vg k (ix P) (T4 rows) r.toNat c.toNat i*A5 (rows.getD r.toNat []) j)
 (G:∀i,i<n->v.getD i []=if Vg k (ix P) (T4 rows) r.toNat c.toNat i=0 then lower.getD i []else lower.getD i []++ [((k:Int),rc (Vg k (ix P) (T4 rows) r.toNat c.toNat i))])
 (Z:S k<=S (k+1)) (a9:∀i,i<n->qs (S (k+1)) (Vg k (ix P) (T4 rows) r.toNat c.toNat i))
 (a8:∀j:Int,j∈z->B5q n (k+1) (ix (P.set k r)) (T4 t) j.toNat (E.getD j.toNat [])):
 EI n (k+1) S A z (P.set k r) (Q.set k c) (place.set c.toNat k) t v E:=by
 obtain⟨aa,c1,D⟩:=(h.rmem c).1 M;obtain⟨ab,X⟩:=h.col c M;obtain⟨ac,ad,a6,a7⟩:=(X r).1 Y;have o:k<n:=by
  rcases sD k n with N|N
  . exact N
  . obtain⟨a,l,e⟩:=W2 (n:=n) (q:=ix Q) (fun a l=>h.elim.qlt a (by omega)) (fun a b l hb=>h.elim.qinj a b (by omega) (by omega)) (show c.toNat<n by omega);exact absurd e.symm (D a (by omega))
 have y:∀m,m<k->m≠k:=fun m s=>tX s
 have R:∀i,i<n->∀m:Nat,T4 v i m=T4 lower i m+if m=k then Vg k (ix P) (T4 rows) r.toNat c.toNat i else 0:=fun i d m=>by
  show A5 (v.getD i []) (m:Int)=A5 (lower.getD i []) (m:Int)+ _;rw[G i d];by_cases u:Vg k (ix P) (T4 rows) r.toNat c.toNat i=0
  . rw[qL u,u];split<;>rw[rL]
  . rw[qH u,Jm];congr 1;by_cases s:m=k
    . subst s;rw[qL rfl,qL rfl]
    . rw[qH s,qH (by omega)]
 have a3:∀i,i<n->T4 lower i k=0:=fun i d=>D2 fun e f W=>by
  have:=(h.lcan i d).2 e f;omega
 refine⟨h.elim.step (r:=r.toNat) (c:=c.toNat) (fac:=Vg k (ix P) (T4 rows) r.toNat c.toNat) o (by omega) (by omega) a6 D a7 (fun m s=>Aq (y m s)) (Nr (by rw[h.lP];exact o)) (fun m s=>Aq (y m s)) (Nr (by rw[h.lQ];exact o)) (fun i _ U V=>SD U V) A7t (fun a l=>A7s l) (fun i j d _=>(w i d).2.2.2 j) (fun i m d s=> ?_) (fun i d=> ?_), ?_, ?_, ?_,a0,a1,a2,fun a l=> ?_,fun a l=> ?_,fun a l=> ?_,a4,fun x=> ?_,fun i d=>⟨(w i d).1,(w i d).2.1,(w i d).2.2.1⟩,fun i d=> ?_,fun i d j=> ?_,fun a l j=> ?_,a8⟩
 . rw[R i d,qH (y m s),rL]
 . rw[R i d,qL rfl,a3 i d,sV]
 . rw[qP];exact h.lP
 . rw[qP];exact h.lQ
 . rw[qP];exact h.lpl
 . by_cases g:a=k
   . subst g;rw[C1 (by rw[h.lP];exact o),Nr (by rw[h.lP];exact o)];omega
   . rw[E9 g,Aq g];exact h.P0 a (by omega)
 . by_cases g:a=k
   . subst g;rw[C1 (by rw[h.lQ];exact o),Nr (by rw[h.lQ];exact o)];omega
   . rw[E9 g,Aq g];exact h.Q0 a (by omega)
 . by_cases g:a=k
   . subst g;rw[Nr (by rw[h.lQ];exact o),C1 (by rw[h.lpl];omega)]
   . rw[Aq g,E9 (fun e=>D a (by omega) e.symm)];exact h.pl a (by omega)
 . rw[a5,h.rmem];constructor
   . rintro⟨⟨H,I,B⟩,ae⟩;refine⟨H,I,fun a l=> ?_⟩;by_cases g:a=k
     . subst g;rw[Nr (by rw[h.lQ];exact o)];omega
     . rw[Aq g];exact B a (by omega)
   . rintro⟨H,I,B⟩;refine⟨⟨H,I,fun a l=>by have:=B a (by omega);rwa[Aq (y a l)]at this⟩,fun e=> ?_⟩;have:=B k (rN _);rw[Nr (by rw[h.lQ];exact o),e]at this;exact this rfl
 . rw[G i d];obtain⟨J,F⟩:=h.lcan i d;split
   . exact⟨J,fun e f=>by have:=F e f;omega⟩
   . rename_i u;refine⟨Pb J u fun e f=>(F e f).2,fun e f=> ?_⟩;rcases qZ.1 f with f|f
     . have:=F e f;omega
     . rw[qW]at f;subst f;simp only;omega
 . rw[G i d];have T:=F8 (h.lq i d j) Z;split
   . exact T
   . rw[Jm];by_cases O:(k:Int)=j
     . rw[qL O,D2 fun e f W=>by have:=(h.lcan i d).2 e f;omega,sV];exact a9 i d
     . rw[qH O,rL];exact T
 . have f:∀i,i<n->Vg k (ix P) (T4 rows) r.toNat c.toNat i=0->A5 (t.getD i []) j=A5 (rows.getD i []) j:=fun i d h0=>by
    rw[(w i d).2.2.2 j,h0,sB,tF,wO,rL]
   by_cases g:a=k
   . subst g;rw[Nr (by rw[h.lP];exact o),f _ (by omega) A7t];exact(h.can r.toNat (by omega)).2.2 j
   . rw[Aq g,f _ (h.elim.plt a (by omega)) (A7s (by omega))];exact h.fin a (by omega) j
def EI.stuck (h:EI n k S A rest P Q place rows lower cols) {c:Int} (a:c∈rest) (f:cols.getD c.toNat []= []):¬nonsing n A:=by
 obtain⟨l,c1,b⟩:=(h.rmem c).1 a;obtain⟨_,g⟩:=h.col c a;refine h.elim.stuck (c:=c.toNat) (by omega) b fun i o d=>qM fun j=> ?_
 have:=(g (i:Int)).2 ⟨qF _,by omega,d,j⟩;rw[f]at this;cases this
variable {n:Nat} {S:Nat->Nat} {A:Nat->Nat->Rat} {rest P Q place:List Int} {rows lower:List (List D1)} {cols:List R0}
def eX {P:List Int} (l:P.length=n) (f:∀a,a<n->P.getD a 0=(ix P a:Int)) (o:∀a,a<n->ix P a<n) (g:∀a b,a<n->b<n->ix P a=ix P b->a=b):G5 P (n:Int):=by
 have d:∀a (c:a<P.length),P[a]=(ix P a:Int):=fun a c=>by
  rw[<-f a (by omega),qE,qS c];rfl
 refine⟨by rw[l],fun i r=> ?_,tZ.2 fun i j h k s e=> ?_⟩
 . obtain⟨a,c,rfl⟩:=vV.1 r;have:=o a (by omega);rw[d a c];omega
 . rw[d i h,d j k]at e;have:=g i j (by omega) (by omega) (by omega);omega
def EI.places (h:EI n n S A rest P Q place rows lower cols):G5 place (n:Int)/\∀b,b<n->List.idxOf (b:Int) place=ix Q b:=by
 have d:∀j,j<n->∃b,b<n/\ix Q b=j/\place.getD j 0=(b:Int):=fun j a=>by
  obtain⟨b,c,e⟩:=W2 h.elim.qlt h.elim.qinj a;exact⟨b,c,e,by rw[<-e];exact h.pl b c⟩
 have l:∀j (a:j<place.length),place[j]=place.getD j 0:=fun j a=>by
  rw[qE,qS a];rfl
 refine⟨eX h.lpl (fun j a=> ?_) (fun j a=> ?_) (fun i j f a e=> ?_),fun b c=> ?_⟩
 . obtain⟨b,c,_,e⟩:=d j a;unfold ix;rw[e];omega
 . obtain⟨b,c,_,e⟩:=d j a;unfold ix;rw[e];omega
 . obtain⟨b,c,g,k⟩:=d i f;obtain⟨f,s,o,r⟩:=d j a;unfold ix at e;rw[k,r]at e;have:b=f:=by omega
   rw[<-g, <-o,this]
 . have o:(b:Int)∈place:=by
    have a:=h.pl b c;have j:ix Q b<place.length:=by rw[h.lpl];exact h.elim.qlt b c
    rw[<-a, <-l _ j];exact wI j
   have a:=yK o;have c:place[List.idxOf (b:Int) place]=(b:Int):=g0w a;obtain⟨f,s,g,k⟩:=d (List.idxOf (b:Int) place) (by rw[<-h.lpl];exact a);rw[l _ a,k]at c;have:f=b:=by omega
   rw[<-g,this]
def EI.done (h:EI n n S A rest P Q place rows lower cols) (M:n<=16384) {L U:List (List D1)} (B:L.length=n) (D:U.length=n)
 (u:∀a,a<n->L.getD a []=lower.getD (ix P a) []++ [((a:Int),rc 1)])
 (v:∀a,a<n->JO (fun i=>if 0<=i/\i<(n:Int)then A5 (rows.getD (ix P a) []) ((List.idxOf i place:Nat):Int)else 0) (U.getD a [])):
 Y8 (P,Q,((n:Int),(n:Int),L),((n:Int),(n:Int),U)) (n:Int)/\∀i j,i<n->j<n->oV (P,Q,((n:Int),(n:Int),L),((n:Int),(n:Int),U)) n i j=A (ix P i) (ix Q j):=by
 obtain⟨_,y⟩:=h.places;have o:∀a m,a<n->el ((n:Int),(n:Int),L) a m=T4 lower (ix P a) m+if m=a then 1 else 0:=fun a m d=>by
  show A5 (L.getD a []) (m:Int)=A5 (lower.getD (ix P a) []) (m:Int)+ _;rw[u a d,Jm];congr 1;by_cases l:m=a
  . rw[qL l,qL (by omega)]
  . rw[qH l,qH (by omega)]
 have r:∀a g,a<n->g<n->el ((n:Int),(n:Int),U) a g=T4 rows (ix P a) (ix Q g):=fun a g d hb=>by
  show A5 (U.getD a []) (g:Int)=A5 (rows.getD (ix P a) []) _;rw[(v a d).2, <-y g hb];exact qL ⟨qF _,by omega⟩
 have x:=h.elim.plt;have F:∀a,a<n->F7 (L.getD a []) (n:Int):=fun a d=>by
  rw[u a d];obtain⟨k,s⟩:=h.lcan _ (x a d);have z:∀e∈lower.getD (ix P a) [],e.1<(a:Int):=fun e b=>by
   refine qM fun H=>(k.2 e b).1 ?_
   have G:=s e b;have:=h.elim.low a e.1.toNat d (by omega) (by omega);unfold T4 at this;rw[show((e.1.toNat:Nat):Int)=e.1 from by omega,H7 k.1 b]at this;exact this
  have w:=Pb (q:=1) k (by decide) z;refine⟨w.1,fun e b=>⟨?_, ?_,(w.2 e b).1⟩⟩
  . rcases qZ.1 b with b|b
    . exact(s e b).1
    . rw[qW]at b;subst b;exact qF _
  . rcases qZ.1 b with b|b
    . exact(s e b).2
    . rw[qW]at b;subst b;simp only;omega
 have vU:∀a,a<n->F7 (U.getD a []) (n:Int):=fun a d=>by
  obtain⟨k,w⟩:=v a d;have s:∀e∈U.getD a [],0<=e.1/\e.1<(n:Int):=fun e b=>qM fun hh=>(k.2 e b).1 (by rw[<-H7 k.1 b,w];exact qH hh)
  exact⟨k.1,fun e b=>⟨(s e b).1,(s e b).2,(k.2 e b).1⟩⟩
 refine⟨⟨eX h.lP h.P0 h.elim.plt h.elim.pinj,eX h.lQ h.Q0 h.elim.qlt h.elim.qinj,⟨rfl,rfl,qF _,by show(n:Int)<=16384;omega,qF _,by show(n:Int)<=16384;omega,by show(L.length:Int)=(n:Int);omega,fun E t=> ?_⟩,⟨rfl,rfl,qF _,by show(n:Int)<=16384;omega,qF _,by show(n:Int)<=16384;omega,by show(U.length:Int)=(n:Int);omega,fun E t=> ?_⟩,fun i j c f=> ?_⟩,fun i j c f=> ?_⟩
 . obtain⟨a,d,rfl⟩:=Aa [] t;exact F a (by rw[<-B];exact d)
 . obtain⟨a,d,rfl⟩:=Aa [] t;exact vU a (by rw[<-D];exact d)
 . have c:i<n:=by omega
   have f:j<n:=by omega
   refine⟨fun I=> ?_, ?_,fun J=> ?_, ?_⟩
   . show el ((n:Int),(n:Int),L) i j=0;rw[o i j c,h.elim.low i j c f (by omega),qH (by omega),rL]
   . show el ((n:Int),(n:Int),L) i i=1;rw[o i i c,h.elim.low i i c c (qR _),qL rfl,sV]
   . show el ((n:Int),(n:Int),U) i j=0;rw[r i j c f];exact h.elim.zero j (ix P i) f (x i c) fun a d e=>by have:=h.elim.pinj i a c (by omega) e;omega
   . show el ((n:Int),(n:Int),U) i i≠0;rw[r i i c c];exact h.elim.piv i c
 . rw[h.elim.prod c f];unfold oV;refine B7 fun m l=> ?_
   show el ((n:Int),(n:Int),L) i m*el ((n:Int),(n:Int),U) m j= _;rw[o i m c,r m j l f]
def EI.sizes (h:EI n n S A rest P Q place rows lower cols) (b:∀a,1<=S a) {L U:List (List D1)}
 (d:∀a,a<n->L.getD a []=lower.getD (ix P a) []++ [((a:Int),rc 1)])
 (f:∀a,a<n->JO (fun i=>if 0<=i/\i<(n:Int)then A5 (rows.getD (ix P a) []) ((List.idxOf i place:Nat):Int)else 0) (U.getD a [])) {R C:Int} {i:Nat} (hi:i<n) (j:Nat):qs (S n) (el (R,C,L) i j)/\qs (S i) (el (R,C,U) i j):=by
 constructor
 . show qs (S n) (A5 (L.getD i []) (j:Int));rw[d i hi,Jm];by_cases g:i=j
   . subst g;have c:A5 (lower.getD (ix P i) []) (i:Int)=0:=h.elim.low i i hi hi (qR _);rw[qL rfl,c,sV];exact pU (b n)
   . rw[qH (by omega),rL];exact h.lq _ (h.elim.plt i hi) _
 . show qs (S i) (A5 (U.getD i []) (j:Int));rw[(f i hi).2];dsimp only;split
   . exact h.fin i hi _
   . exact K5 (b i)
def EI.cans (h:EI n n S A rest P Q place rows lower cols) {L U:List (List D1)} (l:L.length=n) (o:U.length=n)
 (j:∀a,a<n->L.getD a []=lower.getD (ix P a) []++ [((a:Int),rc 1)])
 (k:∀a,a<n->JO (fun i=>if 0<=i/\i<(n:Int)then A5 (rows.getD (ix P a) []) ((List.idxOf i place:Nat):Int)else 0) (U.getD a [])):(∀v∈L,T2 v)/\∀v∈U,T2 v:=by
 constructor
 . intro v f;obtain⟨a,b,rfl⟩:=Aa [] f;have b:a<n:=by rw[<-l];exact b
   rw[j a b];obtain⟨c,g⟩:=h.lcan _ (h.elim.plt a b);refine Pb c (by decide) fun e d=>qM fun s=>(c.2 e d).1 ?_
   have r:=g e d;have:=h.elim.low a e.1.toNat b (by omega) (by omega);unfold T4 at this;rw[show((e.1.toNat:Nat):Int)=e.1 from by omega,H7 c.1 d]at this;exact this
 . intro v f;obtain⟨a,b,rfl⟩:=Aa [] f;exact(k a (by rw[<-o];exact b)).1
variable {n:Nat} {S:Nat->Nat} {rest P Q place:List Int} {rows lower:List (List D1)} {cols:List R0}
def cS (t:Int) (F:Nat->Int->Rat) (v:List D1) (j:Int) (es:R0):Prop:=(keys es).Nodup/\∀i:Int,i∈keys es↔(0<=i/\i<t/\F i.toNat j≠0)\/(i=t/\∃e∈v,e.1=j)
def A7d {t j:Int} {F:Nat->Int->Rat} {v:List D1} {es:R0} {b:Bool} {e:D1} (h:cS t F v j es) (d:e.1=j):cS t F (v++ [e]) j (Ev (.int .i64) t b es):=by
 obtain⟨a,c⟩:=aB t b es h.1;refine⟨a,fun i=> ?_⟩;rw[c,h.2];constructor
 . rintro(hh|hh| ⟨hh,x,a,c⟩)
   . exact .inr ⟨hh,e,by simp,d⟩
   . exact .inl hh
   . exact .inr ⟨hh,x,sK _ a,c⟩
 . rintro(hh| ⟨hh,x,a,c⟩)
   . exact .inr (.inl hh)
   . exact .inl hh
def A3t {t j:Int} {F:Nat->Int->Rat} {v:List D1} {es:R0} {e:D1} (h:cS t F v j es) (b:e.1≠j):cS t F (v++ [e]) j es:=by
 refine⟨h.1,fun i=> ?_⟩;rw[h.2];refine g3k xP (g4s xP ⟨fun⟨x,a,hxj⟩=>⟨x,sK _ a,hxj⟩,fun⟨x,a,hxj⟩=> ?_⟩);rcases qZ.1 a with a|a
 . exact⟨x,a,hxj⟩
 . rw[qW]at a;subst a;exact absurd hxj b
def A3s {t j:Int} {F:Nat->Int->Rat} {v:List D1} {es:R0} {m:Int} (h:cS t F v j es) (l:0<=t) (f:F7 v m) (d:F t.toNat=A5 v):cS (t+1) F [] j es:=by
 refine⟨h.1,fun i=> ?_⟩;rw[h.2];constructor
 . rintro(⟨c,g,a⟩ | ⟨rfl,e,b,rfl⟩)
   . exact .inl ⟨c,by omega,a⟩
   . refine .inl ⟨l,by omega, ?_⟩;rw[d,H7 f.1 b];exact(f.2 e b).2.2
 . rintro(⟨c,g,a⟩ | ⟨_,e,b,_⟩)
   . by_cases k:i=t
     . subst k;rw[d]at a;exact .inr ⟨rfl,Zq a⟩
     . exact .inl ⟨c,by omega,a⟩
   . cases b
def EI.start {F:Nat->Int->Rat} {A:Nat->Nat->Rat} (E:∀i j,i<n->j<n->A i j=F i (j:Int)) (V:rest.length=n) (G:∀i,i<n->rest.getD i 0=(i:Int))
 (M:P.length=n) (N:Q.length=n) (O:place.length=n) (H:rows.length=n) (I:lower.length=n) (J:cols.length=n)
 (w:∀i,i<n->JO (F i) (rows.getD i [])) (R:∀i (j:Int),i<n->F i j≠0->0<=j/\j<(n:Int)) (D:∀i j,i<n->qs (S 0) (F i j)) (B:∀i,i<n->lower.getD i []= [])
 (T:∀j:Int,0<=j->j<(n:Int)->cS (n:Int) F [] j (cols.getD j.toNat [])):EI n 0 S A rest P Q place rows lower cols:=by
 have d:∀a,¬a<0:=fun a=>tR a
 have r:∀i (b:i<rest.length),rest[i]=(i:Int):=fun i b=>by
  rw[<-G i (by omega),qE,qS b];rfl
 refine⟨⟨rK _,fun a h=>absurd h (d a),fun a h=>absurd h (d a),fun a _ h=>absurd h (d a),fun a _ h=>absurd h (d a),fun i j b s=> ?_,fun a _ h=>absurd h (d a),fun a h=>absurd h (d a),fun a _ h=>absurd h (d a)⟩,M,N,O,H,I,J,fun a h=>absurd h (d a),fun a h=>absurd h (d a),fun a h=>absurd h (d a),tZ.2 fun i j b s U e=> ?_,fun c=>⟨fun v=> ?_,fun v=> ?_⟩,fun i b=> ?_,fun i b=> ?_,fun i b j=> ?_,fun a o=>absurd o (d a),fun j s=> ?_⟩
 . rw[C2,sV,E i j b s];exact((w i b).2 _).symm
 . rw[r i b,r j s]at e;omega
 . obtain⟨i,b,rfl⟩:=vV.1 v;rw[r i b];exact⟨qF _,by omega,fun a o=>absurd o (d a)⟩
 . obtain⟨f,g,_⟩:=v;have z:c.toNat<rest.length:=by omega
   have:=r _ z;rw[show((c.toNat:Nat):Int)=c from by omega]at this;rw[<-this];exact wI z
 . obtain⟨l,t⟩:=w i b;exact⟨l,fun e k=>R i e.1 b (by rw[<-t,H7 l.1 k];exact(l.2 e k).1),fun j=>by rw[t];exact D i j b⟩
 . rw[B i b];exact⟨GR,fun e k=>by cases k⟩
 . rw[B i b,Pd];exact K5 (pV (D i j b))
 . have y:0<=j/\j<(n:Int):=by
    obtain⟨i,b,rfl⟩:=vV.1 s;rw[r i b];omega
   obtain⟨l,t⟩:=T j y.1 y.2;refine⟨l,fun i=> ?_⟩;rw[t];have x:∀i:Int,0<=i->i<(n:Int)->T4 rows i.toNat j.toNat=F i.toNat j:=fun i f g=>by
    show A5 (rows.getD i.toNat []) ((j.toNat:Nat):Int)= _;rw[(w i.toNat (by omega)).2,show((j.toNat:Nat):Int)=j from by omega]
   constructor
   . rintro(⟨f,g,u⟩ | ⟨_,e,k,_⟩)
     . exact⟨f,g,fun a o=>absurd o (d a),by rw[x i f g];exact u⟩
     . cases k
   . rintro⟨f,g,_,u⟩;exact .inl ⟨f,g,by rw[x i f g]at u;exact u⟩
def iO (Bs:Int->Int->Prop) (i:Int) (vs:List D1) (j:Int) (es:R0):Prop:=(keys es).Nodup/\∀x:Int,x∈keys es↔Bs j x/\¬(x=i/\∃e∈vs,e.1=j)
def iN (Bs:Int->Int->Prop) (i:Int) (vs:List D1) (j:Int) (es:R0):Prop:=(keys es).Nodup/\∀x:Int,x∈keys es↔Bs j x\/(x=i/\∃e∈vs,e.1=j)
variable {Bs:Int->Int->Prop} {i j:Int} {vs:List D1} {es:R0} {e:D1}
def iR (h:(keys es).Nodup/\∀x,x∈keys es↔Bs j x):iO Bs i [] j es:=⟨h.1,fun x=>by rw[h.2];exact⟨fun a=>⟨a,fun⟨_,e,he,_⟩=>by cases he⟩,fun a=>a.1⟩⟩
def A7a (h:(keys es).Nodup/\∀x,x∈keys es↔Bs j x):iN Bs i [] j es:=⟨h.1,fun x=>by rw[h.2];exact⟨.inl,fun a=>a.elim id fun⟨_,e,he,_⟩=>by cases he⟩⟩
def Sg (a:e.1=j):∃y∈vs++ [e],y.1=j:=⟨e,by simp,a⟩
def SC (b:e.1≠j):(∃y∈vs++ [e],y.1=j)↔∃y∈vs,y.1=j:=
 ⟨fun⟨y,a,hyj⟩=>by
  rcases qZ.1 a with a|a
  . exact⟨y,a,hyj⟩
  . rw[qW]at a;subst a;exact absurd hyj b,fun⟨y,a,hyj⟩=>⟨y,sK _ a,hyj⟩⟩
def A7c (h:iO Bs i vs j es) (c:e.1=j):iO Bs i (vs++ [e]) j (Ns (.int .i64) i es):=by
 obtain⟨a,b⟩:=aA i es h.1;refine⟨a,fun x=> ?_⟩;rw[b,h.2];exact⟨fun a=>⟨a.2.1,fun b=>a.1 b.1⟩,fun a=>⟨fun d=>a.2 ⟨d,Sg c⟩,a.1,fun b=>a.2 ⟨b.1,Sg c⟩⟩⟩
def A3r (h:iO Bs i vs j es) (a:e.1≠j):iO Bs i (vs++ [e]) j es:=⟨h.1,fun x=>by rw[h.2,SC a]⟩
def A7b {b:Bool} (h:iN Bs i vs j es) (d:e.1=j):iN Bs i (vs++ [e]) j (Ev (.int .i64) i b es):=by
 obtain⟨a,c⟩:=aB i b es h.1;refine⟨a,fun x=> ?_⟩;rw[c,h.2];exact⟨fun a=>a.elim (fun c=> .inr ⟨c,Sg d⟩) fun a=>a.elim .inl fun c=> .inr ⟨c.1,Sg d⟩,fun a=>a.elim (fun a=> .inr (.inl a)) fun c=> .inl c.1⟩
def A3q (h:iN Bs i vs j es) (a:e.1≠j):iN Bs i (vs++ [e]) j es:=⟨h.1,fun x=>by rw[h.2,SC a]⟩
def A7e {O N:Int->Prop} {pv nw:List D1} {d:R0} (g:iN (fun _ x=>Bs j x/\¬(x=i/\∃e∈pv,e.1=j)) i nw j d)
 (l:Bs j i↔O j) (n:(∃e∈pv,e.1=j)\/(O j↔N j)) (k:(∃e∈nw,e.1=j)↔N j):(keys d).Nodup/\∀x,x∈keys d↔(x≠i/\Bs j x)\/(x=i/\N j):=by
 refine⟨g.1,fun x=> ?_⟩;rw[g.2,k];by_cases c:x=i
 . subst c;rcases n with f|f
   . exact⟨fun b=>b.elim (fun a=>absurd ⟨rfl,f⟩ a.2) .inr,fun b=>b.elim (fun a=>absurd rfl a.1) .inr⟩
   . exact⟨fun b=>b.elim (fun a=> .inr ⟨rfl,f.1 (l.1 a.1)⟩) .inr,fun b=>b.elim (fun a=>absurd rfl a.1) .inr⟩
 . exact⟨fun b=>b.elim (fun a=> .inl ⟨c,a.1⟩) fun a=>absurd a.1 c,fun b=>b.elim (fun a=> .inl ⟨a.2,fun h=>c h.1⟩) fun a=>absurd a.1 c⟩
def B4c {s:Nat} {x f r c:Rat} (h:qs s x) (d:qs s f) (g:qs s r) (b:qs s c):qs (4*s+1) (x-f/r*c):=by
 have a:=B0m h (Nz (Xm d g) b);rwa[show s+(s+s+s)+1=4*s+1 from by omega]at a
def inC (cols:List R0) (j x:Int):Prop:=x∈keys (cols.getD j.toNat [])
structure CI (n k s:Nat) (rest P:List Int) (rows0 lower0:List (List D1)) (r c:Int) (D:List Int) (rows lower:List (List D1)) (cols:List R0):Prop where
 lrows:rows.length=n
 llow:lower.length=n
 lcols:cols.length=n
 rd:∀i:Nat,i<n->(i:Int)∈D->T2 (rows.getD i [])/\(∀e∈rows.getD i [],0<=e.1/\e.1<(n:Int))/\(∀j,qs (4*s+1) (A5 (rows.getD i []) j))/\∀j,A5 (rows.getD i []) j=A5 (rows0.getD i []) j-Vg k (ix P) (T4 rows0) r.toNat c.toNat i*A5 (rows0.getD r.toNat []) j
 ru:∀i:Nat,i<n->(i:Int)∉D->rows.getD i []=rows0.getD i []
 lo:∀i:Nat,i<n->lower.getD i []=if(i:Int)∈D then lower0.getD i []++ [((k:Int),rc (Vg k (ix P) (T4 rows0) r.toNat c.toNat i))]else lower0.getD i []
 col:∀j:Int,j∈rest->(keys (cols.getD j.toNat [])).Nodup/\∀x:Int,x∈keys (cols.getD j.toNat [])↔x≠r/\0<=x/\x<(n:Int)/\(∀a,a<k->x.toNat≠ix P a)/\T4 rows x.toNat j.toNat≠0
variable {n k s:Nat} {S:Nat->Nat} {A:Nat->Nat->Rat} {rest P Q place:List Int} {rows lower rows1 lower1:List (List D1)} {cols cols1 cols2:List R0} {r c:Int}
def A1q {v:List D1} (h:T2 v) (j:Int):(∃e∈v,e.1=j)↔A5 v j≠0:=
 ⟨fun⟨e,he,hj⟩=>by rw[<-hj,H7 h.1 he];exact(h.2 e he).1,Zq⟩
def EI.row (h:EI n k S A rest P Q place rows lower cols) (b:c∈rest) (d:r∈keys (cols.getD c.toNat [])):0<=r/\r<(n:Int)/\(∀a,a<k->r.toNat≠ix P a)/\T4 rows r.toNat c.toNat≠0:=((h.col c b).2 r).1 d
def EI.crange (h:EI n k S A rest P Q place rows lower cols) (a:c∈rest):0<=c/\c<(n:Int):=⟨((h.rmem c).1 a).1,((h.rmem c).1 a).2.1⟩
def CI.init (h:EI n k S A rest P Q place rows lower cols) (u:c∈rest) (x:r∈keys (cols.getD c.toNat [])) (z:cols1.length=n)
 (v:∀j:Int,j∈rest->iO (inC cols) r (rows.getD r.toNat []) j (cols1.getD j.toNat [])):CI n k s rest P rows lower r c [] rows lower cols1:=by
 obtain⟨F,G,H,_⟩:=h.row u x;refine⟨h.lrows,h.llow,z,fun i _ w=>(by cases w),fun i _ _=>rfl,fun i _=>(qH (by simp)).symm,fun j hj=> ?_⟩;obtain⟨D,E⟩:=h.crange hj;obtain⟨l,o⟩:=v j hj;refine⟨l,fun B=> ?_⟩;rw[o];have t:=(h.col j hj).2 B;unfold inC;rw[t,A1q (h.can r.toNat (by omega)).1];constructor
 . rintro⟨⟨d,f,g,a⟩,b⟩;refine⟨fun e=>b ⟨e, ?_⟩,d,f,g,a⟩;subst e;unfold T4 at a;rwa[show((j.toNat:Nat):Int)=j from by omega]at a
 . rintro⟨y,d,f,g,a⟩;exact⟨⟨d,f,g,a⟩,fun b=>y b.1⟩
def CI.next (h:EI n k S A rest P Q place rows lower cols) (hc:c∈rest) (hr:r∈keys (cols.getD c.toNat [])) {D:List Int} (g:CI n k (S k) rest P rows lower r c D rows1 lower1 cols1) {i:Int}
 (a1:0<=i) (a2:i<(n:Int)) (W:i≠r) (B:∀a,a<k->i.toNat≠ix P a) (T:i∉D) {nw:List D1} {q:Rat}
 (Z:q=T4 rows i.toNat c.toNat/T4 rows r.toNat c.toNat)
 (u:JO (fun j=>A5 (rows.getD i.toNat []) j-q*A5 (rows.getD r.toNat []) j) nw) (a7:cols2.length=n)
 (a5:∀j:Int,j∈rest->iN (fun j x=>inC cols1 j x/\¬(x=i/\∃e∈rows.getD r.toNat [],e.1=j)) i nw j (cols2.getD j.toNat [])):
 CI n k (S k) rest P rows lower r c (D++ [i]) (rows1.set i.toNat nw) (lower1.set i.toNat (lower1.getD i.toNat []++ [((k:Int),rc q)])) cols2:=by
 obtain⟨ac,ad,ae,af⟩:=h.row hc hr;obtain⟨a8,c1⟩:=h.crange hc;have o:i.toNat<n:=by omega
 have V:((i.toNat:Nat):Int)=i:=by omega
 have U:Vg k (ix P) (T4 rows) r.toNat c.toNat i.toNat=q:=by rw[SD (by omega) B,Z]
 have s:∀x:Nat,(x:Int)∈D++ [i]↔(x:Int)∈D\/x=i.toNat:=fun x=>by
  rw[qZ,qW];exact g3k xP (by omega)
 have w:∀j,A5 nw j=A5 (rows.getD i.toNat []) j-q*A5 (rows.getD r.toNat []) j:=u.2;have a6:∀e∈nw,0<=e.1/\e.1<(n:Int):=fun e he=>qM fun b=>by
  refine(u.1.2 e he).1 ?_;rw[<-H7 u.1.1 he,w,D2 (v:=rows.getD i.toNat []) fun M F G=>b (by rw[<-G];exact(h.can _ o).2.1 M F),D2 (v:=rows.getD r.toNat []) fun M F G=>b (by rw[<-G];exact(h.can r.toNat (by omega)).2.1 M F),sU,tF,wO,rL]
 refine⟨by rw[qP];exact g.lrows,by rw[qP];exact g.llow,a7,fun x d f=> ?_,fun x d f=> ?_,fun x d=> ?_,fun j E=> ?_⟩
 . by_cases l:x=i.toNat
   . subst l;rw[C1 (by rw[g.lrows];exact o),U];refine⟨u.1,a6,fun j=> ?_,w⟩;rw[w,Z];have:=B4c ((h.can _ o).2.2 j) ((h.can _ o).2.2 (c.toNat:Int)) ((h.can r.toNat (by omega)).2.2 (c.toNat:Int)) ((h.can r.toNat (by omega)).2.2 j);exact this
   . rw[E9 l];exact g.rd x d (((s x).1 f).resolve_right l)
 . have l:x≠i.toNat:=fun e=>f ((s x).2 (.inr e))
   rw[E9 l];exact g.ru x d fun b=>f ((s x).2 (.inl b))
 . by_cases l:x=i.toNat
   . subst l;rw[C1 (by rw[g.llow];exact o),qL ((s _).2 (.inr rfl)),g.lo _ o,qH (by rw[V];exact T),U]
   . rw[E9 l,g.lo x d];by_cases f:(x:Int)∈D
     . rw[qL f,qL ((s x).2 (.inl f))]
     . rw[qH f,qH fun b=>f (((s x).1 b).resolve_right l)]
 . obtain⟨aa,ab⟩:=h.crange E;obtain⟨a9,R⟩:=g.col j E;have X:((j.toNat:Nat):Int)=j:=by omega
   have a4:inC cols1 j i↔A5 (rows.getD i.toNat []) j≠0:=by
    unfold inC;rw[R];have F:T4 rows1 i.toNat j.toNat=A5 (rows.getD i.toNat []) j:=by
     unfold T4;rw[g.ru _ o (by rw[V];exact T),X]
    rw[F];exact⟨fun b=>b.2.2.2.2,fun b=>⟨W,a1,a2,B,b⟩⟩
   have a0:=A7e (Bs:=inC cols1) (O:=fun j=>A5 (rows.getD i.toNat []) j≠0) (N:=fun j=>A5 nw j≠0) (pv:=rows.getD r.toNat []) (nw:=nw) (a5 j E) a4 ?_ (A1q u.1 j)
   . refine⟨a0.1,fun x=> ?_⟩;rw[a0.2];unfold inC;rw[R];by_cases d:x=i
     . subst d;have:T4 (rows1.set x.toNat nw) x.toNat j.toNat=A5 nw j:=by
        unfold T4;rw[C1 (by rw[g.lrows];exact o),X]
       rw[this];exact⟨fun b=>b.elim (fun z=>absurd rfl z.1) fun z=>⟨W,a1,a2,B,z.2⟩,fun b=> .inr ⟨rfl,b.2.2.2.2⟩⟩
     . constructor
       . rintro(⟨_,t,H,I,J,y⟩ | ⟨t,_⟩)
         . refine⟨t,H,I,J, ?_⟩;unfold T4 at y⊢;rwa[E9 (by omega)]
         . exact absurd t d
       . rintro⟨t,H,I,J,y⟩;refine .inl ⟨d,t,H,I,J, ?_⟩;unfold T4 at y⊢;rwa[E9 (by omega)]at y
   . by_cases Y:∃e∈rows.getD r.toNat [],e.1=j
     . exact .inl Y
     . refine .inr ?_;have a3:A5 (rows.getD r.toNat []) j=0:=qM fun b=>Y (Zq b)
       show A5 _ j≠0↔A5 nw j≠0;rw[w,a3,sU,tF,wO,rL]
def CI.done (h:EI n k S A rest P Q place rows lower cols) (z:c∈rest) (O:r∈keys (cols.getD c.toNat [])) {D:List Int} (g:CI n k (S k) rest P rows lower r c D rows1 lower1 cols1)
 (I:S (k+1)=4*S k+1) (U:∀x:Int,x∈D↔x≠r/\0<=x/\x<(n:Int)/\(∀a,a<k->x.toNat≠ix P a)/\T4 rows x.toNat c.toNat≠0) {G:List Int} (X:G.Nodup) (R:∀x,x∈G↔x∈rest/\x≠c):
 EI n (k+1) S A G (P.set k r) (Q.set k c) (place.set c.toNat k) rows1 lower1 cols1:=by
 obtain⟨Z,a0,a1,W⟩:=h.row z O;have E:k<P.length:=by
  rw[h.lP];refine g3v h.elim.kn fun E=> ?_
  obtain⟨M,c1,F⟩:=(h.rmem c).1 z;obtain⟨a,l,e⟩:=W2 (n:=n) (q:=ix Q) (fun a l=>h.elim.qlt a (by omega)) (fun a b l hb=>h.elim.qinj a b (by omega) (by omega)) (show c.toNat<n by omega);exact absurd e.symm (F a (by omega))
 have B:∀i:Nat,i<n->((i:Int)∈D↔Vg k (ix P) (T4 rows) r.toNat c.toNat i≠0):=fun i d=>by
  rw[U,qT];constructor
  . rintro⟨Y,_,_,t,u⟩;rw[SD (by omega) t,uA];exact fun o=>(yC.1 o).elim u fun o=>by
     have:=wK _ W;rw[o,sU]at this;exact absurd this (by decide)
  . intro M;have F:¬(i=r.toNat\/∃a,a<k/\i=ix P a):=fun s=>M (qL s)
    refine⟨fun e=>F (.inl (by omega)),by omega,by omega,fun a l e=>F (.inr ⟨a,l,e⟩),fun o=>M ?_⟩;unfold Vg;rw[qH F,o,uA,sB]
 refine h.step z O X R g.lrows g.llow g.lcols (fun i d=> ?_) (fun i d=> ?_) (by omega) (fun i d=> ?_) fun j V=> ?_
 . rw[I];by_cases f:(i:Int)∈D
   . exact g.rd i d f
   . have o:Vg k (ix P) (T4 rows) r.toNat c.toNat i=0:=qM fun s=>f ((B i d).2 s)
     rw[g.ru i d f,o];obtain⟨w,y,T⟩:=h.can i d;exact⟨w,y,fun j=>F8 (T j) (by omega),fun j=>by rw[sB,tF,wO,rL]⟩
 . rw[g.lo i d];by_cases f:(i:Int)∈D
   . rw[qL f,qH ((B i d).1 f)]
   . rw[qH f,qL (qM fun s=>f ((B i d).2 s))]
 . have N:=(h.can i d).2.2 (c.toNat:Int);rw[I];unfold Vg;split
   . exact K5 (by have:=pV N;omega)
   . exact F8 (Xm N ((h.can r.toNat (by omega)).2.2 (c.toNat:Int))) (by omega)
 . obtain⟨w,y⟩:=g.col j ((R j).1 V).1;refine⟨w,fun x=> ?_⟩;rw[y];constructor
   . rintro⟨Y,t,u,v,H⟩;refine⟨t,u,fun a l=> ?_,H⟩;by_cases J:a=k
     . subst J;rw[Nr E];omega
     . rw[Aq J];exact v a (by omega)
   . rintro⟨t,u,v,H⟩;refine⟨fun e=> ?_,t,u,fun a l=> ?_,H⟩
     . have:=v k (rN _);rw[Nr E,e]at this;exact this rfl
     . have:=v a (by omega);rwa[Aq (tX l)]at this
def EI.two (h:EI n k S A rest P Q place rows lower cols) {i j:Nat} (b:i<n) (c:j<n) (o:i≠j) (g:∀a,a<k->i≠ix P a) (l:∀a,a<k->j≠ix P a):k+2<=n:=by
 refine qM fun b=> ?_
 have b:=h.elim.kn;obtain⟨a,f,c,d,b⟩:=LK n (fun a=>if a<k then ix P a else if a=k then i else j) fun a _=>by
  split
  . rename_i c;exact h.elim.plt a c
  . split<;>assumption
 by_cases c:a<k
 . rw[qL c]at b;by_cases d:f<k
   . rw[qL d]at b;have:=h.elim.pinj a f c d b;omega
   . rw[qH d]at b;split at b
     . exact g a c b.symm
     . exact l a c b.symm
 . have d:¬f<k:=by omega
   rw[qH c,qH d]at b;have:a=k:=by omega
   rw[qL this,qH (by omega)]at b;exact o b
def Uw.qsR {n k T:Nat} {A R Lo:Nat->Nat->Rat} {p q:Nat->Nat} (h:Uw n k A p q R Lo) (I:Io n n A T) {i j:Nat} (t:i<n) (M:j<n):qs (T+T) (R i j):=by
 have H:∀a,a<=k->a<n->(∀b,b<a->i≠p b)->(∀m,a<=m->m<k->Lo i m=0)->qs (T+T) (R i j):=fun a hak han hia hlo=>by
  have O:∀b,b<a->(if b=a then i else p b)=p b:=fun b d=>qH (by omega)
  have w:∀b,b<a->(if b=a then R i else R (p b))=R (p b):=fun b d=>qH (by omega)
  have z:∀b,b<a->(if b=a then j else q b)=q b:=fun b d=>qH (by omega)
  have E:∀b,b<=a->(if b=a then j else q b)<n:=fun b d=>by
   by_cases e:b=a
   . rw[qL e];exact M
   . rw[qH e];exact h.qlt b (by omega)
  have:=A0o (R:=n) (C:=n) (T:=T) (A:=A) (a:=a) (u:=fun b=>if b=a then R i else R (p b)) (X:=fun b=>if b=a then Lo i else Lo (p b)) (r:=fun b=>if b=a then i else p b) (l:=fun b=>if b=a then j else q b) I (fun b d=>by
   by_cases e:b=a
   . simp only[qL e];exact t
   . simp only[qH e];exact h.plt b (by omega)) E han han (fun b d m F=>by
   have y:=E m F;generalize (if m=a then j else q m)=c at y;by_cases e:b=a
   . simp only[e,vY];rw[h.dec i c t y,En hak fun f g o=>by rw[hlo f g o,sB]];congr 1;exact B7 fun f D=>by rw[w f D]
   . simp only[qH e];rw[h.dec (p b) c (h.plt b (by omega)) y,En (show b<=k by omega) fun f g o=>by rw[h.low b f (by omega) o g,sB]];congr 1;exact B7 fun f D=>by rw[w f (by omega)]) (fun b m F d=>by
   show(if b=a then R i else R (p b)) (if m=a then j else q m)=0;rw[z m (by omega)];by_cases e:b=a
   . rw[qL e];exact h.zero m i (by omega) t fun v J=>hia v (by omega)
   . rw[qH e];exact h.zero m (p b) (by omega) (h.plt b (by omega)) fun v J x=>by have:=h.pinj b v (by omega) (by omega) x;omega) (fun b d=>by
   show(if b=a then R i else R (p b)) (if b=a then j else q b)≠0;rw[w b d,z b d];exact h.piv b (by omega))
  simp only[vY]at this;exact this
 by_cases B:∃a,a<k/\i=p a
 . obtain⟨a,s,rfl⟩:=B;exact H a (by omega) (by have:=h.kn;omega) (fun b d x=>by have:=h.pinj a b s (by omega) x;omega) fun m g o=>h.low a m s o g
 . have G:∀a,a<k->i≠p a:=fun a s e=>B ⟨a,s,e⟩
   have N:k<n:=g3v h.kn fun e=>by
    subst e;obtain⟨a,s,f⟩:=W2 h.plt h.pinj t;exact G a s f.symm
   exact H k (qR _) N G fun m g o=>by omega
def Uw.qsL {n k T:Nat} {A R Lo:Nat->Nat->Rat} {p q:Nat->Nat} (h:Uw n k A p q R Lo) (B:Io n n A T) (F:1<=T) {i m:Nat} (t:i<n) (D:m<k):qs (T+T) (Lo i m):=by
 by_cases y:∃a,a<=m/\i=p a
 . obtain⟨a,d,rfl⟩:=y;rw[h.low a m (by omega) D d];exact K5 (by omega)
 have E:∀a,a<=m->i≠p a:=fun a d e=>y ⟨a,d,e⟩
 have z:m<n:=by have:=h.kn;omega
 refine A0n (R:=n) (C:=n) (T:=T) (A:=A) (a:=m) (u:=fun b=>R (p b)) (X:=fun b=>Lo (p b)) (r:=p) (l:=q) (s:=i) (x:=Lo i) B (fun b j=>h.plt b (by omega)) t (fun b j=>h.qlt b (by omega)) z z (fun b j c w=> ?_) (fun b c w j=> ?_) (fun b j=>h.piv b (by omega)) (fun c w=> ?_)
 . rw[h.dec (p b) (q c) (h.plt b (by omega)) (h.qlt c (by omega)),En (show b<=k by omega) fun f v g=>by rw[h.low b f (by omega) g v,sB]]
 . exact h.zero c (p b) (by omega) (h.plt b (by omega)) fun a d o=>by have:=h.pinj b a (by omega) (by omega) o;omega
 . rw[h.dec i (q c) t (h.qlt c (by omega)),h.zero c i (by omega) t fun a d=>E a (by omega),rL,En (show m+1<=k by omega) fun f v g=>by rw[h.zero c (p f) (by omega) (h.plt f g) fun a d o=>by have:=h.pinj f a g (by omega) o;omega,sU],C2]
variable {n k s T:Nat} {S S':Nat->Nat} {A:Nat->Nat->Rat} {rest P Q place:List Int} {rows lower rows1 lower1:List (List D1)} {cols cols1 cols2:List R0} {r c:Int}
def EI.resize (h:EI n k S A rest P Q place rows lower cols) (b:∀a,a<=k->S a=S' a):EI n k S' A rest P Q place rows lower cols:=
 { h with
   can:=fun i c=>by rw[<-b k (qR _)];exact h.can i c
   lq:=fun i c j=>by rw[<-b k (qR _)];exact h.lq i c j
   fin:=fun a c j=>by rw[<-b a (by omega)];exact h.fin a c j}
def EI.tight (h:EI n k S A rest P Q place rows lower cols) (d:1<=T) (b:Io n n A T):EI n k (fun _=>T+T) A rest P Q place rows lower cols:=by
 have c:∀i,i<n->∀j:Int,qs (T+T) (A5 (rows.getD i []) j):=fun i a j=>by
  by_cases l:0<=j/\j<(n:Int)
  . have:=h.elim.qsR b a (show j.toNat<n by omega);unfold T4 at this;rwa[show((j.toNat:Nat):Int)=j from by omega]at this
  . rw[D2 fun e f g=>l (by rw[<-g];exact(h.can i a).2.1 e f)];exact K5 (by omega)
 exact {h with
  can:=fun i a=>⟨(h.can i a).1,(h.can i a).2.1,c i a⟩
  lq:=fun i a j=>by
   by_cases f:0<=j/\j<(k:Int)
   . have:=h.elim.qsL b d a (show j.toNat<k by omega);unfold T4 at this;rwa[show((j.toNat:Nat):Int)=j from by omega]at this
   . rw[D2 fun e b d=>f (by rw[<-d];exact(h.lcan i a).2 e b)];exact K5 (by omega)
  fin:=fun a b j=>c _ (h.elim.plt a b) j}
def CI.doneT (h:EI n k (fun _=>T+T) A rest P Q place rows lower cols) (i:1<=T) (d:Io n n A T) (j:c∈rest) (l:r∈keys (cols.getD c.toNat [])) {D:List Int} (g:CI n k (T+T) rest P rows lower r c D rows1 lower1 cols1)
 (f:∀x:Int,x∈D↔x≠r/\0<=x/\x<(n:Int)/\(∀a,a<k->x.toNat≠ix P a)/\T4 rows x.toNat c.toNat≠0) {b:List Int} (o:b.Nodup) (s:∀x,x∈b↔x∈rest/\x≠c):
 EI n (k+1) (fun _=>T+T) A b (P.set k r) (Q.set k c) (place.set c.toNat k) rows1 lower1 cols1:=by
 have b:=h.resize (S':=fun a=>if a<=k then T+T else 4*(T+T)+1) fun a ha=>(qL ha).symm
 refine(CI.done b j l (D:=D) (by simp only[qL (qR k)];exact g) ?_ f o s).tight i d;simp only[qH (Nat.not_succ_le_self k),qL (qR k)]
def B3p {R C:Nat} (a:Io R C A T) {i j:Nat} (b:i<R) (c:j<C):qs T (A i j):=by
 have:=a 1 (fun _=>i) (fun _=>j) (by omega) (by omega) (fun _ _=>b) (fun _ _=>c);rwa[show det 1 (fun _ _=>A i j)=A i j from by rw[det,C2,C2,det];show 0+1*A i j*1=A i j;grind]at this
def ID {α:Type} (l:List α) (i:Nat) (d:α):l.set i (l.getD i d)=l:=by
 refine g4i (by rw[qP]) fun j b a=> ?_
 rw[g4j];split
 . rename_i e;subst e;rw[Q3 _ _ a]
 . rfl
def Ra {α:Type} {d:α} {l:List α} {t:Int} (a:0<=t) (b:t<(l.length:Int)):l.take (t+1).toNat=l.take t.toNat++ [gx d l t]:=by
 rw[show(t+1).toNat=t.toNat+1 from by omega,rR,H3 (d:=d) a b];rfl
def LD {l:List Int} {n:Nat} (h:l.Nodup) (f:∀x∈l,0<=x/\x<(n:Int)):l.length<=n:=by
 refine qM fun a=> ?_
 have b:∀a,a<n+1->a<l.length:=fun a ha=>by omega
 obtain⟨a,c,i,g,j⟩:=LK n (fun a=>(l.getD a 0).toNat) fun a ha=>by
  have:=f _ (E8 (d:=0) (b a ha));omega
 have i:=f _ (E8 (d:=0) (b a (by omega)));have i:=f _ (E8 (d:=0) (b c g));have f:l.getD a 0=l.getD c 0:=by omega
 rw[Q3 _ _ (b a (by omega)),Q3 _ _ (b c g)]at f;have:=(xT h).1 f;omega
def A8y (es:R0):(keys es).length=es.length:=sR ..
def kJ {es:R0} {y:Int×Bool} (h:y∈es):y.1∈keys es:=vQ (f:=fun e:Int×Bool=>e.1) h
def fW (n:Nat) (dd:List Nat):Prop:=∀i,i<n->i∉dd
abbrev NB:=List R0×List Nat
abbrev NR:=List (List D1)×List Nat
variable {n k:Nat} {S:Nat->Nat} {A:Nat->Nat->Rat} {rest P Q place:List Int} {rows lower:List (List D1)} {cols:List R0}
def A0v {v:List D1} {m j:Int} (h:F7 v m) (b:A5 v j≠0):0<=j/\j<m:=qM fun a=>b (A5x h a)
def EI.more (h:EI n k S A rest P Q place rows lower cols) (u:k<n):0<rest.length:=by
 refine qM fun v=> ?_
 have o:rest= []:=qN (by omega);have g:∀c,c<n->∃a,a<k/\c=ix Q a:=fun c b=>qM fun hh=>by
  have:=(h.rmem (c:Int)).2 ⟨by omega,by omega,fun a ha e=>hh ⟨a,ha,by omega⟩⟩;rw[o]at this;cases this
 obtain⟨f,d⟩:∃f:Nat->Nat,∀c,c<n->f c<k/\c=ix Q (f c):=by
  refine⟨fun c=>if b:c<n then(g c b).choose else 0,fun c b=> ?_⟩;simp only[dif_pos b];exact(g c b).choose_spec
 obtain⟨a,i,s,t,l⟩:=LK k f fun a ha=>(d a (by omega)).1
 have j:=(d a (by omega)).2;have r:=(d i (by omega)).2;rw[l]at j;omega
def EI.okRow (h:EI n k S A rest P Q place rows lower cols) (d:S k<=K1) (a:n<=16384) {i:Nat} (f:i<n):HK K1 (rows.getD i []):=by
 obtain⟨a,b,c⟩:=h.can i f;have:=Be (n:=(n:Int)) (v:=rows.getD i []) ⟨a.1,fun e he=>⟨(b e he).1,(b e he).2,(a.2 e he).1⟩⟩;exact⟨a.1,GT a fun j=>F8 (c j) d,by omega⟩
def EI.lowLen (h:EI n k S A rest P Q place rows lower cols) {i:Nat} (c:i<n):(lower.getD i []).length<=k:=by
 obtain⟨a,b⟩:=h.lcan i c;have:=Be (n:=(k:Int)) (v:=lower.getD i []) ⟨a.1,fun e he=>⟨(b e he).1,(b e he).2,(a.2 e he).1⟩⟩;omega
def EI.colLen (h:EI n k S A rest P Q place rows lower cols) {c:Int} (b:c∈rest):(cols.getD c.toNat []).length<=n:=by
 obtain⟨d,a⟩:=h.col c b;rw[<-A8y];exact LD d fun x b=>⟨((a x).1 b).1,((a x).1 b).2.1⟩
def EI.pick (h:EI n k S A rest P Q place rows lower cols) {b:Nat} (a:b<rest.length):(rest.take b++rest.drop (b+1)).Nodup/\∀x,x∈rest.take b++rest.drop (b+1)↔x∈rest/\x≠rest.getD b 0:=by
 have j:rest=rest.take b++rest.getD b 0::rest.drop (b+1):=by
  rw[Q3 _ _ a, <-xF a,uK]
 have d:=h.rnd;generalize rest.getD b 0=c at*;generalize rest.take b=u at*;generalize rest.drop (b+1)=v at*;subst j;rw[tK]at d;obtain⟨s,t,f⟩:=d;obtain⟨o,r⟩:=sJ.1 t;refine⟨tK.2 ⟨s,r,fun g i b a=>f g i b (qK _ a)⟩,fun x=> ?_⟩;rw[qZ,qZ,qU];constructor
 . rintro(hx|hx)
   . exact⟨.inl hx,fun e=>f x hx c rJ e⟩
   . exact⟨.inr (.inr hx),fun e=>o (e▸hx)⟩
 . rintro⟨hx|hx|hx,l⟩
   . exact .inl hx
   . exact absurd hx l
   . exact .inr hx
def EA (n:Nat) (rest:List Int) (Bs:Int->Int->Prop) (i:Int) (v:List D1) (p:Int×NB×Unit):Prop:=0<=p.1/\p.1<=(v.length:Int)/\p.2.1.1.length=n/\fW n p.2.1.2/\∀j:Int,j∈rest->(0<=j/\j<(n:Int))/\iO Bs i (v.take p.1.toNat) j (p.2.1.1.getD j.toNat [])
def ZY (n:Nat) (rest:List Int) (Bs:Int->Int->Prop) (i:Int) (v:List D1) (p:Int×NB×Unit):Prop:=0<=p.1/\p.1<=(v.length:Int)/\p.2.1.1.length=n/\fW n p.2.1.2/\∀j:Int,j∈rest->(0<=j/\j<(n:Int))/\iN Bs i (v.take p.1.toNat) j (p.2.1.1.getD j.toNat [])
def MR (n:Nat) (F:Nat->Int->Rat) (i:Int) (v:List D1) (p:Int×NB×Unit):Prop:=0<=p.1/\p.1<=(v.length:Int)/\p.2.1.1.length=n/\fW n p.2.1.2/\∀j:Int,0<=j->j<(n:Int)->cS i F (v.take p.1.toNat) j (p.2.1.1.getD j.toNat [])
variable {Bs:Int->Int->Prop} {i t:Int} {v:List D1} {dd:List Nat} {F:Nat->Int->Rat}
def EA.rng (h:EA n rest Bs i v (t,(cols,dd),())) (c:∀e∈v,0<=e.1/\e.1<(n:Int)) (b:t<(v.length:Int)):(0<=t/\t<(v.length:Int))/\(0<=(gx D6 v t).1/\(gx D6 v t).1<((cols.length:Nat):Int))/\(gx D6 v t).1.toNat∉dd:=by
 have a:=c (gx D6 v t) (I5 (d:=D6) (i:=t) h.1 b);have c:cols.length=n:=h.2.2.1;exact⟨⟨h.1,b⟩,⟨a.1,by rw[c];exact a.2⟩,h.2.2.2.1 _ (by omega)⟩
def EA.next (h:EA n rest Bs i v (t,(cols,dd),())) (hv:∀e∈v,0<=e.1/\e.1<(n:Int)) (ht:t<(v.length:Int)):EA n rest Bs i v (t+1,(cols.set (gx D6 v t).1.toNat (Ns (.int .i64) i (cols.getD (gx D6 v t).1.toNat [])),dd),()):=by
 obtain⟨b,_,c,f,g⟩:=h;simp only at b c f g;refine⟨by simp only;omega,by simp only;omega,by simp only;rw[qP];exact c,f,fun j a=> ?_⟩;obtain⟨⟨l,o⟩,k⟩:=g j a;refine⟨⟨l,o⟩, ?_⟩;have r:=hv _ (I5 (d:=D6) b ht);simp only;rw[Ra (d:=D6) b ht];generalize gx D6 v t=e at*;by_cases a:e.1=j
 . subst a;rw[C1 (by omega)];exact A7c k rfl
 . rw[E9 (by omega)];exact A3r k a
def ZY.rng (h:ZY n rest Bs i v (t,(cols,dd),())) (c:∀e∈v,0<=e.1/\e.1<(n:Int)) (b:t<(v.length:Int)):(0<=t/\t<(v.length:Int))/\(0<=(gx D6 v t).1/\(gx D6 v t).1<((cols.length:Nat):Int))/\(gx D6 v t).1.toNat∉dd:=by
 have a:=c (gx D6 v t) (I5 (d:=D6) (i:=t) h.1 b);have c:cols.length=n:=h.2.2.1;exact⟨⟨h.1,b⟩,⟨a.1,by rw[c];exact a.2⟩,h.2.2.2.1 _ (by omega)⟩
def ZY.next {b:Bool} (h:ZY n rest Bs i v (t,(cols,dd),())) (hv:∀e∈v,0<=e.1/\e.1<(n:Int)) (ht:t<(v.length:Int)):ZY n rest Bs i v (t+1,(cols.set (gx D6 v t).1.toNat (Ev (.int .i64) i b (cols.getD (gx D6 v t).1.toNat [])),dd),()):=by
 obtain⟨c,_,f,g,k⟩:=h;simp only at c f g k;refine⟨by simp only;omega,by simp only;omega,by simp only;rw[qP];exact f,g,fun j a=> ?_⟩;obtain⟨⟨o,r⟩,l⟩:=k j a;refine⟨⟨o,r⟩, ?_⟩;have s:=hv _ (I5 (d:=D6) c ht);simp only;rw[Ra (d:=D6) c ht];generalize gx D6 v t=e at*;by_cases a:e.1=j
 . subst a;rw[C1 (by omega)];exact A7b l rfl
 . rw[E9 (by omega)];exact A3q l a
def MR.rng (h:MR n F i v (t,(cols,dd),())) (c:∀e∈v,0<=e.1/\e.1<(n:Int)) (b:t<(v.length:Int)):(0<=t/\t<(v.length:Int))/\(0<=(gx D6 v t).1/\(gx D6 v t).1<((cols.length:Nat):Int))/\(gx D6 v t).1.toNat∉dd:=by
 have a:=c (gx D6 v t) (I5 (d:=D6) (i:=t) h.1 b);have c:cols.length=n:=h.2.2.1;exact⟨⟨h.1,b⟩,⟨a.1,by rw[c];exact a.2⟩,h.2.2.2.1 _ (by omega)⟩
def MR.next {b:Bool} (h:MR n F i v (t,(cols,dd),())) (hv:∀e∈v,0<=e.1/\e.1<(n:Int)) (ht:t<(v.length:Int)):MR n F i v (t+1,(cols.set (gx D6 v t).1.toNat (Ev (.int .i64) i b (cols.getD (gx D6 v t).1.toNat [])),dd),()):=by
 obtain⟨a,_,c,f,g⟩:=h;simp only at a c f g;refine⟨by simp only;omega,by simp only;omega,by simp only;rw[qP];exact c,f,fun j o r=> ?_⟩;have s:=hv _ (I5 (d:=D6) a ht);simp only;rw[Ra (d:=D6) a ht];have k:=g j o r;generalize gx D6 v t=e at*;by_cases l:e.1=j
 . subst l;rw[C1 (by omega)];exact A7d k rfl
 . rw[E9 (by omega)];exact A3t k l
def HH (n:Nat) (p:Int×NB×List Int×Unit):Prop:=0<=p.1/\p.1<=(n:Int)/\p.2.1.1.length=n/\(∀j,p.2.1.1.getD j []= [])/\(∀i∈p.2.1.2,p.1<=(i:Int))/\p.2.2.1.length=n/\∀i:Nat,(i:Int)<p.1->p.2.2.1.getD i 0=(i:Int)
def HH.init:HH n (0,(List.replicate n [],Nu (Ty.mp false (Ty.int i64) false Ty.bool) n),List.replicate n 0,()):=by
 refine⟨by simp only;omega,by simp only;omega,by simp only;rw[rM],fun j=> ?_,fun i _=>qF i,by simp only;rw[rM],fun i a=> ?_⟩
 . simp only;rw[qE,uO];split<;>rfl
 . simp only at a;omega
def HH.next {left:List Int} (h:HH n (t,(cols,dd),left,())) (ht:t<(n:Int)):HH n (t+1,(cols.set t.toNat [],LX t.toNat dd),left.set t.toNat t,()):=by
 obtain⟨o,_,c,d,f,g,k⟩:=h;simp only at o c d f g k;refine⟨by simp only;omega,by simp only;omega,by simp only;rw[qP];exact c,fun j=> ?_,fun i b=> ?_,by simp only;rw[qP];exact g,fun i b=> ?_⟩
 . simp only;by_cases a:j=t.toNat
   . subst a;rw[C1 (by omega)]
   . rw[E9 a];exact d j
 . simp only at b⊢;obtain⟨l,r⟩:=VP.1 b;have:=f i l;omega
 . simp only at b⊢;by_cases a:i=t.toNat
   . subst a;rw[C1 (by omega)];omega
   . rw[E9 a];exact k i (by omega)
def CG (n:Nat) (D:List (List D1)) (p:Int×List (List D1)×NB×Unit):Prop:=0<=p.1/\p.1<=(n:Int)/\p.2.1.length=n/\(∀i:Nat,(i:Int)<p.1->JO (A5 (D.getD i [])) (p.2.1.getD i []))/\p.2.2.1.1.length=n/\fW n p.2.2.1.2/\∀j:Int,0<=j->j<(n:Int)->cS p.1 (fun i=>A5 (D.getD i [])) [] j (p.2.2.1.1.getD j.toNat [])
def CG.init {left:List Int} {D:List (List D1)} (h:HH n (t,(cols,dd),left,())) (s:(n:Int)<=t):CG n D (0,List.replicate n [],(cols,dd),()):=by
 obtain⟨g,_,b,c,d,k,l⟩:=h;simp only at g b c d k l;refine⟨by simp only;omega,by simp only;omega,by simp only;rw[rM],fun i f=>by simp only at f;omega,b,fun i f r=>by have:=d i r;omega,fun j u v=> ?_⟩;simp only;rw[c];refine⟨zU,fun x=>⟨fun a=>(by cases a),fun a=> ?_⟩⟩;rcases a with⟨w,y,_⟩ | ⟨_,e,o,_⟩
 . omega
 . cases o
def CG.row {D:List (List D1)} {rs:List (List D1)} (h:CG n D (t,rs,(cols,dd),())):MR n (fun i=>A5 (D.getD i [])) t (D.getD t.toNat []) (0,(cols,dd),()):=by
 obtain⟨d,_,f,g,a,b,c⟩:=h;exact⟨qI _,qF _,a,b,fun j d f=>c j d f⟩
def CG.next {D:List (List D1)} {rs:List (List D1)} {cols2:List R0} {dd2:List Nat} {u:Int} {w:List D1} (h:CG n D (t,rs,(cols,dd),())) (ht:t<(n:Int)) {m:Int} (hv:F7 (D.getD t.toNat []) m) (hw:JO (A5 (D.getD t.toNat [])) w) (hf:MR n (fun i=>A5 (D.getD i [])) t (D.getD t.toNat []) (u,(cols2,dd2),())) (hu:((D.getD t.toNat []).length:Int)<=u):CG n D (t+1,rs.set t.toNat w,(cols2,dd2),()):=by
 obtain⟨d,_,f,g,r,s,v⟩:=h;obtain⟨o,_,a,b,c⟩:=hf;simp only at d f g r s v o a b c;refine⟨by simp only;omega,by simp only;omega,by simp only;rw[qP];exact f,fun i x=> ?_,a,b,fun j y z=> ?_⟩
 . simp only at x⊢;by_cases l:i=t.toNat
   . subst l;rw[C1 (by omega)];exact hw
   . rw[E9 l];exact g i (by omega)
 . simp only;have k:=c j y z;rw[H2 hu]at k;exact A3s k d hv rfl
def B3w (n:Nat) (M:N7) (p:Int×List Int×List Int×List Int×List Int×List (List D1)×NR×NB×Unit):Prop:=0<=p.1/\p.1<=(n:Int)/\(∀s,1<=s->Io n n (el M) s->EI n p.1.toNat (fun _=>s+s) (el M) p.2.1 p.2.2.1 p.2.2.2.1 p.2.2.2.2.1 p.2.2.2.2.2.1 p.2.2.2.2.2.2.1.1 p.2.2.2.2.2.2.2.1.1)/\fW n p.2.2.2.2.2.2.1.2/\fW n p.2.2.2.2.2.2.2.1.2
def B3w.init {M:N7} {left:List Int} {cols2:List R0} {B:List Nat} {rs:List (List D1)} {u:Int} (y:A6 M) (V:HE M) (Q:M.1=(n:Int)) (P:M.2.1=(n:Int)) (h:HH n (t,(cols2,B),left,())) (X:(n:Int)<=t) (g:CG n M.2.2 (u,rs,(cols,dd),())) (A:(n:Int)<=u):B3w n M (0,left,List.replicate n 0,List.replicate n 0,List.replicate n 0,rs,(List.replicate n [],Nu (Ty.sl (.pair (.int .i64) (.pair (.pair .bool (.sl (.int .u32))) (.sl (.int .u32))))) n),(cols,dd),()):=by
 obtain⟨G,H,I,J,N,w,x⟩:=h;obtain⟨D,E,k,l,o,r,v⟩:=g;simp only at G H I J N w x D E k l o r v;have A:u=(n:Int):=by omega
 subst A;refine⟨qI _,qF _,fun s W O=> ?_,fun i a f=>(by cases f),r⟩;have U:(M.2.2.length:Int)=(n:Int):=by rw[y.2.2.2.2.1,Q]
 have b:∀i,i<n->F7 (M.2.2.getD i []) (n:Int):=fun i a=>by
  have f:=E8 (d:=([]:List D1)) (show i<M.2.2.length by omega);exact P▸y.2.2.2.2.2 _ f
 have T:∀(i:Nat) (j:Int),i<n->qs (s+s) (A5 (M.2.2.getD i []) j):=fun i j a=>by
  by_cases c:0<=j/\j<(n:Int)
  . have:=B3p O a (show j.toNat<n by omega);unfold el at this;rw[show((j.toNat:Nat):Int)=j from by omega]at this;exact F8 this (by omega)
  . rw[D2 fun e z R=>c (by rw[<-R];exact⟨((b i a).2 e z).1,((b i a).2 e z).2.1⟩)];exact K5 (by omega)
 exact EI.start (F:=fun i=>A5 (M.2.2.getD i [])) (fun i j _ _=>rfl) w (fun i a=>x i (by omega)) rM rM rM k rM o (fun i a=>l i (by omega)) (fun i j a c=>A0v (b i a) c) (fun i j a=>T i j a) (fun i a=>by rw[qE,uO,qL a];rfl) v
def Ow:An:= {loop:= [(5,⟨[1,5,14,15],[],[(16,false,vI)],[],[(0, .row .bool 4)]⟩)]}
def QF:An:= {plan:= [(3,[0,1,2],[5],true,(.q 0 (.q 1 (.q 2 (.e 3 (.e 4 (.e 5 .done)))))))]}
def Sa:An:= {}
def Ep:A4 M9.args->Prop:=fun(x:VN)=>let b:=(x.1.length:Int);let a:=(0:Int);(iB (decide (b≠x.2.1)) (false=decide (G5 x.1 x.2.1)) ((a<=x.2.1/\x.2.1<=x.2.1/\(↑(1:Nat):Int)*x.2.1<=281474976710656/\x.2.1<=9223372036854775807)/\∃(I:B5d->Prop),∃(d: _->Nat),I (a,List.replicate x.2.1.toNat false,())/\∀(p:B5d),let h:=(decide (gx a x.1 p.1<a));let g:=(p.2.1.length:Int);let f:=(decide (x.2.1<=gx a x.1 p.1));let e:=(List.getD p.2.1 (gx a x.1 p.1).toNat false);let i:=(J5 h true f);let c:=(i64.wrap (p.1+1),List.set p.2.1 (gx a x.1 p.1).toNat true,());(Ty.int i64).wf p.1/\(List.length p.2.1<=9223372036854775807/\∀(x:Bool),x∈p.2.1->True)/\True->I p->(iB (decide (p.1<b)) ((a<=p.1/\p.1<b)/\(J5 h true f=false->a<=gx a x.1 p.1/\gx a x.1 p.1<g)/\(iB (J5 i true e) (false=decide (G5 x.1 x.2.1)) ((a<=gx a x.1 p.1/\gx a x.1 p.1<g)/\I c/\d c<d p))) (true=decide (G5 x.1 x.2.1)))))
def Ya:A4 Dg.args->Prop:=fun(x:A5v)=>let a:=(rv x.1-rv x.2.1*rv x.2.2.1);True/\Ef fun r=>r.1=(rv x.2.2.1).num.sign->(iB (decide (r.1=0)) ((rv x.2.2.1=(0:Rat)->x.1=x.1)/\(rv x.2.2.1≠(0:Rat)->x.1=rc a)) ((D9 x.2.1/\D9 x.2.2.1)/\H4 fun r=>r.1=rc (rv x.2.1*rv x.2.2.1)->(D9 x.1/\D9 r.1)/\H4 fun b=>b.1=rc (rv x.1-rv r.1)->(rv x.2.2.1=(0:Rat)->b.1=x.1)/\(rv x.2.2.1≠(0:Rat)->b.1=rc a)))
def Fz:A4 N8.args->Prop:=fun(x:A0r)=>let b:=(decide (x.1.1=x.2.1));let a:=(decide (x.1.2.1=x.2.1));(J5 b a false=true->True)/\∀(r:Y1),(J5 b a false=true->(True/\True)/\r.1=decide (A6 x.1))->J5 (J5 b a false) r.1 false=decide (sqr x.1 x.2.1)
def PI (l:List Int) (n t:Int) (s:List Bool):Prop:=0<=t/\t<=(l.length:Int)/\(s.length:Int)=n/\(∀i∈l.take t.toNat,0<=i/\i<n)/\(l.take t.toNat).Nodup/\∀k:Nat,(k:Int)<n->(s.getD k false=true↔(k:Int)∈l.take t.toNat)
def PI0 {l:List Int} {n:Int} (b:0<=n):PI l n 0 (List.replicate n.toNat false):=by
 refine⟨qI _,qF _,by rw[rM];omega,fun i a=>(by cases a),zU,fun k _=> ?_⟩;rw[qE,uO];constructor
 . intro h;split at h<;>cases h
 . intro h;cases h
def PW {l:List Int} {t:Int} (a:0<=t) (b:t<(l.length:Int)):l.take (t+1).toNat=l.take t.toNat++ [gx 0 l t]:=by
 rw[show(t+1).toNat=t.toNat+1 from by omega,rR,H3 (d:=(0:Int)) a b];rfl
def A6k {l:List Int} {n t:Int} {s:List Bool} (h:PI l n t s) (b:t<(l.length:Int)) (hb:gx 0 l t<0\/n<=gx 0 l t\/s.getD (gx 0 l t).toNat false=true):¬G5 l n:=by
 rintro⟨_,f,g⟩;obtain⟨c,_,_,_,_,j⟩:=h;have i:=I5 (d:=(0:Int)) c b;obtain⟨k,o⟩:=f _ i;rcases hb with hb|hb|hb
 . omega
 . omega
 . have:=(j (gx 0 l t).toNat (by omega)).1 hb;rw[show(((gx 0 l t).toNat:Nat):Int)=gx 0 l t from by omega]at this;have a:(l.take (t+1).toNat).Nodup:=g.take;rw[PW c b,tK]at a;exact a.2.2 _ this _ (qW.2 rfl) rfl
def A0z {l:List Int} {n t:Int} {s:List Bool} (h:PI l n t s) (b:t<(l.length:Int)) (j:0<=gx 0 l t) (o:gx 0 l t<n) (A:s.getD (gx 0 l t).toNat false=false):PI l n (t+1) (s.set (gx 0 l t).toNat true):=by
 obtain⟨c,E,w,z,x,g⟩:=h;have y:gx 0 l t∉l.take t.toNat:=fun hm=>by
  have:=(g (gx 0 l t).toNat (by omega)).2 (by rw[show(((gx 0 l t).toNat:Nat):Int)=gx 0 l t from by omega];exact hm);rw[A]at this;cases this
 refine⟨by omega,by omega,by rw[qP];exact w,fun i a=> ?_, ?_,fun k v=> ?_⟩
 . rw[PW c b,qZ,qW]at a;rcases a with a|rfl
   . exact z i a
   . exact⟨j,o⟩
 . rw[PW c b,tK];refine⟨x,by simp,fun B r D d u=> ?_⟩;rw[qW]at d;subst d u;exact y r
 . rw[PW c b,qZ,qW, <-g k v];by_cases f:(gx 0 l t).toNat=k
   . rw[f,qE,sF (by omega)];exact⟨fun _=> .inr (by omega),fun _=>rfl⟩
   . rw[qE,sQ f, <-qE];exact⟨.inl,fun h=>h.resolve_right (by omega)⟩
def Le (x:A4 M9.args) (r:awf M9.args x) (i:M9.pre x):Ep x:=by
 obtain⟨l,n,_⟩:=x;change List Int at l;change Int at n;obtain⟨g,o⟩:0<=n/\n<=16384:=i;simp only[Ep,iB];refine⟨fun h=> ?_,fun h=>⟨⟨g,qI _,by omega,by omega⟩, ?_⟩⟩
 . have h:=qA h;exact(rD fun a=>h a.1).symm
 . have h:=uR.1 (qB h);refine⟨fun p=>PI l n p.1 p.2.1,fun p=>((l.length:Int)-p.1).toNat,PI0 g, ?_⟩;rintro⟨t,s,_⟩ _ c;change Int at t;change List Bool at s;simp only at c⊢;obtain⟨j,u,k,_⟩:=id c;refine⟨fun b=> ?_,fun b=> ?_⟩
   . have b:=qA b;rw[M0,M0];refine⟨⟨j,b⟩,fun a=> ?_,fun a=> ?_,fun a=> ?_⟩
     . simp only[rE,rP]at a;omega
     . simp only[vL,rS]at a;exact(rD (A6k c b (by rcases a with(a|a) |a;exact .inl a;exact .inr (.inl a);exact .inr (.inr a)))).symm
     . simp only[rE,rP]at a;rw[wv (by omega)];exact⟨by omega,A0z c b (by omega) (by omega) a.2,by omega⟩
   . have b:=qB b;obtain⟨_,_,_,d,f,_⟩:=c;rw[H2 (by omega)]at d f;exact(rH ⟨h,d,f⟩).symm
def Lr (x:A4 N1.args) (k:awf N1.args x) (g:N1.pre x):Es x:=by
 obtain⟨l,_⟩:=x;change List Int at l;have j:l.length<=100000:=g;simp only[Es,iB];refine⟨⟨qF _,qI _,by omega,by omega⟩,fun p=>PI l (l.length:Int) p.1 p.2.1,fun p=>((l.length:Int)-p.1).toNat,PI0 (qF _), ?_⟩;rintro⟨t,s,_⟩ _ c;change Int at t;change List Bool at s;simp only at c⊢;obtain⟨h,n,i,_⟩:=id c;refine⟨fun b=> ?_,fun b=> ?_⟩
 . have b:=qA b;rw[M0,M0];refine⟨⟨h,b⟩,fun a=> ?_,fun a=> ?_,fun a=> ?_⟩
   . simp only[rE,rP]at a;omega
   . simp only[vL,rS]at a;exact(rD (A6k c b (by rcases a with(a|a) |a;exact .inl a;exact .inr (.inl a);exact .inr (.inr a)))).symm
   . simp only[rE,rP]at a;rw[wv (by omega)];exact⟨by omega,A0z c b (by omega) (by omega) a.2,by omega⟩
 . have b:=qB b;obtain⟨_,_,_,d,f,_⟩:=c;rw[H2 (by omega)]at d f;exact(rH ⟨rfl,d,f⟩).symm
def IL (x:A4 Dg.args) (j:awf Dg.args x) (u:Dg.pre x):Ya x:=by
 obtain⟨k,l,d,_⟩:=x;obtain⟨o,i,g⟩:sz K1 k/\sz K1 l/\sz K1 d:=u;have t:=HF j.2.1;have s:=HF j.2.2.1;simp only[Ya,iB,Ef,H4];refine⟨trivial, ?_⟩;rintro⟨r,_⟩ _ b;change Int at r;simp only at b⊢;refine⟨fun h=> ?_,fun h=>⟨⟨Z7 i (by decide),Z7 g (by decide)⟩, ?_⟩⟩
 . have h:=qA h;rw[b,B5x]at h;exact⟨fun _=>by trivial,fun a=>absurd h a⟩
 . have c:rv d≠0:=fun c=>qB h (by rw[b,B5x];exact c)
   rintro⟨p,_⟩ _ f;simp only at f⊢;subst f;refine⟨⟨Z7 o (by decide),J6 (Nz (Qa t i (by decide)) (Qa s g (by decide))) (by decide)⟩, ?_⟩;rintro⟨q,_⟩ _ a;simp only at a⊢;refine⟨fun n=>absurd n c,fun _=> ?_⟩;rw[a,H8]
def mvE (p:List Int) (e:D1):D1:=(p.getD e.1.toNat 0,e.2)
def eY {p:List Int} (h:G5 p (p.length:Int)) {a i:Int} (b:0<=a) (f:a<(p.length:Int)) (g:0<=i) (j:i<(p.length:Int)):p.getD a.toNat 0=i↔a=((List.idxOf i p:Nat):Int):=by
 have b:a.toNat<p.length:=by omega
 constructor
 . intro g;have l:i∈p:=g▸E8 b;have j:=yK l;have k:p[List.idxOf i p]=i:=g0w j;rw[Q3 _ _ b, <-k]at g;have:=(xT h.2.2).1 g;omega
 . intro g;have l:i∈p:=by
    obtain⟨b,f,r⟩:=W2 (n:=p.length) (q:=fun b=>(p.getD b 0).toNat) (fun b f=>by have:=h.2.1 _ (E8 (d:=0) f);omega) (fun b c f s o=>by
     have t:=h.2.1 _ (E8 (d:=0) f);have u:=h.2.1 _ (E8 (d:=0) s);have o:(p.getD b 0).toNat=(p.getD c 0).toNat:=o;have e:p.getD b 0=p.getD c 0:=by omega
     rw[Q3 _ _ f,Q3 _ _ s]at e;exact(xT h.2.2).1 e) (show i.toNat<p.length by omega)
    have t:=h.2.1 _ (E8 (d:=0) f);have r:(p.getD b 0).toNat=i.toNat:=r;rw[show i=p.getD b 0 from by omega];exact E8 f
   have j:=yK l;have k:p[List.idxOf i p]=i:=g0w j;rw[g,qT,Q3 _ _ j,k]
def A1l {p:List Int} (h:G5 p (p.length:Int)):∀ {c:List D1},(∀e∈c,0<=e.1/\e.1<(p.length:Int))->∀i,A5 (c.map (mvE p)) i=if 0<=i/\i<(p.length:Int)then A5 c ((List.idxOf i p:Nat):Int)else 0
 | [],_,i=>by split<;>rfl
 |e::c,a,i=>by
  obtain⟨f,g⟩:=a e (rJ ..);have b:=A1l h (fun x hx=>a x (qK _ hx)) i;rw[rW,A5,A5,b];have k:=h.2.1 _ (E8 (d:=0) (show e.1.toNat<p.length by omega));by_cases a:0<=i/\i<(p.length:Int)
  . rw[qL a,qL a];congr 1;show(if p.getD e.1.toNat 0=i then rv e.2 else 0)= _;by_cases b:p.getD e.1.toNat 0=i
    . rw[qL b,qL ((eY h f g a.1 a.2).1 b)]
    . rw[qH b,qH fun j=>b ((eY h f g a.1 a.2).2 j)]
  . rw[qH a,qH a,rL];exact qH fun b=>a (by rw[<-b];exact k)
def Zd (x:A4 O3.args) (a7:awf O3.args x) (V:O3.pre x):Nf x:=by
 obtain⟨v,p,_⟩:=x;change List D1 at v;change List Int at p;have B:HK K1 v/\p.length<=100000:=V;obtain⟨B,W⟩:=B;simp only[Nf,iB,Ml,fX];refine⟨W, ?_⟩;rintro⟨r,_⟩ _ E;change Bool at r;simp only at E⊢;refine⟨fun n w=> ?_,fun n=>⟨.inl B, ?_⟩⟩
 . rw[E,rH w]at n;cases n
 have w:G5 p (p.length:Int):=by
  refine qM fun O=> ?_
  rw[E,rD O]at n;cases n
 rintro⟨c,_⟩ ⟨⟨y,_⟩,_⟩ b;change List D1 at c;simp only at b y⊢;have y:c.length<=9223372036854775807:=y;refine⟨fun q=>0<=q.1/\q.1<=(c.length:Int)/\q.2.1=(c.take q.1.toNat).map (mvE p)++c.drop q.1.toNat/\∀e∈c.take q.1.toNat,0<=e.1/\e.1<(p.length:Int),fun q=>((c.length:Int)-q.1).toNat,⟨qI _,qF _,rfl,fun e a=>(by cases a)⟩, ?_⟩;rintro⟨i,u,_⟩ _ ⟨N,Z,g,d⟩;change Int at i;change List D1 at u;simp only at N Z g d⊢;refine⟨fun k=> ?_,fun k=> ?_⟩
 . have k:=qA k;have o:i.toNat<c.length:=by omega
   have U:u.length=c.length:=by rw[g,rQ,sR,qY,sP];omega
   have J:((c.take i.toNat).map (mvE p)).length=i.toNat:=by rw[sR,qY];omega
   have H:c.drop i.toNat=c.getD i.toNat D6::c.drop (i.toNat+1):=by rw[Q3 _ _ o];exact xF o
   have T:u.getD i.toNat D6=c.getD i.toNat D6:=by
    rw[g,H,qE,tJ (by omega),J,xK];rfl
   have F:c.getD i.toNat D6∈c:=E8 o;have G:0<=i/\i<(u.length:Int):=⟨N,by rw[U];exact k⟩;rw[T];refine⟨G,fun h _ l=> ?_,fun h=> ?_⟩
   . exfalso;rw[M0]at h;simp only[vL,rS]at h;have:=l (c.getD i.toNat D6).1 (by rw[<-b.2,H7 b.1.1 F];exact(b.1.2 _ F).1);omega
   . rw[M0]at h;simp only[rE,rP]at h;have l:0<=(c.getD i.toNat D6).1/\(c.getD i.toNat D6).1<(p.length:Int):=⟨by omega,by omega⟩;rw[wv (by omega),T1 l.1 l.2];have I:c.take (i+1).toNat=c.take i.toNat++ [c.getD i.toNat D6]:=by
      rw[show(i+1).toNat=i.toNat+1 from by omega];rw[rR,qS o,Q3 _ _ o];rfl
     refine⟨l,G,⟨by omega,by omega, ?_,fun e a=> ?_⟩,by omega⟩
     . rw[I,g,H,vG,uT,g2r _ _ (by omega),J,xK,show(i+1).toNat=i.toNat+1 from by omega];rfl
     . rw[I]at a;rcases qZ.1 a with a|a
       . exact d e a
       . rw[qW]at a;subst a;exact l
 . have k:=qB k;rw[H2 (by omega)]at g d;rw[sE (by omega),wB]at g;subst g;have R:F7 c (p.length:Int):=⟨b.1.1,fun e a=>⟨(d e a).1,(d e a).2,(b.1.2 e a).1⟩⟩;refine⟨?_,fun a0 _ D X _ _=>⟨⟨⟨?_,fun e a=> ?_⟩,fun j=> ?_⟩,by trivial⟩⟩
   . have:=Be R;have M:∀z:Nat,z=c.length->z<=100000:=fun z M=>by omega
     exact M _ (sR ..)
   . have A:(a0.map fun e:D1=>e.1).Nodup:=by
      rw[(D.map fun e:D1=>e.1).nodup_iff,List.map_map];have f:(c.map fun e:D1=>e.1).Nodup:=by
       unfold List.Nodup;rw[yL];exact b.1.1.imp fun h=>by omega
      unfold List.Nodup at f⊢;rw[yL]at f⊢;refine List.Pairwise.imp_of_mem (fun {s t} O Q P a=>P ?_) f;obtain⟨a2,a3⟩:=d s O;obtain⟨a4,a5⟩:=d t Q;have a:p.getD s.1.toNat 0=p.getD t.1.toNat 0:=a;rw[Q3 _ _ (by omega),Q3 _ _ (by omega)]at a;have:=(xT w.2.2).1 a;omega
     unfold List.Nodup at A;rw[yL]at A;refine List.Pairwise.imp₂ ?_ X A;intro s t f a6;have:s.1<=t.1:=by
      unfold O0 at f;split at f
      . omega
      . split at f<;>omega
     omega
   . obtain⟨a1,Y,rfl⟩:=tS.1 (D.mem_iff.1 a);exact b.1.2 a1 Y
   . rw[RJ D,A1l w d];simp only[b.2]
def Wg:An:= {loop:= [(8,⟨[2,6,36],[0,2],[(37,false,vI)],[],[]⟩)],plan:= [(10,[2,5,8,11],[],true,(.p 0 (.p 1 (.q 2 (.p 3 (.p 4 (.q 5 (.p 6 (.p 7 (.q 8 (.p 9 (.p 10 (.q 11 (.p 12 (.p 13 .done))))))))))))))),(11,[10,21,22],[],true,(pZ9 0 10 (.q 10 (pZ9 11 10 (.q 21 (.q 22 (.e 23 (.p 24 (.p 25 .done)))))))))]}
abbrev B8m:=(List Int×List Int×MM×Int×Int×List (List EE))×Int×Unit
def Ib:A4 R3.args->Prop:=fun(x:B8m)=>let h:=(1:Int);let e:Prop:=(false=true↔Y8 x.1 x.2.1);let d:=(0:Int);(d<=x.2.1/\x.2.1<=16384)/\Ml fun r=>r.1=decide (G5 x.1.1 x.2.1)->((!r.1)=false->d<=x.2.1/\x.2.1<=16384)/\∀(q:Y1),((!r.1)=false->(True/\True)/\q.1=decide (G5 x.1.2.1 x.2.1))->(iB ((J5 (!r.1) true !q.1)) (e) (True/\Ml fun n=>n.1=decide (sqr x.1.2.2.1 x.2.1)->((!n.1)=false->True)/\∀(s:Y1),((!n.1)=false->(True/\True)/\s.1=decide (sqr x.1.2.2.2 x.2.1))->(iB ((J5 (!n.1) true !s.1)) (e) (True/\H4 fun r=>r.1=ri h->∃(I:E1->Prop),∃(t: _->Nat),I (d,())/\∀(p:E1),let l:=(i64.wrap (p.1+h),());let j:=(gx [] x.1.2.2.1.2.2 p.1);let c:=(gx [] x.1.2.2.2.2.2 p.1);let k:=(decide ((gx D6 c d).1≠p.1));let i:=(↑c.length:Int);let a:=(↑j.length:Int);let g:=(decide (a=d));let b:=(gx D6 j (i64.wrap (a-h)));let f:=(decide (b.1≠p.1));(Ty.int i64).wf p.1/\True->I p->(iB (decide (p.1<x.2.1)) ((d<=p.1/\p.1<(x.1.2.2.1.2.2.length:Int))/\(d<=p.1/\p.1<(x.1.2.2.2.2.2.length:Int))/\(decide (a=d)=false->d<=i64.wrap (a-h)/\i64.wrap (a-h)<a)/\(J5 g true f=false->d<=i64.wrap (a-h)/\i64.wrap (a-h)<a)/\(J5 g true f=false->D9 b.2/\D9 r.1)/\∀(o:E1),let m:=(decide (o.1≠d));(J5 g true f=false->(Q8 o.1/\True)/\o.1=RG (rv b.2) (rv r.1))->(iB (J5 (J5 g true f) true m) (e) ((decide (i=d)=false->d<=d/\d<i)/\(iB (J5 (decide (i=d)) true k) (e) (I l/\t l<t p))))) ((true=true↔Y8 x.1 x.2.1)))))))
def Lx (x:A4 N8.args) (d:awf N8.args x) (_:N8.pre x):Fz x:=by
 obtain⟨m,n,_⟩:=x;change N7 at m;change Int at n;simp only[Fz,H9];refine⟨fun _=>trivial, ?_⟩;rintro⟨r,_⟩ c;change Bool at r;simp only at c⊢;by_cases a:m.1=n
 . by_cases b:m.2.1=n
   . rw[(c (by rw[rH a,rH b];rfl)).2,rH a,rH b,xM,xM];exact wL.2 ⟨fun h=>⟨a,b,h⟩,fun h=>h.2.2⟩
   . rw[rD b,Bool.and_false,g0r];exact(rD fun h=>b h.2.1).symm
 . rw[rD a,g0r,g0r];exact(rD fun h=>a h.1).symm
def kK {v:List D1} (h:asc v) (g:v≠ []):gx D6 v ((v.length:Int)-1)∈v/\∀x∈v,x.1<=(gx D6 v ((v.length:Int)-1)).1:=by
 have n:0<v.length:=uP.2 g;have a:=H3 (d:=D6) (l:=v) (i:=(v.length:Int)-1) (by omega) (by omega);refine⟨I5 (by omega) (by omega),fun x j=> ?_⟩;obtain⟨k,c,rfl⟩:=vV.1 j;rw[show((v.length:Int)-1).toNat=v.length-1 from by omega]at a;have b:v[v.length-1]'(by omega)=gx D6 v ((v.length:Int)-1):=by
  rw[qS (by omega)]at a;exact yB a
 rw[<-b];by_cases f:k=v.length-1
 . subst f;exact qI _
 . exact wV (tZ.1 h k (v.length-1) c (by omega) (by omega))
def A2b {v:List D1} {n:Int} (h:F7 v n) {i:Nat} (u:(i:Int)<n):(v≠ []/\(gx D6 v ((v.length:Int)-1)).1=(i:Int)/\rv (gx D6 v ((v.length:Int)-1)).2=1)↔(∀j:Nat,(j:Int)<n->i<j->A5 v (j:Int)=0)/\A5 v (i:Int)=1:=by
 constructor
 . rintro⟨c,f,a⟩;obtain⟨b,g⟩:=kK h.1 c;refine⟨fun j _ w=>D2 fun e d t=> ?_, ?_⟩
   . have:=g e d;omega
   . rw[<-f,H7 h.1 b,a]
 . rintro⟨f,a⟩;have c:v≠ []:=fun e=>by subst e;rw[Pd]at a;exact absurd a (by decide)
   obtain⟨b,g⟩:=kK h.1 c;obtain⟨x,l,z⟩:=Zq (show A5 v (i:Int)≠0 from by rw[a];decide);have s:=g x l;obtain⟨o,r,k⟩:=h.2 _ b;have d:(gx D6 v ((v.length:Int)-1)).1=(i:Int):=by
    refine qM fun y=>k ?_
    have:=f (gx D6 v ((v.length:Int)-1)).1.toNat (by omega) (by omega);rw[show(((gx D6 v ((v.length:Int)-1)).1.toNat:Nat):Int)=(gx D6 v ((v.length:Int)-1)).1 from by omega,H7 h.1 b]at this;exact this
   refine⟨c,d, ?_⟩;rw[<-H7 h.1 b,d,a]
def B1k {v:List D1} {n:Int} (h:F7 v n) {i:Nat} :(v≠ []/\(gx D6 v 0).1=(i:Int))↔(∀j:Nat,j<i->A5 v (j:Int)=0)/\A5 v (i:Int)≠0:=by
 cases v with
 |nil=>exact⟨fun a=>absurd rfl a.1,fun a=>absurd (Pd _) a.2⟩
 |cons e r=>
  have g:gx D6 (e::r) 0=e:=rfl;rw[g];have c:=(h.2 e rJ);constructor
  . rintro⟨_,a⟩;exact⟨fun j k=>PK h.1 (by omega),by rw[<-a,Ap h.1];exact c.2.2⟩
  . rintro⟨a,d⟩;refine⟨by simp,qM fun f=> ?_⟩;rcases g3t f with b|b
    . refine c.2.2 ?_;rw[<-Ap h.1];have:=a e.1.toNat (by omega);rwa[show((e.1.toNat:Nat):Int)=e.1 from by omega]at this
    . exact d (PK h.1 b)
def lK (L U:N7) (n:Int) (i:Nat):Prop:=(∀j:Nat,(j:Int)<n->i<j->el L i j=0)/\el L i i=1/\(∀j:Nat,j<i->el U i j=0)/\el U i i≠0
def A4k {P Q:List Int} {L U:N7} {n:Int} (d:G5 P n) (f:G5 Q n) (g:sqr L n) (k:sqr U n):Y8 (P,Q,L,U) n↔∀i:Nat,(i:Int)<n->lK L U n i:=by
 constructor
 . rintro⟨_,_,_,_,h⟩ i a;exact⟨fun j b c=>(h i j a b).1 c,(h i i a a).2.1,fun j b=>(h i j a (by omega)).2.2.1 b,(h i i a a).2.2.2⟩
 . intro h;exact⟨d,f,g,k,fun i j a b=>⟨fun c=>(h i a).1 j b c,(h i a).2.1,fun b=>(h i a).2.2.1 j b,(h i a).2.2.2⟩⟩
def A1k {p q:Rat} :RG p q=0↔p=q:=by
 unfold RG;by_cases a:p<q
 . rw[qL a];exact⟨fun h=>by omega,fun h=>by subst h;exact absurd a (Rat.lt_irrefl)⟩
 . rw[qH a];by_cases b:q<p
   . rw[qL b];exact⟨fun h=>by omega,fun h=>by subst h;exact absurd b (Rat.lt_irrefl)⟩
   . rw[qH b];exact⟨fun _=>Rat.le_antisymm (Rat.not_lt.1 b) (Rat.not_lt.1 a),fun _=>rfl⟩
def LB {p:Prop} (h:¬p):(false=true↔p):=⟨fun a=>(by cases a),fun hp=>absurd hp h⟩
def Rf (x:A4 R3.args) (ar:awf R3.args x) (a9:R3.pre x):Ib x:=by
 obtain⟨⟨P,Q,L,U⟩,n,_⟩:=x;change N7 at L;change N7 at U;change Int at n;obtain⟨M,W,a7,am⟩:0<=n/\n<=16384/\O5 K1 L/\O5 K1 U:=a9;simp only[Ib,iB,H4,Ml,M0];refine⟨⟨M,W⟩, ?_⟩;rintro⟨af,_⟩ _ E;change Bool at af;simp only at E⊢;refine⟨fun _=>⟨M,W⟩, ?_⟩;rintro⟨ag,_⟩ l;change Bool at ag;simp only at l⊢;by_cases y:G5 P n
 case neg=>
  rw[E,rD y];exact⟨fun _=>LB fun h=>y h.1,fun h=>by simp at h⟩
 have l:=(l (by rw[E,rH y];rfl)).2;by_cases H:G5 Q n
 case neg=>
  rw[l,rD H];exact⟨fun _=>LB fun h=>H h.2.1,fun h=>by simp at h⟩
 rw[E,l,rH y,rH H];refine⟨fun h=>by simp at h,fun _=>⟨trivial, ?_⟩⟩;rintro⟨ah,_⟩ _ F;change Bool at ah;simp only at F⊢;refine⟨fun _=>trivial, ?_⟩;rintro⟨ai,_⟩ o;change Bool at ai;simp only at o⊢;by_cases k:sqr L n
 case neg=>
  rw[F,rD k];exact⟨fun _=>LB fun h=>k h.2.2.1,fun h=>by simp at h⟩
 have o:=(o (by rw[F,rH k];rfl)).2;by_cases z:sqr U n
 case neg=>
  rw[o,rD z];exact⟨fun _=>LB fun h=>z h.2.2.2.1,fun h=>by simp at h⟩
 rw[F,o,rH k,rH z];refine⟨fun h=>by simp at h,fun _=>⟨trivial, ?_⟩⟩;rintro⟨one,_⟩ _ N;change C7 at one;simp only at N⊢;have V:=A4k y H k z;obtain⟨ad,ae,Z⟩:=k;obtain⟨aj,ak,a1⟩:=z;have ao:(L.2.2.length:Int)=n:=Z.2.2.2.2.1.trans ad;have aq:(U.2.2.length:Int)=n:=a1.2.2.2.2.1.trans aj;have X:rv one=1:=by rw[N];exact bH 1
 have aa:D9 one:=by rw[N, <-fB];exact J6 (Ny (by decide)) (by decide)
 refine⟨fun p=>0<=p.1/\p.1<=n/\∀i:Nat,(i:Int)<p.1->lK L U n i,fun p=>(n-p.1).toNat,⟨qI _,M,fun i T=>by omega⟩, ?_⟩;rintro⟨t,_⟩ _ r;change Int at t;simp only at r⊢;obtain⟨A,au,r⟩:=r;refine⟨fun u=> ?_,fun u=> ?_⟩
 . have u:=qA u;have Y:F7 (gx [] L.2.2 t) n:=by have:=Z.2.2.2.2.2 _ (I5 (d:= []) A (show t<(L.2.2.length:Int)by omega));rwa[ae]at this
   have ac:F7 (gx [] U.2.2 t) n:=by have:=a1.2.2.2.2.2 _ (I5 (d:= []) A (show t<(U.2.2.length:Int)by omega));rwa[ak]at this
   have ab:=a7 _ (I5 (d:= []) A (show t<(L.2.2.length:Int)by omega));have R:((t.toNat:Nat):Int)=t:=by omega
   have a0:=A2b Y (i:=t.toNat) (by omega);have a2:=B1k ac (i:=t.toNat);rw[R]at a0 a2;have G:lK L U n t.toNat↔((∀j:Nat,(j:Int)<n->t.toNat<j->A5 (gx [] L.2.2 t) (j:Int)=0)/\A5 (gx [] L.2.2 t) t=1)/\(∀j:Nat,j<t.toNat->A5 (gx [] U.2.2 t) (j:Int)=0)/\A5 (gx [] U.2.2 t) t≠0:=by
    unfold lK el;rw[R];exact(and_assoc (a:=∀j:Nat,(j:Int)<n->t.toNat<j->A5 (L.2.2.getD t.toNat []) (j:Int)=0)).symm
   rw[<-a0, <-a2]at G;have O:¬lK L U n t.toNat->¬Y8 (P,Q,L,U) n:=fun h hh=>h (V.1 hh t.toNat (by omega))
   have f:∀ {v:List D1},((v.length:Int)=0)↔v= []:=fun {v} =>⟨fun h=>qN (by omega),fun h=>by rw[h];rfl⟩
   have an:=Be Y;have w:(gx [] L.2.2 t)≠ []->i64.wrap (((gx [] L.2.2 t).length:Int)-1)=((gx [] L.2.2 t).length:Int)-1:=fun h=>by
    have:=uP.2 h;exact wv (by omega)
   refine⟨⟨A,by omega⟩,⟨A,by omega⟩,fun h=> ?_,fun h=> ?_,fun h=> ?_, ?_⟩
   . have h:=mt f.2 (qB h);have:=uP.2 h;rw[w h];omega
   . simp only[rE]at h;have h:=mt f.2 (qB h.1);have:=uP.2 h;rw[w h];omega
   . simp only[rE]at h;have h:=mt f.2 (qB h.1);have ap:=uP.2 h;rw[w h];exact⟨Z7 (ab _ (I5 (by omega) (by omega))) (by decide),aa⟩
   rintro⟨c,_⟩ b;change Int at c;simp only at b⊢;refine⟨fun h=>LB (O fun s=> ?_),fun h=>⟨fun g=>⟨qI _, ?_⟩,fun g=>LB (O fun s=> ?_),fun g=> ?_⟩⟩
   . obtain⟨⟨D,J,a6⟩,_⟩:=G.1 s;rw[w D]at b h;have B:decide (((gx [] L.2.2 t).length:Int)=0)=false:=rD (mt f.1 D);have I:decide ((gx D6 (gx [] L.2.2 t) (((gx [] L.2.2 t).length:Int)-1)).1≠t)=false:=rD (by rw[uR];exact J);rw[B,I]at b h;have b:=(b rfl).2;rw[X,a6]at b;rw[b,A1k.2 rfl]at h;simp at h
   . have:=mt f.2 (qB g);have:=uP.2 this;omega
   . obtain⟨_,D,J⟩:=G.1 s;rw[rD (mt f.1 D),rD (by rw[uR];exact J)]at g;simp at g
   . simp only[rE]at h g;have B:=mt f.2 (qB h.1.1);rw[w B]at b h;have I:=uR.1 (qB h.1.2);have a3:=uR.1 (qB h.2);have b:=(b (by rw[h.1.1,h.1.2];rfl)).2;rw[a3,X]at b;have a4:=mt f.2 (qB g.1);have a5:=uR.1 (qB g.2);have s:=G.2 ⟨⟨B,I,A1k.1 b.symm⟩,a4,a5⟩;rw[wv (by omega)];refine⟨⟨by omega,by omega,fun i T=> ?_⟩,by omega⟩;by_cases a8:i=t.toNat
     . subst a8;exact s
     . exact r i (by omega)
 . have u:=qB u;exact⟨fun _=>V.2 fun i T=>r i (by omega),fun _=>trivial⟩
noncomputable def BD:G8:= [(97,Av)]
def AP:An:= {loop:= [(3,⟨[1,3,24],[0,1,2,3,4,5,6,7,8,9,10,13],[(25,false,vI)],[],[(11, .nest (.mp false (.int .i64) false .bool) 134 4),(12, .row (.int .i64) 3)]⟩),(13,⟨[3,5,44,45,46,59,60],[0,1,2,3,4,5,6,7,9,10,12,13],[(61,false,vI)],[],[(11, .nest (.mp false (.int .i64) false .bool) 134 4)]⟩),(9,⟨[3,44,45],[0,1,2,3,4,5,6,7,10,12,13],[(46,false,vI)],[],[(9, .row (.sl tE) 67),(11, .nest (.mp false (.int .i64) false .bool) 134 4)]⟩)],plan:= [(1,[1,4,7,10],[],true,(.p 0 (.q 1 (.p 3 (.q 4 (.p 6 (.q 7 (.p 9 (.q 10 (.al [2,5,8,11] [12] (.e 13 (.p 14 .done)))))))))))),(11,[3],[8],true,(pZ9 0 3 (.q 3 (.p 4 (.p 5 (.e 6 (.p 7 (.e 8 .done)))))))),(15,[3,5],[9],false,(pZ9 0 3 (.q 3 (.p 4 (.q 5 (.p 6 (.p 8 (.e 7 (.e 9 .done)))))))))]}
noncomputable def Tg:G8:= []
def Ru:An:= {plan:= [(1,[0,3,4,7,10],[],false,(.q 0 (.p 1 (.p 2 (.q 3 (.q 4 (.p 5 (.p 6 (.q 7 (.p 8 (.p 9 (.q 10 (.p 11 (.e 12 (.e 13 (.p 14 .done))))))))))))))))]}
noncomputable def Ti:G8:= []
def Rw:An:= {plan:= [(1,[0,3,4,7,10],[],false,(.q 0 (.p 1 (.p 2 (.q 3 (.q 4 (.p 5 (.p 6 (.q 7 (.p 8 (.p 9 (.q 10 (.p 11 (.e 12 (.e 13 (.p 14 .done))))))))))))))))]}
noncomputable def Tj:G8:= []
def Rx:An:= {plan:= [(1,[0,3,4,7,10],[],false,(.q 0 (.p 1 (.p 2 (.q 3 (.q 4 (.p 5 (.p 6 (.q 7 (.p 8 (.p 9 (.q 10 (.p 11 (.e 12 (.e 13 (.p 14 .done))))))))))))))))]}
noncomputable def Tk:G8:= []
def Ry:An:= {plan:= [(1,[0,3,4,7,10],[],false,(.q 0 (.p 1 (.p 2 (.q 3 (.q 4 (.p 5 (.p 6 (.q 7 (.p 8 (.p 9 (.q 10 (.p 11 (.e 12 (.e 13 (.p 14 .done))))))))))))))))]}
noncomputable def BE:G8:= [(98,Dx (Xb ⟨prog,OZ⟩ [(20,Tg,Ru),(23,Ti,Rw),(28,Tj,Rx),(33,Tk,Ry)] f98.results.toList (f98.body.getD .skip) f98.ntmps))]
def AQ:An:= {join:= [(8,⟨[1,6,14,15],[1,2,3,4,5,6,7,9,10,13,14,15],[(5,false,vI)],[],[(11, .nest (.mp false (.int .i64) false .bool) 134 4)]⟩),(10,⟨[1,6],[1,2,3,4,5,6,7,9,10,13,14,15],[(5,false,vI)],[],[(11, .nest (.mp false (.int .i64) false .bool) 134 4)]⟩),(14,⟨[1,3],[1,2,3,4,5,6,7,15],[],[(13,100,[.fix 9, .fix 10, .fix 11, .own (.int .i64) 3])],[(9, .row (.sl tE) 67),(10, .nest (.sl tE) 67 70),(11, .nest (.mp false (.int .i64) false .bool) 134 4)]⟩),(20,⟨[3],[1,2,3,4,5,6,7,9,10,13,17],[(2,false,vI)],[],[(11, .nest (.mp false (.int .i64) false .bool) 134 4)]⟩)],loop:= [(4,⟨[1,6,14],[1,2,3,4,5,6,7,9,10,13,14,15],[(5,false,vI),(15,false,vI)],[],[(11, .nest (.mp false (.int .i64) false .bool) 134 4)]⟩),(16,⟨[1,3,66],[1,2,3,4,5,6,7,9,10,11,13,15,17],[(2,false,vI)],[],[(19, .itM false (.int .i64) false .bool 18)]⟩)],plan:= [(13,[1,4,7,10],[14,17],false,(.q 1 (.p 2 (.p 3 (.q 4 (.p 5 (.p 6 (.q 7 (.p 8 (.p 9 (.q 10 (pZ9 11 3 (.or 0 (.e 14 (.p 15 (.p 16 (.e 17 .done)))) (.e 14 (.e 0 (.p 15 (.p 16 (.e 17 .done)))))))))))))))))),(18,[3,6,9,11,14,17,22,25,28,30,33,36],[],true,(pZ9 0 3 (.q 3 (.p 4 (.p 5 (.q 6 (.p 7 (.p 8 (.q 9 (.p 10 (.q 11 (.p 12 (.p 13 (.q 14 (.p 15 (.p 16 (.q 17 (pZ9 18 4 (.q 22 (.p 23 (.p 24 (.q 25 (.p 26 (.p 27 (.q 28 (.p 29 (.q 30 (.p 31 (.p 32 (.q 33 (.p 34 (.p 35 (.q 36 (pZ9 37 8 .done))))))))))))))))))))))))))))))))))]}
noncomputable def Tl:G8:= []
def Rz:An:= {loop:= [(1,⟨[0,2,6,7],[1,2,3,4,5,6,7,9,10,13,15,16,17],[(8,false,vI)],[],[(11, .nest (.mp false (.int .i64) false .bool) 134 4)]⟩)],plan:= [(3,[0,3,5],[9],false,(.q 0 (.p 1 (.p 2 (.q 3 (.p 4 (.q 5 (.p 6 (.p 8 (.e 7 (.e 9 .done)))))))))))]}
noncomputable def Qy:G8:= []
def Ov:An:= {loop:= [(1,⟨[0,2,6,7],[1,2,3,4,5,6,7,9,10,13,15,16,17,18,19],[(8,false,vI)],[],[(11, .nest (.mp false (.int .i64) false .bool) 134 4)]⟩)],plan:= [(3,[0,3,5],[9],false,(.q 0 (.p 1 (.p 2 (.q 3 (.p 4 (.q 5 (.p 6 (.p 8 (.e 7 (.e 9 .done)))))))))))]}
noncomputable def BF:G8:= [(36,X5),(38,S8),(96,K8),(100,X4),(101,Ct),(99,Dx (Xb ⟨prog,OZ⟩ [(29,Tl,Rz),(107,Qy,Ov)] f99.results.toList (f99.body.getD .skip) f99.ntmps))]
def AR:An:= {join:= [(10,⟨[1,3,4,8,9,10],[1,2,3,4,5,6,7,9,10,13,15,16,17,18],[(12,false,[.own (.int .i64) 3])],[],[(11, .nest (.mp false (.int .i64) false .bool) 134 4)]⟩),(14,⟨[1,3,4,8,9,10,15,53,54,55],[1,2,3,4,5,6,7,9,10,11,13,15,16,17,18,19],[(16,false,[.fixB 20])],[(20,31,[.val .bool, .val (.sl (.int .u32)), .val (.sl (.int .u32))])],[]⟩),(15,⟨[1,3,4,8,9,10,15,16,53,54,55],[1,2,3,4,5,6,7,9,11,13,15,16,17,18,19,20],[],[],[(10, .nest (.sl tE) 67 70)]⟩)],loop:= [(7,⟨[1,3,4,8,9,10,44],[1,2,3,4,5,6,7,9,10,11,13,15,16,17,18],[(12,false,[.own (.int .i64) 3])],[],[(20, .itM false (.int .i64) false .bool 19)]⟩),(18,⟨[1,3,4,8,9,10,15,53,54,55,114,115],[1,2,3,4,5,6,7,9,10,13,15,16,17,18,19],[(116,false,vI)],[],[(11, .nest (.mp false (.int .i64) false .bool) 134 4)]⟩),(11,⟨[1,3,4,8,9,10,53,54],[1,2,3,4,5,6,7,13,15,16,17,18,19],[(55,false,vI)],[],[(9, .row (.sl tE) 67),(10, .nest (.sl tE) 67 70),(11, .nest (.mp false (.int .i64) false .bool) 134 4)]⟩)],plan:= [(13,[0,3,6,9],[12],true,(.q 0 (.p 1 (.p 2 (.q 3 (.p 4 (.p 5 (.q 6 (.p 7 (.q 9 (.or 8 (.or 10 (.e 11 (.e 12 .done)) (.e 11 (.e 10 (.e 12 .done)))) (.e 11 (.e 8 (.e 10 (.e 12 .done))))))))))))))),(14,[5,8,13],[16,18],false,(.p 4 (.q 5 (.p 6 (.p 7 (.q 8 (.p 9 (.p 10 (.p 12 (.q 13 (.p 14 (.or 0 (.p 1 (.p 2 (.or 3 (.or 11 (.e 15 (.e 16 (.p 17 (.e 18 .done)))) (.e 15 (.e 11 (.e 16 (.p 17 (.e 18 .done)))))) (.or 11 (.or 3 (.e 15 (.e 16 (.p 17 (.e 18 .done)))) (.e 15 (.or 3 (.e 16 (.p 17 (.e 18 .done))) (.e 16 (.e 3 (.p 17 (.e 18 .done))))))) (.e 15 (.or 3 (.e 11 (.e 16 (.p 17 (.e 18 .done)))) (.e 11 (.or 3 (.e 16 (.p 17 (.e 18 .done))) (.e 16 (.e 3 (.p 17 (.e 18 .done)))))))))))) (.or 11 (.or 0 (.p 1 (.p 2 (.or 3 (.e 15 (.e 16 (.p 17 (.e 18 .done)))) (.e 15 (.or 3 (.e 16 (.p 17 (.e 18 .done))) (.e 16 (.e 3 (.p 17 (.e 18 .done))))))))) (.e 15 (.or 0 (.p 1 (.p 2 (.or 3 (.e 16 (.p 17 (.e 18 .done))) (.e 16 (.e 3 (.p 17 (.e 18 .done))))))) (.e 16 (.e 0 (.p 1 (.p 2 (.e 3 (.p 17 (.e 18 .done)))))))))) (.e 15 (.or 0 (.p 1 (.p 2 (.or 3 (.e 11 (.e 16 (.p 17 (.e 18 .done)))) (.e 11 (.or 3 (.e 16 (.p 17 (.e 18 .done))) (.e 16 (.e 3 (.p 17 (.e 18 .done))))))))) (.e 11 (.or 0 (.p 1 (.p 2 (.or 3 (.e 16 (.p 17 (.e 18 .done))) (.e 16 (.e 3 (.p 17 (.e 18 .done))))))) (.e 16 (.e 0 (.p 1 (.p 2 (.e 3 (.p 17 (.e 18 .done)))))))))))))))))))))))),(15,[0,3,5,8,11,12,14],[17],true,(.q 0 (.p 1 (.p 2 (.q 3 (.p 4 (.q 5 (.p 6 (.p 7 (.q 8 (.p 9 (.p 10 (.q 11 (.q 12 (.q 14 (.e 13 (.e 15 (.p 16 (.e 17 .done))))))))))))))))))),(20,[0,3,5],[9],false,(.q 0 (.p 1 (.p 2 (.q 3 (.p 4 (.q 5 (.p 6 (.p 8 (.e 7 (.e 9 .done)))))))))))]}
def Ou:An:= {join:= [(13,⟨[2,5,6,7,8,45,46],[1,2,3,4,5,6,7],[(9,false,vI),(10,false,vI),(11,false,[.val .bool])],[(13,100,[.fix 9, .fix 10, .fix 11, .own (.int .i64) 3])],[(9, .row (.sl tE) 67),(10, .nest (.sl tE) 67 70),(11, .nest (.mp false (.int .i64) false .bool) 134 4)]⟩),(16,⟨[2,5,6,7,8,9,10,45,46],[1,4,5,6,9,10,11,13,15],[],[],[(2, .row (.int .i64) 3),(3, .row (.int .i64) 3),(7, .row (.int .i64) 3)]⟩),(22,⟨[2,5,6,7,12,13,79,80,81],[1,2,3,5,6,9,11,13,14],[],[],[(4, .row (.sl tE) 67),(10, .nest (.sl tE) 67 70)]⟩)],loop:= [(10,⟨[2,5,6,7,45],[1,4,5,6],[(46,false,vI)],[(13,100,[.fix 9, .fix 10, .fix 11, .own (.int .i64) 3])],[(2, .row (.int .i64) 3),(3, .row (.int .i64) 3),(7, .row (.int .i64) 3),(9, .row (.sl tE) 67),(10, .nest (.sl tE) 67 70),(11, .nest (.mp false (.int .i64) false .bool) 134 4)]⟩),(19,⟨[2,5,7,79,80],[1,2,3,6,9,11,13,14],[(6,false,[.val (.sl (.int .i64))]),(81,false,vI)],[],[(4, .row (.sl tE) 67),(5, .row (.sl tE) 67),(10, .nest (.sl tE) 67 70)]⟩)],plan:= [(6,[],[16],true,(.p 0 (.p 2 (pZ9 4 3 (pZ9 9 3 (.al [1,3,7,12,15] [8,13,14] (.e 16 .done))))))),(15,[1],[12,14,16],false,(.p 0 (.q 1 (.p 2 (.p 3 (pZ9 5 7 (.or 4 (.e 12 (.p 13 (.e 14 (.p 15 (.e 16 .done))))) (.e 12 (.e 4 (.p 13 (.e 14 (.p 15 (.e 16 .done))))))))))))),(21,[7],[15,17],false,(.p 0 (.p 1 (pZ9 3 4 (.q 7 (.p 8 (.p 9 (.p 11 (.or 2 (.or 10 (.e 12 (.p 13 (.e 14 (.e 15 (.p 16 (.e 17 .done)))))) (.e 12 (.p 13 (.or 10 (.e 14 (.e 15 (.p 16 (.e 17 .done)))) (.e 14 (.e 10 (.e 15 (.p 16 (.e 17 .done))))))))) (.or 10 (.or 2 (.e 12 (.p 13 (.e 14 (.e 15 (.p 16 (.e 17 .done)))))) (.e 12 (.p 13 (.or 2 (.e 14 (.e 15 (.p 16 (.e 17 .done)))) (.e 14 (.or 2 (.e 15 (.p 16 (.e 17 .done))) (.e 15 (.e 2 (.p 16 (.e 17 .done)))))))))) (.e 12 (.p 13 (.or 2 (.or 10 (.e 14 (.e 15 (.p 16 (.e 17 .done)))) (.e 14 (.e 10 (.e 15 (.p 16 (.e 17 .done)))))) (.or 10 (.or 2 (.e 14 (.e 15 (.p 16 (.e 17 .done)))) (.e 14 (.or 2 (.e 15 (.p 16 (.e 17 .done))) (.e 15 (.e 2 (.p 16 (.e 17 .done))))))) (.e 14 (.or 2 (.e 10 (.e 15 (.p 16 (.e 17 .done)))) (.e 10 (.or 2 (.e 15 (.p 16 (.e 17 .done))) (.e 15 (.e 2 (.p 16 (.e 17 .done)))))))))))))))))))))),(22,[2,7,10],[17],true,(.p 0 (.p 1 (.q 2 (pZ9 3 4 (.q 7 (.p 8 (.p 9 (.q 10 (.p 11 (.e 12 (pZ9 13 4 (.e 17 .done)))))))))))))]}
noncomputable def Qx:G8:= [(35,O2),(52,P4),(60,O3),(57,Dx (Xb ⟨prog,OZ⟩ [(44,BD,AP)] f57.results.toList (f57.body.getD .skip) f57.ntmps)),(58,Dx (Xb ⟨prog,OZ⟩ [(51,BE,AQ)] f58.results.toList (f58.body.getD .skip) f58.ntmps)),(59,Dx (Xb ⟨prog,OZ⟩ [(76,BF,AR)] f59.results.toList (f59.body.getD .skip) f59.ntmps))]
abbrev C0j:=(List (List EE)×List Nat)×Unit
abbrev C0r:=Int×(List (Int×Bool)×List (Int×Bool))×Unit
abbrev C0s:=Int×(List (List (Int×Bool))×List Nat)×List Int×Unit
abbrev IJ:=Int×(List (List (Int×Bool))×List Nat)×Unit
abbrev C0t:=Int×Int×(List (List (Int×Bool))×List Nat)×Unit
abbrev C0u:=Int×Int×Bool×List Int×List (List EE)×(List (List EE)×List Nat)×(List (List (Int×Bool))×List Nat)×Unit
abbrev C0y:=Int×List (List EE)×(List (List (Int×Bool))×List Nat)×Unit
abbrev C0z:=Int×List (List EE)×(List (List EE)×List Nat)×(List (List (Int×Bool))×List Nat)×Unit
abbrev C1a:=Int×List Int×List Int×List Int×List Int×List (List EE)×(List (List EE)×List Nat)×(List (List (Int×Bool))×List Nat)×Unit
abbrev C1c:=List (List EE)×(List (List EE)×List Nat)×Unit
abbrev C1g:=List Int×(List (Int×Bool)×List (Int×Bool))×Unit
abbrev C1h:=List Int×(List (List (Int×Bool))×List Nat)×Unit
abbrev C1n:=List Int×Int×List (List EE)×List (List EE)×(List (List EE)×List Nat)×Unit
abbrev C1r:=List Int×List (List EE)×(List (List EE)×List Nat)×(List (List (Int×Bool))×List Nat)×Unit
abbrev C1s:=List Int×List Int×List Int×Unit
def Hd:A4 Q9.args->Prop:=fun(x:Az)=>let ai:=(64:Nat);let bd:=(281474976710656:Int);let bb:=x.1.2.1.toNat;let ac:=(6:Int);let ab:=(4:Int);let b7:=(9223372036854775807:Int);let ba:=(x.1.2.2.length:Int);let ad:=x.1.1.toNat;let X:=(140737488355328:Nat);let Q:Prop:=(∀(v:List EE),v∈ []->T2 v);let D:=(1:Int);let d:=(0:Int);let V:Prop:=(d<=x.1.2.1/\x.1.2.1<=x.1.2.1/\(↑(8:Nat):Int)*x.1.2.1<=bd/\x.1.2.1<=b7);let F:Prop:=(d<=x.1.1/\x.1.1<=x.1.1/\(↑(8:Nat):Int)*x.1.1<=bd/\x.1.1<=b7);let A:Prop:=(∀(T:Nat),(1:Nat)<=T->Io x.1.1.toNat x.1.1.toNat (el x.1) T->∀(i j:Nat),i<x.1.1.toNat->qs (T+T) (el (d,d,[]) i j)/\qs (T+T) (el (d,d,[]) i j));let t:Prop:=(d<=x.1.1/\x.1.1<=x.1.1/\(↑(24:Nat):Int)*x.1.1<=bd/\x.1.1<=b7);True/\∀(r:Y1),True/\True->r.1=decide (A6 x.1)->((!r.1)=true->(¬A6 x.1->([],[],(d,d,[]),d,d,[])=YW/\D=D)/\(A6 x.1->(x.1.1≠x.1.2.1->([],[],(d,d,[]),d,d,[])=YW/\D=ab)/\(x.1.1=x.1.2.1->(¬nonsing x.1.1.toNat (el x.1)->([],[],(d,d,[]),d,d,[])=YW/\D=ac)/\(nonsing x.1.1.toNat (el x.1)->Y8 ([],[],(d,d,[]),d,d,[]) x.1.1/\D=d/\Q/\Q/\A/\∀(i j:Nat),i<x.1.1.toNat->j<x.1.1.toNat->oV ([],[],(d,d,[]),d,d,[]) x.1.1.toNat i j=el x.1 (ix [] i) (ix [] j)))))/\((!r.1)=false->(decide (x.1.1≠x.1.2.1)=true->(¬A6 x.1->([],[],(d,d,[]),d,d,[])=YW/\ab=D)/\(A6 x.1->(x.1.1≠x.1.2.1->([],[],(d,d,[]),d,d,[])=YW/\ab=ab)/\(x.1.1=x.1.2.1->(¬nonsing x.1.1.toNat (el x.1)->([],[],(d,d,[]),d,d,[])=YW/\ab=ac)/\(nonsing x.1.1.toNat (el x.1)->Y8 ([],[],(d,d,[]),d,d,[]) x.1.1/\ab=d/\Q/\Q/\A/\∀(i j:Nat),i<x.1.1.toNat->j<x.1.1.toNat->oV ([],[],(d,d,[]),d,d,[]) x.1.1.toNat i j=el x.1 (ix [] i) (ix [] j)))))/\(decide (x.1.1≠x.1.2.1)=false->F/\F/\t/\t/\F/\t/\t/\V/\V/\∃(I:C0s->Prop),∃(w: _->Nat),I (d,(List.replicate bb [],Nu (Ty.mp false (Ty.int i64) false Ty.bool) bb),List.replicate bb d,())/\∀(p:C0s),let ah:=p.1.toNat;(Ty.int i64).wf p.1/\p.2.1.1.length.le 9223372036854775807/\YZ p.2.2.1/\True->I p->(decide (p.1<x.1.2.1)=true->(d<=p.1/\p.1<(↑p.2.1.1.length:Int))/\(d<=p.1/\p.1<(p.2.2.1.length:Int))/\I (i64.wrap (p.1+D),(p.2.1.1.set ah [],LX ah p.2.1.2),List.set p.2.2.1 ah p.1,())/\w (i64.wrap (p.1+D),(p.2.1.1.set ah [],LX ah p.2.1.2),List.set p.2.2.1 ah p.1,())<w p)/\(decide (p.1<x.1.2.1)=false->∃(I:C0y->Prop),∃(w: _->Nat),I (d,List.replicate ad [],p.2.1,())/\∀(z:C0y),let E:=(gx [] x.1.2.2 z.1);let bh:=(↑E.length:Int);(Ty.int i64).wf z.1/\CX z.2.1/\z.2.2.1.1.length.le 9223372036854775807/\True->I z->(decide (z.1<ba)=true->(d<=z.1/\z.1<ba)/\Kc E/\∀(r:Rc),AO r.1/\True->JO (A5 E) r.1->(d<=z.1/\z.1<(z.2.1.length:Int))/\∃(I_1:IJ->Prop),∃(an: _->Nat),I_1 (d,z.2.2.1,())/\∀(p:IJ),let b3:=(gx D6 E p.1);let al:=b3.1.toNat;let bm:=(i64.wrap (z.1+D),List.set z.2.1 z.1.toNat r.1,p.2.1,());(Ty.int i64).wf p.1/\p.2.1.1.length.le 9223372036854775807/\True->I_1 p->(decide (p.1<bh)=true->(d<=p.1/\p.1<bh)/\(d<=b3.1/\b3.1<(↑p.2.1.1.length:Int))/\¬Int.toNat b3.1∈p.2.1.2/\I_1 (i64.wrap (p.1+D),(p.2.1.1.set al (Ev (Ty.int i64) z.1 true (p.2.1.1.getD al [])),p.2.1.2),())/\an (i64.wrap (p.1+D),(p.2.1.1.set al (Ev (Ty.int i64) z.1 true (p.2.1.1.getD al [])),p.2.1.2),())<an p)/\(decide (p.1<bh)=false->I bm/\w bm<w z))/\(decide (z.1<ba)=false->∃(I:C1a->Prop),∃(w: _->Nat),I (d,p.2.2.1,List.replicate ad d,List.replicate ad d,List.replicate ad d,z.2.1,(List.replicate ad [],Nu tE.sl ad),z.2.2.1,())/\∀(b:C1a),let bq:Prop:=(d<=b.1/\b.1<(b.2.2.2.1.length:Int));let av:=(b.2.2.1.length:Int);let a3:=(↑b.2.1.length:Int);(Ty.int i64).wf b.1/\(Ty.int i64).sl.wf b.2.1/\YZ b.2.2.1/\YZ b.2.2.2.1/\YZ b.2.2.2.2.1/\CX b.2.2.2.2.2.1/\b.2.2.2.2.2.2.1.1.length.le 9223372036854775807/\b.2.2.2.2.2.2.2.1.1.length.le 9223372036854775807/\True->I b->(decide (b.1<x.1.1)=true->∃(J:C0u->Prop),(∃(J_1:IJ->Prop),(∃(I:C0t->Prop),∃(w: _->Nat),I (d,d,b.2.2.2.2.2.2.2.1,())/\∀(a:C0t),let bv:=(↑a.2.2.1.1.length:Int);let Z:=a.1.toNat;let a2:=a.2.1.toNat;let H:Prop:=((↑(a.2.2.1.1.getD (b.2.1.getD a2 d).toNat []).length:Int)<(↑((a.2.2.1.1.set (b.2.1.getD a2 d).toNat (a.2.2.1.1.getD (b.2.1.getD a2 d).toNat [])).getD (b.2.1.getD Z d).toNat []).length:Int));(Ty.int i64).wf a.1/\(Ty.int i64).wf a.2.1/\a.2.2.1.1.length.le 9223372036854775807/\True->I a->(decide (a.2.1<a3)=true->∃(J:IJ->Prop),((d<=a.2.1/\a.2.1<a3)/\(d<=b.2.1.getD a2 d/\b.2.1.getD a2 d<bv)/\¬(b.2.1.getD a2 d).toNat∈a.2.2.1.2/\(a.2.2.1.1.getD (b.2.1.getD a2 d).toNat []).length<=9223372036854775807/\(d<=a.1/\a.1<a3)/\(d<=b.2.1.getD Z d/\b.2.1.getD Z d<bv)/\¬(b.2.1.getD Z d).toNat∈a.2.2.1.2/\((a.2.2.1.1.set (b.2.1.getD a2 d).toNat (a.2.2.1.1.getD (b.2.1.getD a2 d).toNat [])).getD (b.2.1.getD Z d).toNat []).length<=9223372036854775807/\(decide H=true->J (a.2.1,((a.2.2.1.1.set (b.2.1.getD a2 d).toNat (a.2.2.1.1.getD (b.2.1.getD a2 d).toNat [])).set (b.2.1.getD Z d).toNat ((a.2.2.1.1.set (b.2.1.getD a2 d).toNat (a.2.2.1.1.getD (b.2.1.getD a2 d).toNat [])).getD (b.2.1.getD Z d).toNat []),a.2.2.1.2),()))/\(decide H=false->J (a.1,((a.2.2.1.1.set (b.2.1.getD a2 d).toNat (a.2.2.1.1.getD (b.2.1.getD a2 d).toNat [])).set (b.2.1.getD Z d).toNat ((a.2.2.1.1.set (b.2.1.getD a2 d).toNat (a.2.2.1.1.getD (b.2.1.getD a2 d).toNat [])).getD (b.2.1.getD Z d).toNat []),a.2.2.1.2),())))/\∀(h:IJ),let P:=h.1.toNat;let bo:Prop:=((↑(h.2.1.1.getD (b.2.1.getD P d).toNat []).length:Int)<=D);(Ty.int i64).wf h.1/\h.2.1.1.length.le 9223372036854775807/\True->J h->(d<=h.1/\h.1<a3)/\(d<=b.2.1.getD P d/\b.2.1.getD P d<(↑h.2.1.1.length:Int))/\¬(b.2.1.getD P d).toNat∈h.2.1.2/\(h.2.1.1.getD (b.2.1.getD P d).toNat []).length<=9223372036854775807/\(decide bo=true->J_1 (h.1,(h.2.1.1.set (b.2.1.getD P d).toNat (h.2.1.1.getD (b.2.1.getD P d).toNat []),h.2.1.2),()))/\(decide bo=false->I (h.1,i64.wrap (a.2.1+D),(h.2.1.1.set (b.2.1.getD P d).toNat (h.2.1.1.getD (b.2.1.getD P d).toNat []),h.2.1.2),())/\w (h.1,i64.wrap (a.2.1+D),(h.2.1.1.set (b.2.1.getD P d).toNat (h.2.1.1.getD (b.2.1.getD P d).toNat []),h.2.1.2),())<w a))/\(decide (a.2.1<a3)=false->J_1 (a.1,a.2.2.1,())))/\∀(a:IJ),let az:=(i64.wrap (a.1+D));let G:Prop:=((Int.toNat a.1+(List.drop az.toNat (List.take a3.toNat b.2.1)).length)*(8:Nat)<=X/\Int.toNat a.1+(List.drop az.toNat (List.take a3.toNat b.2.1)).length<=9223372036854775807);let B:=a.1.toNat;let bp:=(↑(a.2.1.1.getD (b.2.1.getD B d).toNat []).length:Int);(Ty.int i64).wf a.1/\a.2.1.1.length.le 9223372036854775807/\True->J_1 a->(d<=a.1/\a.1<a3)/\(d<=b.2.1.getD B d/\b.2.1.getD B d<(↑a.2.1.1.length:Int))/\¬(b.2.1.getD B d).toNat∈a.2.1.2/\(a.2.1.1.getD (b.2.1.getD B d).toNat []).length<=9223372036854775807/\(decide (bp=d)=true->J (d,d,false,b.2.1,b.2.2.2.2.2.1,b.2.2.2.2.2.2.1,(a.2.1.1.set (b.2.1.getD B d).toNat (a.2.1.1.getD (b.2.1.getD B d).toNat []),a.2.1.2),()))/\(decide (bp=d)=false->(d<=a.1/\a.1<a3)/\∃(J_2:C1r->Prop),((d<=d/\d<=a.1/\a.1<=a3)/\(d<=i64.wrap (a.1+D)/\i64.wrap (a.1+D)<=a3/\a3<=a3)/\(G/\J_2 (List.take B b.2.1++List.drop az.toNat (List.take a3.toNat b.2.1),b.2.2.2.2.2.1,b.2.2.2.2.2.2.1,(a.2.1.1.set (b.2.1.getD B d).toNat (a.2.1.1.getD (b.2.1.getD B d).toNat []),a.2.1.2),()))/\G/\J_2 (List.take B b.2.1++List.drop az.toNat (List.take a3.toNat b.2.1),b.2.2.2.2.2.1,b.2.2.2.2.2.2.1,(a.2.1.1.set (b.2.1.getD B d).toNat (a.2.1.1.getD (b.2.1.getD B d).toNat []),a.2.1.2),()))/\∀(h:C1r),let aw:=(h.2.1.length:Int);(Ty.int i64).sl.wf h.1/\CX h.2.1/\h.2.2.1.1.length.le 9223372036854775807/\h.2.2.2.1.1.length.le 9223372036854775807/\True->J_2 h->∃(J_3:IJ->Prop),((d<=b.2.1.getD B d/\b.2.1.getD B d<(↑h.2.2.2.1.1.length:Int))/\¬(b.2.1.getD B d).toNat∈h.2.2.2.1.2/\∃(I:C0r->Prop),∃(w: _->Nat),I ((-1:Int),(h.2.2.2.1.1.getD (b.2.1.getD B d).toNat [],h.2.2.2.1.1.getD (b.2.1.getD B d).toNat []),())/\∀(l:C0r),let ao:=(decide (l.1<d));let bs:=(↑(List.getD h.2.1 l.1.toNat []).length:Int);(Ty.int i64).wf l.1/\(∀(x:Int×Bool),x∈l.2.1.2->Q8 x.1/\True)/\True->I l->(l.2.1.2= []->(false=true->False)/\(false=false->J_3 (l.1,(h.2.2.2.1.1.set (b.2.1.getD B d).toNat l.2.1.1,h.2.2.2.1.2),())))/\∀(ak:List (Int×Bool)) (a4:Int×Bool) (am:List (Int×Bool)),let bt:=(↑(List.getD h.2.1 a4.1.toNat []).length:Int);let b0:=(l.2.1.1,ak++am);let U:=(J5 (decide (bt=bs)) (decide (a4.1<l.1)) false);let b5:=(decide (bt<bs));l.2.1.2=ak++a4::am->(true=true->(decide (l.1<d)=false->d<=a4.1/\a4.1<aw)/\(decide (l.1<d)=false->d<=l.1/\l.1<aw)/\(J5 ao true b5=false->d<=a4.1/\a4.1<aw)/\(J5 ao true b5=false->d<=l.1/\l.1<aw)/\(J5 (J5 ao true b5) true U=true->I (a4.1,b0,())/\w (a4.1,b0,())<w l)/\(J5 (J5 ao true b5) true U=false->I (l.1,b0,())/\w (l.1,b0,())<w l))/\(true=false->J_3 (l.1,(h.2.2.2.1.1,(b.2.1.getD B d).toNat::h.2.2.2.1.2),())))/\∀(p:IJ),(Ty.int i64).wf p.1/\p.2.1.1.length.le 9223372036854775807/\True->J_3 p->J (p.1,b.2.1.getD B d,true,h.1,h.2.1,h.2.2.1,p.2.1,())))/\∀(a:C0u),let b1:=a.2.1.toNat;let bn:Prop:=(d<=a.2.1/\a.2.1<(b.2.2.2.2.1.length:Int));let R:=(List.set b.2.2.1 b.1.toNat a.1,List.set b.2.2.2.1 b.1.toNat a.2.1,List.set b.2.2.2.2.1 b1 b.1,());let af:=(List.getD a.2.2.2.2.1 a.1.toNat []);let ag:=(↑af.length:Int);(Ty.int i64).wf a.1/\(Ty.int i64).wf a.2.1/\Ty.bool.wf a.2.2.1/\(Ty.int i64).sl.wf a.2.2.2.1/\CX a.2.2.2.2.1/\a.2.2.2.2.2.1.1.length.le 9223372036854775807/\a.2.2.2.2.2.2.1.1.length.le 9223372036854775807/\True->J a->((!a.2.2.1)=true->(¬A6 x.1->([],[],(d,d,[]),d,d,[])=YW/\ac=D)/\(A6 x.1->(x.1.1≠x.1.2.1->([],[],(d,d,[]),d,d,[])=YW/\ac=ab)/\(x.1.1=x.1.2.1->(¬nonsing x.1.1.toNat (el x.1)->([],[],(d,d,[]),d,d,[])=YW/\ac=ac)/\(nonsing x.1.1.toNat (el x.1)->Y8 ([],[],(d,d,[]),d,d,[]) x.1.1/\ac=d/\Q/\Q/\A/\∀(i j:Nat),i<x.1.1.toNat->j<x.1.1.toNat->oV ([],[],(d,d,[]),d,d,[]) x.1.1.toNat i j=el x.1 (ix [] i) (ix [] j)))))/\((!a.2.2.1)=false->∃(J:C1s->Prop),((d<=b.1/\b.1<av)/\(bq/\bn/\J R)/\bq/\bn/\J R)/\∀(h:C1s),YZ h.1/\YZ h.2.1/\YZ h.2.2.1/\True->J h->(d<=a.1/\a.1<(a.2.2.2.2.1.length:Int))/\∃(I_1:IJ->Prop),∃(an: _->Nat),I_1 (d,a.2.2.2.2.2.2.1,())/\∀(l:IJ),let bw:=(↑l.2.1.1.length:Int);let ay:=(gx D6 af l.1);let ar:=ay.1.toNat;(Ty.int i64).wf l.1/\l.2.1.1.length.le 9223372036854775807/\True->I_1 l->(decide (l.1<ag)=true->(d<=l.1/\l.1<ag)/\(d<=ay.1/\ay.1<bw)/\¬Int.toNat ay.1∈l.2.1.2/\I_1 (i64.wrap (l.1+D),(l.2.1.1.set ar (Ns (Ty.int i64) a.1 (l.2.1.1.getD ar [])),l.2.1.2),())/\an (i64.wrap (l.1+D),(l.2.1.1.set ar (Ns (Ty.int i64) a.1 (l.2.1.1.getD ar [])),l.2.1.2),())<an l)/\(decide (l.1<ag)=false->HK K1 af/\∀(a7:H5),Wb a7.1/\True->a7.1=rc (A5 af a.2.1)->D9 a7.1/\∀(a9:mJ),Wb a9.1/\True/\True->(rv a7.1=(0:Rat)->a9.2.1=false)/\(rv a7.1≠(0:Rat)->a9.1=rc (rv a7.1)⁻¹/\a9.2.1=true)->∃(J:C1h->Prop),((d<=a.2.1/\a.2.1<bw)/\¬Int.toNat a.2.1∈l.2.1.2/\∃(I:C1g->Prop),∃(w: _->Nat),I ([],(l.2.1.1.getD b1 [],l.2.1.1.getD b1 []),())/\∀(p:C1g),(Ty.int i64).sl.wf p.1/\(∀(x:Int×Bool),x∈p.2.1.2->Q8 x.1/\True)/\True->I p->(p.2.1.2= []->(false=true->False)/\(false=false->J (p.1,(l.2.1.1.set b1 p.2.1.1,l.2.1.2),())))/\∀(ak:List (Int×Bool)) (a4:Int×Bool) (am:List (Int×Bool)),let bj:=(p.1++ [a4.1],(p.2.1.1,ak++am),());p.2.1.2=ak++a4::am->(true=true->((p.1.length+ [a4.1].length)*(8:Nat)<=X/\p.1.length+ [a4.1].length<=9223372036854775807)/\I bj/\w bj<w p)/\(true=false->J (p.1,(l.2.1.1,Int.toNat a.2.1::l.2.1.2),())))/\∀(f:C1h),let bc:=(↑f.1.length:Int);(Ty.int i64).sl.wf f.1/\f.2.1.1.length.le 9223372036854775807/\True->J f->∃(I_2:C0z->Prop),∃(bx: _->Nat),I_2 (d,a.2.2.2.2.1,a.2.2.2.2.2.1,f.2.1,())/\∀(g:C0z),let Y:=(i64.wrap (b.1+D),a.2.2.2.1,h.1,h.2.1,h.2.2.1,g.2.1,g.2.2.1,g.2.2.2.1,());let e:=g.1.toNat;let W:Prop:=(d<=f.1.getD e d/\f.1.getD e d<(g.2.1.length:Int));let K:=(List.getD g.2.1 (f.1.getD e d).toNat []);let a6:Prop:=(d<=f.1.getD e d/\f.1.getD e d<(↑g.2.2.1.1.length:Int));(Ty.int i64).wf g.1/\CX g.2.1/\g.2.2.1.1.length.le 9223372036854775807/\g.2.2.2.1.1.length.le 9223372036854775807/\True->I_2 g->(decide (g.1<bc)=true->(d<=g.1/\g.1<bc)/\∃(J:mG->Prop),(W/\(HK K1 K/\∀(r:H5),Wb r.1/\True->r.1=rc (A5 K a.2.1)->((D9 r.1/\D9 a9.1)/\∀(y:H5),Wb y.1/\True->y.1=rc (rv r.1*rv a9.1)->J (y.1.1.1,y.1.1.2,y.1.2,()))/\(D9 r.1/\D9 a9.1)/\∀(y:H5),Wb y.1/\True->y.1=rc (rv r.1*rv a9.1)->J (y.1.1.1,y.1.1.2,y.1.2,()))/\HK K1 K/\∀(r:H5),Wb r.1/\True->r.1=rc (A5 K a.2.1)->(D9 r.1/\D9 a9.1)/\∀(y:H5),Wb y.1/\True->y.1=rc (rv r.1*rv a9.1)->J (y.1.1.1,y.1.1.2,y.1.2,()))/\∀(aa:mG),let be:=(aa.1,aa.2.1);let a5:=(b.1,be,aa.2.2.1);let a8:Prop:=(((g.2.2.1.1.getD (f.1.getD e d).toNat []).length+ [a5].length)*ai<=X/\(g.2.2.1.1.getD (f.1.getD e d).toNat []).length+ [a5].length<=9223372036854775807);Ty.bool.wf aa.1/\(Ty.int u32).sl.wf aa.2.1/\(Ty.int u32).sl.wf aa.2.2.1/\True->J aa->∃(J:C0j->Prop),let n:Prop:=(¬(f.1.getD e d).toNat∈g.2.2.1.2/\a8/\a6/\(f.1.getD e d).toNat=(f.1.getD e d).toNat/\J ((g.2.2.1.1.set (f.1.getD e d).toNat (g.2.2.1.1.getD (f.1.getD e d).toNat []++ [a5]),g.2.2.1.2),()));let c:Prop:=(a8/\a6/\(f.1.getD e d).toNat=(f.1.getD e d).toNat/\J ((g.2.2.1.1.set (f.1.getD e d).toNat (g.2.2.1.1.getD (f.1.getD e d).toNat []++ [a5]),g.2.2.1.2),()));let O:Prop:=(c/\a8/\a6/\(f.1.getD e d).toNat=(f.1.getD e d).toNat/\J ((g.2.2.1.1.set (f.1.getD e d).toNat (g.2.2.1.1.getD (f.1.getD e d).toNat []++ [a5]),g.2.2.1.2),()));(a6/\((n/\¬(f.1.getD e d).toNat∈g.2.2.1.2/\a8/\a6/\(f.1.getD e d).toNat=(f.1.getD e d).toNat/\J ((g.2.2.1.1.set (f.1.getD e d).toNat (g.2.2.1.1.getD (f.1.getD e d).toNat []++ [a5]),g.2.2.1.2),()))/\(¬(f.1.getD e d).toNat∈g.2.2.1.2/\c/\c/\a8/\a6/\(f.1.getD e d).toNat=(f.1.getD e d).toNat/\J ((g.2.2.1.1.set (f.1.getD e d).toNat (g.2.2.1.1.getD (f.1.getD e d).toNat []++ [a5]),g.2.2.1.2),()))/\n/\¬(f.1.getD e d).toNat∈g.2.2.1.2/\c/\a8/\a6/\(f.1.getD e d).toNat=(f.1.getD e d).toNat/\J ((g.2.2.1.1.set (f.1.getD e d).toNat (g.2.2.1.1.getD (f.1.getD e d).toNat []++ [a5]),g.2.2.1.2),()))/\(¬(f.1.getD e d).toNat∈g.2.2.1.2/\(c/\c/\a8/\a6/\(f.1.getD e d).toNat=(f.1.getD e d).toNat/\J ((g.2.2.1.1.set (f.1.getD e d).toNat (g.2.2.1.1.getD (f.1.getD e d).toNat []++ [a5]),g.2.2.1.2),()))/\O/\a8/\a6/\(f.1.getD e d).toNat=(f.1.getD e d).toNat/\J ((g.2.2.1.1.set (f.1.getD e d).toNat (g.2.2.1.1.getD (f.1.getD e d).toNat []++ [a5]),g.2.2.1.2),()))/\(n/\¬(f.1.getD e d).toNat∈g.2.2.1.2/\c/\a8/\a6/\(f.1.getD e d).toNat=(f.1.getD e d).toNat/\J ((g.2.2.1.1.set (f.1.getD e d).toNat (g.2.2.1.1.getD (f.1.getD e d).toNat []++ [a5]),g.2.2.1.2),()))/\¬(f.1.getD e d).toNat∈g.2.2.1.2/\O/\a8/\a6/\(f.1.getD e d).toNat=(f.1.getD e d).toNat/\J ((g.2.2.1.1.set (f.1.getD e d).toNat (g.2.2.1.1.getD (f.1.getD e d).toNat []++ [a5]),g.2.2.1.2),()))/\∀(bi:C0j),bi.1.1.length.le 9223372036854775807/\True->J bi->W/\D9 (be,aa.2.2.1)/\∀(y:H5),Wb y.1/\True->y.1=rc (-rv (be,aa.2.2.1))->(HK K1 K/\sz K1 y.1/\HK K1 af)/\∀(b4:Rc),let N:=(List.set g.2.1 (f.1.getD e d).toNat b4.1);let b8:=(↑(N.getD (f.1.getD e d).toNat []).length:Int);AO b4.1/\True->JO (fun(i:Int)=>A5 K i+rv y.1*A5 af i) b4.1->W/\∃(I:IJ->Prop),∃(w: _->Nat),I (d,g.2.2.2.1,())/\∀(a0:IJ),let ax:=(gx D6 af a0.1);let au:=ax.1.toNat;(Ty.int i64).wf a0.1/\a0.2.1.1.length.le 9223372036854775807/\True->I a0->(decide (a0.1<ag)=true->(d<=a0.1/\a0.1<ag)/\(d<=ax.1/\ax.1<(↑a0.2.1.1.length:Int))/\¬Int.toNat ax.1∈a0.2.1.2/\I (i64.wrap (a0.1+D),(a0.2.1.1.set au (Ns (Ty.int i64) (f.1.getD e d) (a0.2.1.1.getD au [])),a0.2.1.2),())/\w (i64.wrap (a0.1+D),(a0.2.1.1.set au (Ns (Ty.int i64) (f.1.getD e d) (a0.2.1.1.getD au [])),a0.2.1.2),())<w a0)/\(decide (a0.1<ag)=false->(d<=f.1.getD e d/\f.1.getD e d<(↑N.length:Int))/\∃(I:IJ->Prop),∃(w: _->Nat),I (d,a0.2.1,())/\∀(a1:IJ),let bk:=(i64.wrap (g.1+D),List.set g.2.1 (f.1.getD e d).toNat b4.1,bi.1,a1.2.1,());let m:=(gx D6 (N.getD (f.1.getD e d).toNat []) a1.1);let b2:=m.1.toNat;(Ty.int i64).wf a1.1/\a1.2.1.1.length.le 9223372036854775807/\True->I a1->(decide (a1.1<b8)=true->(d<=a1.1/\a1.1<b8)/\(d<=m.1/\m.1<(↑a1.2.1.1.length:Int))/\¬Int.toNat m.1∈a1.2.1.2/\I (i64.wrap (a1.1+D),(a1.2.1.1.set b2 (Ev (Ty.int i64) (f.1.getD e d) true (a1.2.1.1.getD b2 [])),a1.2.1.2),())/\w (i64.wrap (a1.1+D),(a1.2.1.1.set b2 (Ev (Ty.int i64) (f.1.getD e d) true (a1.2.1.1.getD b2 [])),a1.2.1.2),())<w a1)/\(decide (a1.1<b8)=false->I_2 bk/\bx bk<bx g)))/\(decide (g.1<bc)=false->I Y/\w Y<w b))))/\(decide (b.1<x.1.1)=false->∃(I:C1n->Prop),∃(w: _->Nat),I (b.2.2.2.2.1,d,List.replicate ad [],List.replicate ad [],b.2.2.2.2.2.2.1,())/\∀(a:C1n),let bu:=(x.1.1,x.1.1,a.2.2.1);let b6:=(a.1.length:Int);let s:=a.2.1.toNat;let o:=(b.2.2.1,b.2.2.2.1,bu,x.1.1,x.1.1,a.2.2.2.1);let k:Prop:=(d<=a.2.1/\a.2.1<(a.2.2.1.length:Int));let u:=(List.getD b.2.2.1 s d);let b9:=(List.getD b.2.2.2.2.2.1 u.toNat []);(Ty.int i64).sl.wf a.1/\(Ty.int i64).wf a.2.1/\CX a.2.2.1/\CX a.2.2.2.1/\a.2.2.2.2.1.1.length.le 9223372036854775807/\True->I a->(decide (a.2.1<av)=true->(d<=a.2.1/\a.2.1<av)/\∃(J:C1c->Prop),((d<=List.getD b.2.2.1 s d/\List.getD b.2.2.1 s d<(↑a.2.2.2.2.1.1.length:Int))/\((¬u.toNat∈a.2.2.2.2.1.2/\True/\∀(r:H5),let bf:=(a.2.1,r.1);Wb r.1/\True->r.1=ri D->(((a.2.2.2.2.1.1.getD u.toNat []).length+ [bf].length)*ai<=X/\(a.2.2.2.2.1.1.getD u.toNat []).length+ [bf].length<=9223372036854775807)/\k/\J (List.set a.2.2.1 s (a.2.2.2.2.1.1.getD u.toNat []++ [bf]),(a.2.2.2.2.1.1,u.toNat::a.2.2.2.2.1.2),()))/\True/\∀(r:H5),let ap:=(a.2.1,r.1);let L:Prop:=(((a.2.2.2.2.1.1.getD u.toNat []).length+ [ap].length)*ai<=X/\(a.2.2.2.2.1.1.getD u.toNat []).length+ [ap].length<=9223372036854775807);Wb r.1/\True->r.1=ri D->(¬u.toNat∈a.2.2.2.2.1.2/\L/\k/\J (List.set a.2.2.1 s (a.2.2.2.2.1.1.getD u.toNat []++ [ap]),(a.2.2.2.2.1.1,u.toNat::a.2.2.2.2.1.2),()))/\¬u.toNat∈a.2.2.2.2.1.2/\L/\k/\J (List.set a.2.2.1 s (a.2.2.2.2.1.1.getD u.toNat []++ [ap]),(a.2.2.2.2.1.1,u.toNat::a.2.2.2.2.1.2),()))/\(¬u.toNat∈a.2.2.2.2.1.2/\(True/\∀(r:H5),let bg:=(a.2.1,r.1);Wb r.1/\True->r.1=ri D->(((a.2.2.2.2.1.1.getD u.toNat []).length+ [bg].length)*ai<=X/\(a.2.2.2.2.1.1.getD u.toNat []).length+ [bg].length<=9223372036854775807)/\k/\J (List.set a.2.2.1 s (a.2.2.2.2.1.1.getD u.toNat []++ [bg]),(a.2.2.2.2.1.1,u.toNat::a.2.2.2.2.1.2),()))/\True/\∀(r:H5),let aq:=(a.2.1,r.1);let q:Prop:=(((a.2.2.2.2.1.1.getD u.toNat []).length+ [aq].length)*ai<=X/\(a.2.2.2.2.1.1.getD u.toNat []).length+ [aq].length<=9223372036854775807);let S:Prop:=(q/\k/\J (List.set a.2.2.1 s (a.2.2.2.2.1.1.getD u.toNat []++ [aq]),(a.2.2.2.2.1.1,u.toNat::a.2.2.2.2.1.2),()));Wb r.1/\True->r.1=ri D->S/\S/\q/\k/\J (List.set a.2.2.1 s (a.2.2.2.2.1.1.getD u.toNat []++ [aq]),(a.2.2.2.2.1.1,u.toNat::a.2.2.2.2.1.2),()))/\True/\∀(r:H5),let ae:=(a.2.1,r.1);let aj:Prop:=(((a.2.2.2.2.1.1.getD u.toNat []).length+ [ae].length)*ai<=X/\(a.2.2.2.2.1.1.getD u.toNat []).length+ [ae].length<=9223372036854775807);let M:Prop:=(¬u.toNat∈a.2.2.2.2.1.2/\aj/\k/\J (List.set a.2.2.1 s (a.2.2.2.2.1.1.getD u.toNat []++ [ae]),(a.2.2.2.2.1.1,u.toNat::a.2.2.2.2.1.2),()));let C:Prop:=(aj/\k/\J (List.set a.2.2.1 s (a.2.2.2.2.1.1.getD u.toNat []++ [ae]),(a.2.2.2.2.1.1,u.toNat::a.2.2.2.2.1.2),()));Wb r.1/\True->r.1=ri D->(M/\¬u.toNat∈a.2.2.2.2.1.2/\aj/\k/\J (List.set a.2.2.1 s (a.2.2.2.2.1.1.getD u.toNat []++ [ae]),(a.2.2.2.2.1.1,u.toNat::a.2.2.2.2.1.2),()))/\(¬u.toNat∈a.2.2.2.2.1.2/\C/\C/\aj/\k/\J (List.set a.2.2.1 s (a.2.2.2.2.1.1.getD u.toNat []++ [ae]),(a.2.2.2.2.1.1,u.toNat::a.2.2.2.2.1.2),()))/\M/\¬u.toNat∈a.2.2.2.2.1.2/\C/\aj/\k/\J (List.set a.2.2.1 s (a.2.2.2.2.1.1.getD u.toNat []++ [ae]),(a.2.2.2.2.1.1,u.toNat::a.2.2.2.2.1.2),()))/\∀(h:C1c),CX h.1/\h.2.1.1.length.le 9223372036854775807/\True->J h->(d<=List.getD b.2.2.1 s d/\List.getD b.2.2.1 s d<(b.2.2.2.2.2.1.length:Int))/\(HK K1 b9/\List.length a.1<=100000)/\∀(a7:List EE×Bool×Unit),let bl:=(a.1,i64.wrap (a.2.1+D),h.1,List.set a.2.2.2.1 s a7.1,h.2.1,());AO a7.1/\True/\True->(G5 a.1 b6->(∀(j:Int),A5 b9 j≠(0:Rat)->d<=j/\j<b6)->JO (fun(i:Int)=>if d<=i/\i<b6 then A5 b9 (↑(List.idxOf i a.1):Int)else(0:Rat)) a7.1/\a7.2.1=true)->(d<=a.2.1/\a.2.1<(a.2.2.2.1.length:Int))/\I bl/\w bl<w a)/\(decide (a.2.1<av)=false->(¬A6 x.1->o=YW/\d=D)/\(A6 x.1->(x.1.1≠x.1.2.1->o=YW/\d=ab)/\(x.1.1=x.1.2.1->(¬nonsing x.1.1.toNat (el x.1)->o=YW/\d=ac)/\(nonsing x.1.1.toNat (el x.1)->Y8 o x.1.1/\d=d/\(∀(v:List EE),v∈a.2.2.1->T2 v)/\(∀(v:List EE),v∈a.2.2.2.1->T2 v)/\(∀(T:Nat),(1:Nat)<=T->Io x.1.1.toNat x.1.1.toNat (el x.1) T->∀(i j:Nat),i<x.1.1.toNat->qs (T+T) (el bu i j)/\qs (T+T) (el (x.1.1,x.1.1,a.2.2.2.1) i j))/\∀(i j:Nat),i<x.1.1.toNat->j<x.1.1.toNat->oV o x.1.1.toNat i j=el x.1 (ix b.2.2.1 i) (ix b.2.2.2.1 j))))))))))
def BJ (x:A4 Q9.args):B8d prog OZ Qx Ou Q9 f24 x=Hd x:=by kernel_rfl
def C2k (n:Nat) (M:N7) (rest:List Int) (rows lower:List (List D1)) (cols:List R0) (q:Int×Int×Bool×List Int×List (List D1)×NR×NB×Unit):Prop:=q.2.2.2.2.1=rows/\q.2.2.2.2.2.1.1=lower/\fW n q.2.2.2.2.2.1.2/\q.2.2.2.2.2.2.1.1=cols/\fW n q.2.2.2.2.2.2.1.2/\(q.2.2.1=false->¬nonsing n (el M))/\(q.2.2.1=true->q.2.1∈rest/\q.1∈keys (cols.getD q.2.1.toNat [])/\q.2.2.2.1.Nodup/\∀x,x∈q.2.2.2.1↔x∈rest/\x≠q.2.1)
def B5o (n:Nat) (rest:List Int) (cols:List R0) (q:Int×NB×Unit):Prop:=0<=q.1/\q.1<(rest.length:Int)/\q.2.1.1=cols/\fW n q.2.1.2
def B9d (n:Nat) (rest:List Int) (cols:List R0) (q:Int×Int×NB×Unit):Prop:=0<=q.1/\q.1<(rest.length:Int)/\0<=q.2.1/\q.2.1<=(rest.length:Int)/\q.2.2.1.1=cols/\fW n q.2.2.1.2
def C2l (n:Nat) (rest:List Int) (b:Nat) (rows lower:List (List D1)) (cols:List R0) (q:List Int×List (List D1)×NR×NB×Unit):Prop:=q.1=rest.take b++rest.drop (b+1)/\q.2.1=rows/\q.2.2.1.1=lower/\fW n q.2.2.1.2/\q.2.2.2.1.1=cols/\fW n q.2.2.2.1.2
def C2t (es:R0) (q:Int×(R0×R0)×Unit):Prop:=q.2.1.1=es/\(∀y∈q.2.1.2,y∈es)/\((q.1<0/\q.2.1.2.length=es.length)\/q.1∈keys es)
def C2u (n:Nat) (cols:List R0) (c:Int) (q:Int×NB×Unit):Prop:=q.1∈keys (cols.getD c.toNat [])/\q.2.1.1=cols/\fW n q.2.1.2
def C2r (es:R0) (q:List Int×(R0×R0)×Unit):Prop:=q.2.1.1=es/\(q.1++keys q.2.1.2).Perm (keys es)
def C2s (n:Nat) (cols:List R0) (c:Int) (q:List Int×NB×Unit):Prop:=q.1.Perm (keys (cols.getD c.toNat []))/\q.2.1.1=cols/\fW n q.2.1.2
def L9 (n:Nat) (M:N7) (k:Nat) (rest P:List Int) (rows lower:List (List D1)) (r c:Int) (a:List Int) (q:Int×List (List D1)×NR×NB×Unit):Prop:=0<=q.1/\q.1<=(a.length:Int)/\(∀s,1<=s->Io n n (el M) s->CI n k (s+s) rest P rows lower r c (a.take q.1.toNat) q.2.1 q.2.2.1.1 q.2.2.2.1.1)/\fW n q.2.2.1.2/\fW n q.2.2.2.1.2
def B9j (x:Rat) (q:Bool×List Int×List Int×Unit):Prop:=((q.1,q.2.1),q.2.2.1)=rc x
def C2o (n:Nat) (P place:List Int) (rows lower:List (List D1)) (q:List Int×Int×List (List D1)×List (List D1)×NR×Unit):Prop:=q.1=place/\0<=q.2.1/\q.2.1<=(n:Int)/\q.2.2.1.length=n/\q.2.2.2.1.length=n/\q.2.2.2.2.1.1=lower/\(∀m∈q.2.2.2.2.1.2,n<=m\/∃a:Nat,(a:Int)<q.2.1/\m=ix P a)/\(∀a:Nat,(a:Int)<q.2.1->q.2.2.1.getD a []=lower.getD (ix P a) []++ [((a:Int),rc 1)])/\∀a:Nat,(a:Int)<q.2.1->JO (fun i=>if 0<=i/\i<(n:Int)then A5 (rows.getD (ix P a) []) ((List.idxOf i place:Nat):Int)else 0) (q.2.2.2.1.getD a [])
def EI.okFin {n k:Nat} {S:Nat->Nat} {A:Nat->Nat->Rat} {rest P Q place:List Int} {rows lower:List (List D1)} {cols:List R0} (h:EI n k S A rest P Q place rows lower cols) (b:n<=16384) {a:Nat} (d:a<k) (f:S a<=K1):HK K1 (rows.getD (ix P a) []):=by
 obtain⟨b,c,_⟩:=h.can _ (h.elim.plt a d);have:=Be (n:=(n:Int)) (v:=rows.getD (ix P a) []) ⟨b.1,fun e he=>⟨(c e he).1,(c e he).2,(b.2 e he).1⟩⟩;exact⟨b.1,GT b fun j=>F8 (h.fin a d j) f,by omega⟩
def EI.cnt {n k:Nat} {S:Nat->Nat} {A:Nat->Nat->Rat} {rest P Q place:List Int} {rows lower:List (List D1)} {cols:List R0} (h:EI n k S A rest P Q place rows lower cols) (a:n<=16384) {i:Int} (b:0<=i) (c:i<(rest.length:Int)):(0<=rest.getD i.toNat 0/\rest.getD i.toNat 0<((cols.length:Nat):Int))/\(rest.getD i.toNat 0).toNat<n/\(cols.getD (rest.getD i.toNat 0).toNat []).length<=9223372036854775807/\rest.getD i.toNat 0∈rest:=by
 have a:rest.getD i.toNat 0∈rest:=E8 (by omega);obtain⟨b,c1⟩:=h.crange a;have:=h.colLen a;rw[h.lcols];exact⟨⟨b,c1⟩,by omega,by omega,a⟩
set_option maxHeartbeats 4000000
def BK (x:A4 Q9.args) (bx:awf Q9.args x) (f8:Q9.pre x):Hd x:=by
 obtain⟨⟨R,C,D⟩,_⟩:=x;have f0:HE (R,C,D):=Jf bx.1.2.2.2;change Int at R C;change List (List D1)at D;obtain⟨fh,ew⟩:O5 K1 (R,C,D)/\(A6 (R,C,D)->R=C->∃T:Nat,1<=T/\8*T+8<=K1/\Io R.toNat R.toNat (el (R,C,D)) T):=f8;simp only[Hd];refine⟨trivial, ?_⟩;rintro⟨r,_⟩ _ M;simp only at M⊢;by_cases a6:A6 (R,C,D)
 case neg=>
  have M:r=false:=by rw[M];exact rD a6
  rw[M];exact⟨fun _=>⟨fun _=>⟨rfl,trivial⟩,fun h=>absurd h a6⟩,fun h=>(by cases h)⟩
 have M:r=true:=by rw[M];exact rH a6
 rw[M];obtain⟨g2,g3,g4,g5,ed,ee⟩:=id a6;simp only at g2 g3 g4 g5 ed ee;refine⟨fun h=>(by cases h),fun _=>⟨fun bs=> ?_,fun cd=> ?_⟩⟩
 . have bs:=qA bs;exact⟨fun h=>absurd a6 h,fun _=>⟨fun _=>⟨rfl,trivial⟩,fun h=>absurd h bs⟩⟩
 have cd:R=C:=qM (qB cd);subst cd;obtain⟨n,rfl⟩:∃n:Nat,R=(n:Int):=⟨R.toNat,by omega⟩;obtain⟨W,co,gu,bw⟩:=ew a6 rfl;rw[qT]at bw;simp only[qT];have az:0<=(n:Int)/\(n:Int)<=(n:Int)/\8*(n:Int)<=281474976710656/\(n:Int)<=9223372036854775807:=⟨by omega,qI _,by omega,by omega⟩;have bf:0<=(n:Int)/\(n:Int)<=(n:Int)/\24*(n:Int)<=281474976710656/\(n:Int)<=9223372036854775807:=⟨by omega,qI _,by omega,by omega⟩;refine⟨az,az,bf,bf,az,bf,bf,az,az,HH n,fun p=>((n:Int)-p.1).toNat,HH.init, ?_⟩;rintro⟨t,⟨cols,dd⟩,left,_⟩ _ J;change Int at t;change List R0 at cols;simp only;have bq:=J.1;have dp:=J.2.1;have f1:cols.length=n:=J.2.2.1;have f2:left.length=n:=J.2.2.2.2.2.1;simp only at bq dp;refine⟨fun f=> ?_,fun f=> ?_⟩
 . have f:=qA f;rw[wv (by omega)];exact⟨⟨bq,by omega⟩,⟨bq,by omega⟩,J.next f,by omega⟩
 have f:=qB f;have ck:(n:Int)<=t:=by omega
 have gl:(D.length:Int)=(n:Int):=ed;refine⟨CG n D,fun p=>((n:Int)-p.1).toNat,CG.init J ck, ?_⟩;rintro⟨X,eb,⟨cols1,d0⟩,_⟩ _ ak;change Int at X;change List (List D1)at eb;change List R0 at cols1;simp only;have ar:=ak.1;have dx:=ak.2.1;have fe:eb.length=n:=ak.2.2.1;simp only at ar dx;refine⟨fun A=> ?_,fun A=> ?_⟩
 . have A:=qA A;have fi:X<(n:Int):=by omega
   have cj:=I5 (d:=([]:List D1)) ar A;rw[Nn ar A]at cj⊢;have cr:=ee _ cj;have a5:=fF a6 fh cj;refine⟨⟨ar,A⟩, .inl ⟨a5.1,a5.2.1,a5.2.2⟩, ?_⟩;rintro⟨av,_⟩ _ bx;change List D1 at av;simp only at bx⊢;refine⟨⟨ar,by omega⟩,MR n (fun i=>A5 (D.getD i [])) X (D.getD X.toNat []),fun p=>(((D.getD X.toNat []).length:Int)-p.1).toNat,ak.row, ?_⟩;rintro⟨bz,⟨cols2,d1⟩,_⟩ _ b6;change Int at bz;change List R0 at cols2;simp only;have et:=b6.1;have eu:=b6.2.1;simp only at et eu;have e0:∀e∈D.getD X.toNat [],0<=e.1/\e.1<(n:Int):=fun e a1=>⟨(cr.2 e a1).1,(cr.2 e a1).2.1⟩
   have f6:=a5.2.2;refine⟨fun H=> ?_,fun H=> ?_⟩
   . have H:=qA H;rw[wv (by omega)];obtain⟨u,w,a8⟩:=b6.rng e0 H;exact⟨u,w,a8,b6.next e0 H,by omega⟩
   . have H:=qB H;rw[wv (by omega)];exact⟨ak.next fi cr bx b6 (by omega),by omega⟩
 have A:=qB A;have dq:(n:Int)<=X:=by omega
 refine⟨B3w n ((n:Int),(n:Int),D),fun p=>((n:Int)-p.1).toNat,B3w.init a6 f0 rfl rfl J ck ak dq, ?_⟩;clear J bq dp f1 f2 ak ar dx fe f ck A dq;rintro⟨k,rest,P,Q,place,rows,⟨lower,gf⟩,⟨cols,dd⟩,_⟩ _ ⟨cu,fk,ai,b1,d2⟩;change Int at k;change List Int at rest P Q place;change List (List D1)at rows lower;change List R0 at cols;simp only at cu fk ai b1 d2⊢;have a:=ai W co bw;refine⟨fun b7=> ?_,fun b7=> ?_⟩
 . have b7:=qA b7;have ci:k.toNat<n:=by omega
   have b4:W+W<=K1:=by omega
   have gs:=a.more ci;have b9:=a.lrows;have dk:=a.llow;have dj:=a.lcols;have gt:rest.length<=n:=LD a.rnd fun x hx=>a.crange hx
   refine⟨C2k n ((n:Int),(n:Int),D) rest rows lower cols,⟨B5o n rest cols,⟨B9d n rest cols,fun q=>((rest.length:Int)-q.2.1).toNat,⟨qI _,by simp only;omega,qI _,by simp only;omega,rfl,d2⟩, ?_⟩, ?_⟩, ?_⟩
   . rintro⟨b,j,⟨b0,cz⟩,_⟩ _ ⟨a0,a2,aa,ct,rfl,O⟩;change Int at b j;simp only at a0 a2 aa ct O⊢;refine⟨fun l=> ?_,fun l=>⟨a0,a2,rfl,O⟩⟩;have l:=qA l;obtain⟨c2,bc,c3,aw⟩:=a.cnt (by omega) aa l;obtain⟨eg,eh,ei,g9⟩:=a.cnt (by omega) a0 a2;simp only[ID];refine⟨B5o n rest b0,⟨⟨aa,l⟩,c2,O _ bc,c3,⟨a0,a2⟩,eg,O _ eh,ei,fun _=>⟨aa,l,rfl,O⟩,fun _=>⟨a0,a2,rfl,O⟩⟩, ?_⟩;rintro⟨ef,⟨cols2,d1⟩,_⟩ _ ⟨ax,ay,rfl,af⟩;change Int at ef;simp only at ax ay af⊢;obtain⟨bg,bh,bi,gj⟩:=a.cnt (by omega) ax ay;rw[wv (by omega)];exact⟨⟨ax,ay⟩,bg,af _ bh,bi,fun _=>⟨ax,ay,rfl,af⟩,fun _=>⟨⟨ax,ay,by simp only;omega,by simp only;omega,rfl,af⟩,by omega⟩⟩
   . rintro⟨b,⟨b0,cz⟩,_⟩ _ ⟨a0,a2,rfl,O⟩;change Int at b;simp only at a0 a2 O⊢;obtain⟨c2,bc,c3,aw⟩:=a.cnt (by omega) a0 a2;simp only[ID];refine⟨⟨a0,a2⟩,c2,O _ bc,c3,fun ah=> ?_,fun ah=> ?_⟩
     . have ah:=qA ah;exact⟨rfl,rfl,b1,rfl,O,fun _=>a.stuck aw (qN (g3l.1 ah)),fun h=>(by cases h)⟩
     have ah:=qB ah;rw[wv (by omega)];simp only[qT,uY];rw[show(b+1).toNat=b.toNat+1 from by omega];have b8:b.toNat+(List.drop (b.toNat+1) rest).length<=n:=by rw[sP];omega
     generalize ab:rest.getD b.toNat 0=c at*;obtain⟨be,c1⟩:=a.crange aw;have cl:=a.pick (b:=b.toNat) (by omega);rw[ab]at cl;refine⟨⟨a0,a2⟩,C2l n rest b.toNat rows lower b0,⟨⟨qI _,a0,by omega⟩,⟨by omega,by omega,qI _⟩,⟨⟨by omega,by omega⟩,rfl,rfl,rfl,b1,rfl,O⟩,⟨by omega,by omega⟩,rfl,rfl,rfl,b1,rfl,O⟩, ?_⟩;rintro⟨fs,ea,⟨gw,gg⟩,⟨cols2,d1⟩,_⟩ _ ⟨ag,rfl,rfl,b2,rfl,ao⟩;change List Int at fs;simp only at ag b2 ao⊢;obtain⟨gp,d9⟩:=a.col c aw;have ff:∀B:Int×Bool,B∈cols2.getD c.toNat []->0<=B.1/\B.1<(ea.length:Int):=fun B a7=>by
      obtain⟨c8,g6,_⟩:=(d9 B.1).1 (kJ a7);rw[b9];exact⟨c8,g6⟩
     have bs:0<(cols2.getD c.toNat []).length:=by
      rcases vD (cols2.getD c.toNat []).length with N|N
      . exact absurd (g3l.2 N) ah
      . exact N
     have cb:c<(cols2.length:Int):=by rw[dj];exact c1
     refine⟨C2u n cols2 c,⟨⟨be,cb⟩,ao _ bc,C2t (cols2.getD c.toNat []),fun q=>q.2.1.2.length,⟨rfl,fun B a7=>a7, .inl ⟨by show(-1:Int)<0;decide,rfl⟩⟩, ?_⟩, ?_⟩
     . rintro⟨i,⟨es,left⟩,_⟩ _ ⟨rfl,ad,G⟩;change Int at i;change R0 at left;simp only at ad G⊢;refine⟨fun a3=>⟨fun h=>(by cases h),fun _=>⟨?_,ID _ _ _,ao⟩⟩,fun l1 B l2 a3=>⟨fun _=> ?_,fun h=>(by cases h)⟩⟩
       . rcases G with⟨_,G⟩ |G
         . rw[a3]at G;simp only[yA]at G;omega
         . exact G
       have a7:=ff B (ad B (by rw[a3];simp));have fj:B.1∈keys (cols2.getD c.toNat []):=kJ (ad B (by rw[a3];simp));have dy:∀z∈l1++l2,z∈cols2.getD c.toNat []:=fun z N=>ad z (by
        rw[a3];rcases qZ.1 N with N|N
        . exact sK _ N
        . exact tH _ (qK _ N))
       have bo:(l1++l2).length<left.length:=by rw[a3,rQ,rQ,rG];omega
       have ac:¬i<0->i∈keys (cols2.getD c.toNat [])/\0<=i/\i<(ea.length:Int):=fun h=>by
        rcases G with⟨H,_⟩ |H
        . exact absurd H h
        . obtain⟨c8,g6,_⟩:=(d9 i).1 H;rw[b9];exact⟨H,c8,g6⟩
       have f3:∀ {q:Bool},J5 (decide (i<0)) true q=false->¬i<0:=fun {q} h H=>by
        rw[rH H]at h;cases h
       refine⟨fun _=>a7,fun h=>(ac (qB h)).2,fun _=>a7,fun h=>(ac (f3 h)).2,fun _=>⟨⟨rfl,dy, .inr fj⟩,bo⟩,fun h=>⟨⟨rfl,dy, .inr (ac ?_).1⟩,bo⟩⟩;intro H;rw[rH H]at h;cases h
     . rintro⟨i,⟨g7,gc⟩,_⟩ _ ⟨ad,rfl,bb⟩;exact⟨rfl,rfl,b2,rfl,bb,fun h=>(by cases h),fun _=>⟨aw,ad,ag▸cl.1,ag▸cl.2⟩⟩
   . rintro⟨r,c,e5,fr,o,⟨Y,c6⟩,⟨b0,cz⟩,_⟩ _ ⟨rfl,rfl,O,rfl,af,e3,e4⟩;change Int at r c;change Bool at e5;change List Int at fr;simp only at O af e3 e4⊢;cases e5 with
     |false=>exact⟨fun _=>⟨fun h=>absurd a6 h,fun _=>⟨fun h=>absurd rfl h,fun _=>⟨fun _=>⟨rfl,trivial⟩,fun h=>absurd h (e3 rfl)⟩⟩⟩,fun h=>(by cases h)⟩
     |true=>
     obtain⟨ab,M,fc,fd⟩:=e4 rfl;obtain⟨be,c1⟩:=a.crange ab;obtain⟨fo,fp,fq,e9⟩:=a.row ab M;have em:=a.lP;have gm:=a.lQ;have bv:=a.lpl;refine⟨fun h=>(by cases h),fun _=> ?_⟩;have fm:0<=k/\k<(P.length:Int):=⟨cu,by omega⟩;have e6:0<=k/\k<(Q.length:Int):=⟨cu,by omega⟩;have e7:0<=c/\c<(place.length:Int):=⟨be,by omega⟩;refine⟨fun q=>q.1=P.set k.toNat r/\q.2.1=Q.set k.toNat c/\q.2.2.1=place.set c.toNat k,⟨fm,⟨e6,e7,rfl,rfl,rfl⟩,e6,e7,rfl,rfl,rfl⟩, ?_⟩;rintro⟨P',Q',e8,_⟩ _ ⟨bg,bh,bi⟩;simp only at bg bh bi⊢;have cn:HK K1 (o.getD r.toNat []):=a.okRow b4 (by omega) (by omega);have ba:∀e∈o.getD r.toNat [],0<=e.1/\e.1<(n:Int):=(a.can r.toNat (by omega)).2.1;have fa:=(a.can r.toNat (by omega)).2.2;have du:T4 o r.toNat c.toNat=A5 (o.getD r.toNat []) c:=by unfold T4;rw[show((c.toNat:Nat):Int)=c from by omega]
     rw[du]at e9;generalize cm:o.getD r.toNat []=y at*;have gr:=cn.2.2;refine⟨⟨fo,by rw[b9];exact fp⟩,EA n rest (inC b0) r y,fun p=>((y.length:Int)-p.1).toNat,⟨qI _,qF _,dj,af,fun j l=>⟨a.crange l,iR ⟨(a.col j l).1,fun x=>xP⟩⟩⟩, ?_⟩;rintro⟨t,⟨cols1,d0⟩,_⟩ _ E;change Int at t;change List R0 at cols1;simp only;have fu:=E.1;have fw:=E.2.1;simp only at fu fw;refine⟨fun f=> ?_,fun f=> ?_⟩
     . have f:=qA f;rw[wv (by omega)];obtain⟨u,w,a8⟩:=E.rng ba f;exact⟨u,w,a8,E.next ba f,by omega⟩
     have f:=qB f;have cf:∀s,1<=s->Io n n (el ((n:Int),(n:Int),D)) s->CI n k.toNat (s+s) rest P o Y r c [] o Y cols1:=fun s u w=>CI.init (ai s u w) ab M E.2.2.1 fun j l=>by
      have c8:=(E.2.2.2.2 j l).2;simp only at c8;rw[H2 (show(y.length:Int)<=t by omega)]at c8;rw[cm];exact c8
     have d3:fW n d0:=E.2.2.2.1;have ez:cols1.length=n:=E.2.2.1;clear E;obtain⟨ch,bn⟩:=(cf W co bw).col c ab;have dh:∀x∈keys (cols1.getD c.toNat []),0<=x/\x<(n:Int):=fun x hx=>⟨((bn x).1 hx).2.1,((bn x).1 hx).2.2.1⟩
     have df:(keys (cols1.getD c.toNat [])).length<=n:=LD ch dh;refine⟨cn, ?_⟩;rintro⟨v,_⟩ _ cp;change C7 at v;simp only at cp⊢;have cq:qs (W+W) (A5 y c):=fa c;refine⟨by rw[cp];exact J6 (F8 cq b4) (by decide), ?_⟩;rintro⟨cs,h0,_⟩ _ aq;change C7 at cs;simp only at aq⊢;rw[cp,H8]at aq;obtain⟨aq,_⟩:=aq.2 e9;have cb:c<(cols1.length:Int):=by rw[ez];exact c1
     refine⟨C2s n cols1 c,⟨⟨be,cb⟩,d3 _ (by omega),C2r (cols1.getD c.toNat []),fun q=>q.2.1.2.length,⟨rfl,wP _⟩, ?_⟩, ?_⟩
     . rintro⟨c4,⟨es,left⟩,_⟩ _ ⟨rfl,G⟩;change List Int at c4;change R0 at left;simp only at G⊢;refine⟨fun a3=>⟨fun h=>(by cases h),fun _=>⟨?_,ID _ _ _,d3⟩⟩,fun l1 B l2 a3=>⟨fun _=> ?_,fun h=>(by cases h)⟩⟩
       . subst a3;rw[show keys []= []from rfl,wB]at G;exact G
       subst a3;have dt:(c4++ [B.1]++keys (l1++l2)).Perm (keys (cols1.getD c.toNat [])):=by
        refine List.Perm.trans ?_ G;rw[uT];refine g2q c4 ?_;unfold keys;rw[vG,vG,rW,List.singleton_append];exact List.perm_middle.symm
       have en:=dt.length_eq;rw[rQ,rQ,rA]at en;have bo:(l1++l2).length<(l1++B::l2).length:=by rw[rQ,rQ,rG];omega
       exact⟨⟨by rw[rA];omega,by rw[rA];omega⟩,⟨rfl,dt⟩,bo⟩
     rintro⟨Z,⟨g8,gd⟩,_⟩ _ ⟨b3,rfl,d4⟩;change List Int at Z;simp only at b3 d4⊢;have f7:Z.Nodup:=b3.nodup_iff.2 ch;have dr:∀x,x∈Z↔x≠r/\0<=x/\x<(n:Int)/\(∀g,g<k.toNat->x.toNat≠ix P g)/\T4 o x.toNat c.toNat≠0:=fun x=>by rw[b3.mem_iff];exact bn x
     have f6:Z.length<=n:=by
      rw[b3.length_eq];exact df
     refine⟨L9 n ((n:Int),(n:Int),D) k.toNat rest P o Y r c Z,fun q=>((Z.length:Int)-q.1).toNat,⟨qI _,qF _,cf,O,d4⟩, ?_⟩;clear cf ch bn dh df b3;rintro⟨X,cw,⟨cv,ej⟩,⟨c5,ge⟩,_⟩ _ ⟨c0,g1,bk,bj,c7⟩;change Int at X;simp only at c0 g1 bk bj c7⊢;have aj:=bk W co bw;refine⟨fun A=> ?_,fun A=> ?_⟩
     . have A:=qA A;have ey:Z.getD X.toNat 0∈Z:=E8 (by omega);have cg:Z.getD X.toNat 0∉Z.take X.toNat:=fun hh=>by
        obtain⟨g,V,ap⟩:=vV.1 hh;rw[qY]at V;rw[g1f,Q3 _ _ (show X.toNat<Z.length by omega)]at ap;have:=(xT f7).1 ap;omega
       have dz:=Ra (d:=(0:Int)) c0 A;rw[T1 c0 A]at dz;obtain⟨ad,G,bb,e2,gv⟩:=(dr _).1 ey;generalize Z.getD X.toNat 0=i at*;have a9:i.toNat<n:=by omega
       have dc:((i.toNat:Nat):Int)=i:=by omega
       have fg:cw.getD i.toNat []=o.getD i.toNat []:=aj.ru _ a9 (by rw[dc];exact cg);have dn:cv.getD i.toNat []=Y.getD i.toNat []:=by rw[aj.lo _ a9,qH (by rw[dc];exact cg)]
       have b8:=a.lowLen a9;have gk:=a.two (i:=r.toNat) (j:=i.toNat) (by omega) a9 (by omega) fq e2;have a5:=a.okRow b4 (by omega) a9;have dw:=(a.can _ a9).2.2;have ac:0<=i/\i<(cw.length:Int):=⟨G,by rw[aj.lrows];exact bb⟩;have de:0<=i/\i<(cv.length:Int):=⟨G,by rw[aj.llow];exact bb⟩;have ep:i.toNat∉ej:=bj _ a9;rw[fg,dn];have eo:T4 o i.toNat c.toNat=A5 (o.getD i.toNat []) c:=by unfold T4;rw[show((c.toNat:Nat):Int)=c from by omega]
       have gn:4*(W+W)+1<=K1:=by omega
       have fb:qs (W+W+(W+W)) (A5 (o.getD i.toNat []) c/A5 y c):=Xm (dw c) cq;have F:∀(ae:QQ×Unit),Wb ae.1/\True->ae.1=rc (A5 (o.getD i.toNat []) c)->(D9 ae.1/\D9 cs)/\∀(au:QQ×Unit),Wb au.1/\True->au.1=rc (rv ae.1*rv cs)->B9j (A5 (o.getD i.toNat []) c/A5 y c) (au.1.1.1,au.1.1.2,au.1.2,()):=fun ae _ h1=>by
        refine⟨⟨by rw[h1];exact J6 (F8 (dw c) b4) (by decide),by rw[aq];exact J6 (F8 (B0l cq) b4) (by decide)⟩,fun au _ c8=> ?_⟩;rw[h1,aq,H8,H8, <-uA]at c8;exact c8
       refine⟨⟨c0,A⟩,B9j (A5 (o.getD i.toNat []) c/A5 y c),⟨ac,⟨a5,fun ae av h=>⟨F ae av h,F ae av h⟩⟩,a5,F⟩, ?_⟩;rintro⟨d6,d7,d8,_⟩ _ ce;change Bool at d6;change List Int at d7 d8;have ce:((d6,d7),d8)=rc (A5 (o.getD i.toNat []) c/A5 y c):=ce;simp only;rw[ce];refine⟨fun q=>q.1.1=cv.set i.toNat (Y.getD i.toNat []++ [(k,rc (A5 (o.getD i.toNat []) c/A5 y c))])/\fW n q.1.2, ?_, ?_⟩
       . have L1:((Y.getD i.toNat []).length+ [(k,rc (A5 (o.getD i.toNat []) c/A5 y c))].length)*64<=140737488355328/\(Y.getD i.toNat []).length+ [(k,rc (A5 (o.getD i.toNat []) c/A5 y c))].length<=9223372036854775807:=by
          have N:∀z:Nat,z<=n->(z+1)*64<=140737488355328/\z+1<=9223372036854775807:=fun z N=>⟨by omega,by omega⟩
          exact N _ (qX b8 (by omega))
         repeat' apply And.intro
         all_goals first
          |exact de.1
          |exact de.2
          |exact ep
          |exact L1.1
          |exact L1.2
          |exact rfl
          |exact bj
          |exact True.intro
       rintro⟨⟨gz,gi⟩,_⟩ _ ⟨di,d5⟩;simp only at di d5⊢;have dv:qs K1 (A5 (o.getD i.toNat []) c/A5 y c):=F8 fb (by omega);refine⟨ac,J6 dv (by decide), ?_⟩;rintro⟨fl,_⟩ _ bt;change C7 at fl;simp only at bt⊢;rw[H8]at bt;refine⟨⟨a5,by rw[bt];exact Xu (pT dv),cn⟩, ?_⟩;rintro⟨nw,_⟩ _ a4;change List D1 at nw;simp only at a4⊢;have a4:JO (fun j=>A5 (o.getD i.toNat []) j-A5 (o.getD i.toNat []) c/A5 y c*A5 y j) nw:=⟨a4.1,fun j=>(a4.2 j).trans (by dsimp only;rw[bt,H8,g4r, <-tF])⟩;have bu:∀e∈nw,0<=e.1/\e.1<(n:Int):=fun e a1=>qM fun hh=>by
        refine(a4.1.2 e a1).1 ?_;rw[<-H7 a4.1.1 a1];refine(a4.2 e.1).trans ?_;dsimp only;rw[D2 (v:=o.getD i.toNat []) (i:=e.1) fun B a7 c8=>hh (by rw[<-c8];exact(a.can _ a9).2.1 B a7),D2 (v:=y) (i:=e.1) fun B a7 c8=>hh (by rw[<-c8];exact ba B a7),sU,tF,wO,rL]
       have gq:nw.length<=n:=by
        have:=Be (n:=(n:Int)) (v:=nw) ⟨a4.1.1,fun e a1=>⟨(bu e a1).1,(bu e a1).2,(a4.1.2 e a1).1⟩⟩;omega
       refine⟨ac,EA n rest (inC c5) i y,fun p=>((y.length:Int)-p.1).toNat,⟨qI _,qF _,aj.lcols,c7,fun j l=>⟨a.crange l,iR ⟨(aj.col j l).1,fun x=>xP⟩⟩⟩, ?_⟩;rintro⟨bz,⟨cx,ga⟩,_⟩ _ E;change Int at bz;change List R0 at cx;simp only;have fx:=E.1;have fy:=E.2.1;simp only at fx fy;refine⟨fun f=> ?_,fun f=> ?_⟩
       . have f:=qA f;rw[wv (by omega)];obtain⟨u,w,a8⟩:=E.rng ba f;exact⟨u,w,a8,E.next ba f,by omega⟩
       have f:=qB f;have dm:∀j:Int,j∈rest->iO (inC c5) i y j (cx.getD j.toNat []):=fun j l=>by
        have c8:=(E.2.2.2.2 j l).2;simp only at c8;rwa[H2 (show(y.length:Int)<=bz by omega)]at c8
       rw[show(cw.set i.toNat nw).getD i.toNat []=nw from C1 (by rw[aj.lrows];exact a9)];refine⟨by rw[qP];exact ac,ZY n rest (fun j x=>inC c5 j x/\¬(x=i/\∃e∈y,e.1=j)) i nw,fun p=>((nw.length:Int)-p.1).toNat,⟨qI _,qF _,E.2.2.1,E.2.2.2.1,fun j l=>⟨a.crange l,A7a ⟨(dm j l).1,(dm j l).2⟩⟩⟩, ?_⟩;rintro⟨ec,⟨cy,gb⟩,_⟩ _ I;change Int at ec;change List R0 at cy;simp only;have fz:=I.1;have g0:=I.2.1;simp only at fz g0;refine⟨fun f=> ?_,fun f=> ?_⟩
       . have f:=qA f;rw[wv (by omega)];obtain⟨u,w,a8⟩:=I.rng bu f;exact⟨u,w,a8,I.next bu f,by omega⟩
       have f:=qB f;rw[wv (by omega)];refine⟨⟨by simp only;omega,by simp only;omega,fun s u w=> ?_,d5,I.2.2.2.1⟩,by omega⟩;have f5:=CI.next (ai s u w) ab M (bk s u w) G bb ad e2 cg (q:=A5 (o.getD i.toNat []) c/A5 y c) (by rw[eo,du]) (nw:=nw) (by rw[cm];exact a4) (cols2:=cy) I.2.2.1 fun j l=>by
        have c8:=(I.2.2.2.2 j l).2;simp only at c8;rw[H2 (show(nw.length:Int)<=ec by omega)]at c8;rw[cm];exact c8
       simp only;rw[dz,di, <-dn];rwa[show((k.toNat:Nat):Int)=k from by omega]at f5
     . have A:=qB A;rw[wv (by omega)];refine⟨⟨by simp only;omega,by simp only;omega,fun s u w=> ?_,bj,c7⟩,by omega⟩;have db:=bk s u w;rw[H2 (by omega)]at db;have er:=CI.doneT (ai s u w) u w ab M db dr fc fd;simp only;rw[show(k+1).toNat=k.toNat+1 from by omega,bg,bh,bi];rwa[show((k.toNat:Nat):Int)=k from by omega]at er
 . have b7:=qB b7;have ci:k=(n:Int):=by omega
   subst ci;simp only[qT]at ai a;have b9:=a.lrows;have dk:=a.llow;have em:=a.lP;have f9:=a.places;refine⟨C2o n P place rows lower,fun q=>((n:Int)-q.2.1).toNat,⟨rfl,qI _,qF _,rM,rM,rfl,fun m J=> .inl (g1u fun h=>b1 m h J),fun g V=>by simp only at V;omega,fun g V=>by simp only at V;omega⟩, ?_⟩;rintro⟨e8,j,L,U,⟨Y,c6⟩,_⟩ _ ⟨rfl,aa,ct,am,an,rfl,cc,c9,ca⟩;change Int at j;change List (List D1)at L U;simp only at aa ct am an cc c9 ca⊢;refine⟨fun l=> ?_,fun l=> ?_⟩
   . have l:=qA l;have I:j.toNat<n:=by omega
     have ek:P.getD j.toNat 0=(ix P j.toNat:Int):=a.P0 _ I;have bp:=a.elim.plt _ I;have b8:=a.lowLen bp;have f4:ix P j.toNat∉c6:=fun J=>by
      rcases cc _ J with h| ⟨g,V,ap⟩
      . omega
      . have:=a.elim.pinj _ _ I (show g<n by omega) ap;omega
     have a5:=a.okFin (by omega) I (show W+W<=K1 by omega);rw[ek];simp only[qT];have u:0<=j/\j<(P.length:Int):=⟨aa,l⟩;have w:0<=(ix P j.toNat:Int)/\(ix P j.toNat:Int)<(Y.length:Int):=⟨qF _,by rw[dk];exact uJ.2 bp⟩;have a8:0<=j/\j<(L.length:Int):=⟨aa,by rw[am];omega⟩;have N:∀z:Nat,z<=n->(z+1)*64<=140737488355328/\z+1<=9223372036854775807:=fun z N=>⟨by omega,by omega⟩
     refine⟨u,fun q=>q.1=L.set j.toNat (Y.getD (ix P j.toNat) []++ [(j,rc 1)])/\q.2.1.1=Y/\q.2.1.2=ix P j.toNat::c6, ?_, ?_⟩
     . repeat' first
        |exact f4
        |exact True.intro
        |exact u.1
        |exact u.2
        |exact w.1
        |exact w.2
        |exact a8.1
        |exact a8.2
        |exact rfl
        |exact(N _ (qX b8 (qR _))).1
        |exact(N _ (qX b8 (qR _))).2
        |apply And.intro
        | (rintro⟨r,_⟩ _ M
           have M:r=rc 1:=M.trans (Xo 1);subst M)
     rintro⟨L4,⟨gy,gh⟩,_⟩ _ ⟨ag,b2,ao⟩;simp only at ag b2 ao⊢;refine⟨⟨w.1,by rw[b9];exact uJ.2 bp⟩,⟨a5,by rw[a.lpl];omega⟩, ?_⟩;rintro⟨av,h2,_⟩ _ ds;change List D1 at av;simp only at ds⊢;have bv:=a.lpl;obtain⟨e1,_⟩:=ds (by rw[bv];exact f9.1) fun i ex=>by
      rw[bv];obtain⟨e,a1,rfl⟩:=Zq ex;exact(a.can _ bp).2.1 e a1
     rw[bv]at e1;rw[wv (by omega)];refine⟨⟨aa,by rw[an];omega⟩,⟨rfl,by simp only;omega,by simp only;omega,by simp only;rw[ag,qP];exact am,by simp only;rw[qP];exact an,b2,fun m J=> ?_,fun g V=> ?_,fun g V=> ?_⟩,by omega⟩
     . simp only at J⊢;rw[ao]at J;rcases qU.1 J with h|h
       . exact .inr ⟨j.toNat,by omega,h⟩
       . rcases cc m h with h| ⟨g,V,ap⟩
         . exact .inl h
         . exact .inr ⟨g,by omega,ap⟩
     . simp only at V⊢;rw[ag];by_cases b5:g=j.toNat
       . subst b5;rw[C1 (by rw[am];exact I),show((j.toNat:Nat):Int)=j from by omega]
       . rw[E9 b5];exact c9 g (by omega)
     . simp only at V⊢;by_cases b5:g=j.toNat
       . subst b5;rw[C1 (by rw[an];exact I)];exact e1
       . rw[E9 b5];exact ca g (by omega)
   . have l:=qB l;have I:j=(n:Int):=by omega
     subst I;have bl:∀g,g<n->L.getD g []=Y.getD (ix P g) []++ [((g:Int),rc 1)]:=fun g V=>c9 g (by omega)
     have bm:∀g,g<n->JO (fun i=>if 0<=i/\i<(n:Int)then A5 (rows.getD (ix P g) []) ((List.idxOf i e8:Nat):Int)else 0) (U.getD g []):=fun g V=>ca g (by omega)
     have da:=a.done (by omega) am an bl bm;exact⟨fun h=>absurd a6 h,fun _=>⟨fun h=>absurd rfl h,fun _=>⟨fun h=>absurd a.elim.nonsing h,fun _=>⟨da.1,trivial,(a.cans am an bl bm).1,(a.cans am an bl bm).2,fun s u w g b V=>(ai s u w).sizes (fun g=>by omega) bl bm V b,da.2⟩⟩⟩⟩
def GB:An:= {}
abbrev C0m:=(List Int×List Int×MM×Int×Int×List (List EE))×List QQ×Unit
def Mr:A4 W5.args->Prop:=fun(x:C0m)=>let e:=(4:Int);let d:=(1:Int);let c:=(0:Int);let b:=(↑x.1.1.length:Int);let a:=(x.1.1.length:Int);let f:Prop:=((x.2.1.length:Int)≠a);(c<=a/\a<=(16384:Int)/\O5 K1 x.1.2.2.1/\O5 K1 x.1.2.2.2)/\Ml fun r=>(r.1=true↔Y8 x.1 a)->(iB ((!r.1)) ((¬Y8 x.1 b->d=d)/\(Y8 x.1 b->(x.2.1.length≠x.1.1.length->d=e)/\(x.2.1.length=x.1.1.length->d=c))) ((iB (decide f) ((¬Y8 x.1 b->e=d)/\(Y8 x.1 b->(x.2.1.length≠x.1.1.length->e=e)/\(x.2.1.length=x.1.1.length->e=c))) ((¬Y8 x.1 b->c=d)/\(Y8 x.1 b->(x.2.1.length≠x.1.1.length->c=e)/\(x.2.1.length=x.1.1.length->c=c))))))
end Go.Proofs.YtljgpjhcieidbaaGreat
