/- Part. -/
import Derived.Test.YtcbjamefalhfgaaGreatKSG
set_option linter.all false
namespace Go.Proofs.YtcbjamefalhfgaaGreat
open Go.Proofs.Tryz
open Go.Vc Go.Gw
open Go.IntKind (i64 u64 u32)
def A2v:An:= {loop:= [(15,⟨[2,3,4,6,7,8,9,10,11],[0,1,2,3],[(12,false,vI)],[(4,46,[.val .bool, .val qa, .val qa])],[]⟩),(11,⟨[2,3,4,6,7,8,9],[0,1,2],[(10,false,vI)],[],[(3, .rows tQ 28 46)]⟩),(8,⟨[2,3,4,6,7,8],[0,1,2],[(9,false,vI)],[],[(3, .rows tQ 28 46)]⟩)],plan:= [(5,[0,2],[],true, .done),(17,[0,4,7,11,14],[17],true, .done),(18,[5,6],[8,10],false, .done)]}
def NM:An:= {loop:= [(9,⟨[1,2,4,5,6],[0,1],[(7,false,vI)],[],[(2, .rows tQ 28 46)]⟩),(6,⟨[1,2,4,5],[0,1],[(6,false,vI)],[],[(2, .rows tQ 28 46)]⟩)],plan:= [(11,[5,9,12],[14,16],false, .done)]}
def iR:An:= {loop:= [(8,⟨[1,2,7],[0],[(6,false,[.own tQ 46]),(8,false,vI)],[],[]⟩)]}
def gE (P:MM×Unit->Prop):Prop:=∀r:MM×Unit,WfM r.1/\True->P r
def rT7 (P:List (List QQ)×Unit->Prop):Prop:=∀r:List (List QQ)×Unit,Qy r.1/\True->P r
def bK(x:MM×MM×Unit):Prop:=let o:=(4:Int);let f:=(1:Int);let e:=(0:Int);let c:Prop:=(x.1.2.1≠x.2.1.1);let b:Prop:=(A8 x.1/\A8 x.2.1);J3 K1 x.1/\Nr λr=>r.1=decide (A8 x.1)->((!r.1)=false->J3 K1 x.2.1)/\∀(C:R8),((!r.1)=false->(True/\True)/\C.1=decide (A8 x.2.1))->(iB ((G6 (!r.1) true !C.1)) ((¬b->(e,e,[])=zm/\f=f)/\(A8 x.1/\A8 x.2.1->(x.1.2.1≠x.2.1.1->(e,e,[])=zm/\f=o)/\(x.1.2.1=x.2.1.1->Zh x.1.1.toNat x.2.1.2.1.toNat (fun(i j:Nat)=>A7 x.1.2.1.toNat fun(k:Nat)=>el x.1 i k*el x.2.1 k j) (e,e,[])/\f=e))) ((iB (decide c) ((¬b->(e,e,[])=zm/\o=f)/\(A8 x.1/\A8 x.2.1->(x.1.2.1≠x.2.1.1->(e,e,[])=zm/\o=o)/\(x.1.2.1=x.2.1.1->Zh x.1.1.toNat x.2.1.2.1.toNat (fun(i j:Nat)=>A7 x.1.2.1.toNat fun(k:Nat)=>el x.1 i k*el x.2.1 k j) (e,e,[])/\o=e))) ((J3 K1 x.1/\A8 x.1)/\rT7 λr=>r.1=Qv x.1->(J3 K1 x.2.1/\A8 x.2.1)/\rT7 λA=>A.1=Qv x.2.1->(e<=x.1.1/\x.1.1<=x.1.1/\(↑(24:Nat):Int)*x.1.1<=281474976710656/\x.1.1<=9223372036854775807)/\∃(I:Dv->Prop),∃(a: _->Nat),I (e,List.replicate x.1.1.toNat [],())/\∀(p:Dv),let q:=(gx [] r.1 p.1);let g:=p.1.toNat;(Ty.int i64).wf p.1/\Qy p.2.1/\True->I p->(iB (decide (p.1<x.1.1)) (∃(I_1:Dv->Prop),∃(s: _->Nat),I_1 (e,p.2.1,())/\∀(y:Dv),let v:Prop:=(y.1<x.2.1.2.1);let u:=(List.getD y.2.1 g []);let m:=(i64.wrap (p.1+f),y.2.1,());let c:Prop:=(e<=p.1/\p.1<(y.2.1.length:Int));(Ty.int i64).wf y.1/\Qy y.2.1/\True->I_1 y->(iB (decide v) (True/\M0 λz=>z.1=rc (0:Rat)->∃(I:TO->Prop),∃(a: _->Nat),I (e,z.1.1.1,z.1.1.2,z.1.2,())/\∀(w:TO),let n:=(gx [] A.1 w.1);let d:=((w.2.1,w.2.2.1),w.2.2.2.1);let h:=(List.getD y.2.1 g []++ [d]);let t:=(i64.wrap (y.1+f),List.set y.2.1 g h,());(Ty.int i64).wf w.1/\Ty.bool.wf w.2.1/\(Ty.int u32).sl.wf w.2.2.1/\(Ty.int u32).sl.wf w.2.2.2.1/\True->I w->(iB (decide (w.1<x.1.2.1)) ((e<=p.1/\p.1<(r.1.length:Int))/\(e<=w.1/\w.1<(↑q.length:Int))/\(e<=w.1/\w.1<(A.1.length:Int))/\(e<=y.1/\y.1<(↑n.length:Int))/\(G4 (gx dQ q w.1)/\G4 (gx dQ n y.1))/\M0 λB=>B.1=rc (rv (gx dQ q w.1)*rv (gx dQ n y.1))->(G4 d/\G4 B.1)/\M0 λr=>let h:=(i64.wrap (w.1+f),r.1.1.1,r.1.1.2,r.1.2,());r.1=rc (rv d+rv B.1)->I h/\a h<a w) (c/\((u.length+ [d].length)*(56:Nat)<=(140737488355328:Nat)/\u.length+ [d].length<=9223372036854775807)/\c/\Int.toNat p.1=Int.toNat p.1/\I_1 t/\s t<s y))) (I m/\a m<a p))) (((∀(l:List QQ),l∈p.2.1->Gc K1 l/\(↑l.length:Int)=x.2.1.2.1)/\e<=x.2.1.2.1/\x.2.1.2.1<=16384/\List.length p.2.1<=16384)/\gE λr=>Zh p.2.1.length x.2.1.2.1.toNat (fun(i j:Nat)=>rv ((List.getD p.2.1 i []).getD j zr)) r.1->(¬b->r.1=zm/\e=f)/\(A8 x.1/\A8 x.2.1->(x.1.2.1≠x.2.1.1->r.1=zm/\e=o)/\(x.1.2.1=x.2.1.1->Zh x.1.1.toNat x.2.1.2.1.toNat (fun(i j:Nat)=>A7 x.1.2.1.toNat fun(k:Nat)=>el x.1 i k*el x.2.1 k j) r.1/\e=e))))))))
def Ts(x:S4):Prop:=let h:=(1:Int);let a:=(0:Int);J3 K1 x.1/\Nr λr=>r.1=decide (A8 x.1)->(iB ((!r.1)) ((¬A8 x.1->(a,a,[])=zm/\h=h)/\(A8 x.1->Zh x.1.2.1.toNat x.1.1.toNat (fun(i j:Nat)=>el x.1 j i) (a,a,[])/\h=a)) ((J3 K1 x.1/\A8 x.1)/\rT7 λr=>r.1=Qv x.1->(a<=x.1.2.1/\x.1.2.1<=x.1.2.1/\(↑(24:Nat):Int)*x.1.2.1<=281474976710656/\x.1.2.1<=9223372036854775807)/\∃(I:Dv->Prop),∃(b: _->Nat),I (a,List.replicate x.1.2.1.toNat [],())/\∀(p:Dv),let g:=p.1.toNat;(Ty.int i64).wf p.1/\Qy p.2.1/\True->I p->(iB (decide (p.1<x.1.2.1)) (∃(I_1:Dv->Prop),∃(n: _->Nat),I_1 (a,p.2.1,())/\∀(m:Dv),let k:=(List.getD m.2.1 g []);let f:=(i64.wrap (p.1+h),m.2.1,());let e:Prop:=(a<=p.1/\p.1<(m.2.1.length:Int));let d:=(gx [] r.1 m.1);let l:=(List.getD m.2.1 g []++ [gx dQ d p.1]);let c:=(i64.wrap (m.1+h),List.set m.2.1 g l,());(Ty.int i64).wf m.1/\Qy m.2.1/\True->I_1 m->(iB (decide (m.1<x.1.1)) (e/\(a<=m.1/\m.1<(r.1.length:Int))/\(a<=p.1/\p.1<(↑d.length:Int))/\((k.length+ [gx dQ d p.1].length)*(56:Nat)<=(140737488355328:Nat)/\k.length+ [gx dQ d p.1].length<=9223372036854775807)/\e/\Int.toNat p.1=Int.toNat p.1/\I_1 c/\n c<n m) (I f/\b f<b p))) (((∀(l:List QQ),l∈p.2.1->Gc K1 l/\(↑l.length:Int)=x.1.1)/\a<=x.1.1/\x.1.1<=16384/\List.length p.2.1<=16384)/\gE λr=>Zh p.2.1.length x.1.1.toNat (fun(i j:Nat)=>rv ((List.getD p.2.1 i []).getD j zr)) r.1->(¬A8 x.1->r.1=zm/\a=h)/\(A8 x.1->Zh x.1.2.1.toNat x.1.1.toNat (fun(i j:Nat)=>el x.1 j i) r.1/\a=a)))))
abbrev C1r:=MM×List QQ×Unit
def MR(x:C1r):Prop:=let k:=(1:Nat);let h:=(4:Int);let g:Prop:=((x.2.1.length:Int)≠x.1.2.1);let f:=(1:Int);let e:=(0:Int);let a:=(↑x.2.1.length:Int);J3 K1 x.1/\Nr λr=>r.1=decide (A8 x.1)->(iB ((!r.1)) ((¬A8 x.1->Ef QQ= []/\f=f)/\(A8 x.1->(a≠x.1.2.1->Ef QQ= []/\f=h)/\(a=x.1.2.1->Ef QQ=List.map (fun(i:Nat)=>rc (A7 x.2.1.length fun(j:Nat)=>el x.1 i j*rv (x.2.1.getD j zr))) (List.range x.1.1.toNat)/\f=e))) ((iB (decide g) ((¬A8 x.1->Ef QQ= []/\h=f)/\(A8 x.1->(a≠x.1.2.1->Ef QQ= []/\h=h)/\(a=x.1.2.1->Ef QQ=List.map (fun(i:Nat)=>rc (A7 x.2.1.length fun(j:Nat)=>el x.1 i j*rv (x.2.1.getD j zr))) (List.range x.1.1.toNat)/\h=e))) ((J3 K1 x.1/\A8 x.1)/\rT7 λr=>r.1=Qv x.1->∃(I:AK->Prop),∃(g: _->Nat),I ([],e,())/\∀(p:AK),let b:=(gx [] r.1 p.2.1);tQ.sl.wf p.1/\(Ty.int i64).wf p.2.1/\True->I p->(iB (decide (p.2.1<x.1.1)) ((e<=p.2.1/\p.2.1<(r.1.length:Int))/\(∃(A:Nat),∃(T:Nat),∃(c:Nat),k<=A/\k<=T/\Gc A b/\Gc T x.2.1/\b.length<=c/\(A+T+k)*(c+k)<=(2199023255552:Nat))/\∀(l:Wm),let d:=(p.1++ [l.1],i64.wrap (p.2.1+f),());IU l.1/\True/\True->(b.length=List.length x.2.1->l.1=rc (A7 b.length fun(i:Nat)=>rv (b.getD i zr)*rv (List.getD x.2.1 i zr))/\l.2.1=true)->((p.1.length+ [l.1].length)*(56:Nat)<=(140737488355328:Nat)/\p.1.length+ [l.1].length<=9223372036854775807)/\I d/\g d<g p) ((¬A8 x.1->p.1= []/\e=f)/\(A8 x.1->(a≠x.1.2.1->p.1= []/\e=h)/\(a=x.1.2.1->p.1=List.map (fun(i:Nat)=>rc (A7 x.2.1.length fun(j:Nat)=>el x.1 i j*rv (x.2.1.getD j zr))) (List.range x.1.1.toNat)/\e=e))))))))
def grown (n m i j:Nat) (f:Nat->Nat->Rat) (rows:List (List C0)):Prop:=rows.length=n/\∀k,k<n->rows.getD k []=(List.range (if k<i then m else if k=i then j else 0)).map λl=>rc (f k l)
def B4k {n m:Nat} {f:Nat->Nat->Rat} :grown n m 0 0 f (List.replicate n []):=⟨rG,λk a=>by
 rw[qF,uW,qJ a,qG ω];by_cases h:k=0
 . rw[qJ h];rfl
 . rw[qG h];rfl⟩
def WY {n m i j:Nat} {f:Nat->Nat->Rat} {rows:List (List C0)} {v:C0} (h:grown n m i j f rows) (d:i<n) (c:v=rc (f i j)):grown n m i (j+1) f (rows.set i (rows.getD i []++ [v])):=⟨by rw[qO];exact h.1,λk b=>by
 rw[qF,yQ];by_cases a:i=k
 . subst a;rw[qJ rfl,qJ (by rw[h.1];exact b)];show rows.getD i []++ [v]= _;rw[h.2 i b,qG ω,qJ rfl,qG ω,qJ rfl,g2s,vG,c];rfl
 . rw[qG a, <-qF,h.2 k b,qG (λe:k=i=>a e.symm),qG (λe:k=i=>a e.symm)]⟩
def WX {n m i:Nat} {f:Nat->Nat->Rat} {rows:List (List C0)} (h:grown n m i m f rows):grown n m (i+1) 0 f rows:=⟨h.1,λk a=>by
 rw[h.2 k a];have e:(if k<i then m else if k=i then m else 0)=(if k<i+1 then m else if k=i+1 then 0 else 0):=by
  by_cases a:k<i
  . rw[qJ a,qJ ω]
  . rw[qG a];by_cases a:k=i
    . rw[qJ a,qJ ω]
    . rw[qG a,qG ω];split<;>rfl
 rw[e]⟩
def eX {n m i j:Nat} {f:Nat->Nat->Rat} {rows:List (List C0)} (h:grown n m i j f rows) (a:i<n):(rows.getD i []).length=j:=by
 rw[h.2 i a,qG ω,qJ rfl];simp
def pC {n m:Nat} {f:Nat->Nat->Rat} {rows:List (List C0)} (h:grown n m n 0 f rows) {k:Nat} (a:k<n):rows.getD k []=(List.range m).map λl=>rc (f k l):=by
 rw[h.2 k a,qJ a]
def WW {n m:Nat} {f:Nat->Nat->Rat} {rows:List (List C0)} (h:grown n m n 0 f rows) (g:∀i j,i<n->j<m->qs K1 (f i j)):∀l∈rows,Gc K1 l/\(l.length:Int)=(m:Int):=λl d=>by
 obtain⟨o,a,rfl⟩:=N4 [] d;rw[h.1]at a;rw[pC h a];refine⟨λx k=>?_,by simp⟩;obtain⟨c,b,rfl⟩:=tU.1 k;exact g o c a (wK.1 b)
def eY {n m:Nat} {f:Nat->Nat->Rat} {rows:List (List C0)} (h:grown n m n 0 f rows) {i j:Nat} (a:i<n) (b:j<m):rv ((rows.getD i []).getD j zr)=f i j:=by
 rw[pC h a,qF,vB,wN b];exact F6 _
def A3j {m:O1} (i:Int) (a:0<=i) (b:i<m.1):gx [] (Qv m) i=dl m.2.1 (A6 (m.2.2.getD i.toNat [])):=by
 rw[J4 a (by rw[Kr];omega),B3u ω]
def Og {m:O1} {i:Int} (a:0<=i) (b:i<m.1):(gx [] (Qv m) i).length=m.2.1.toNat:=by rw[A3j i a b,WI]
def Dj {m:O1} {i j:Int} (a:0<=i) (b:i<m.1) (c:0<=j) (d:j<m.2.1):gx dQ (gx [] (Qv m) i) j=rc (el m i.toNat j.toNat):=by
 rw[A3j i a b,J4 c (by rw[WI];omega),UG _ ω];rfl
def FE:sn Bj Ts:=λx F B=>by
 obtain⟨⟨R,C,D⟩,_⟩:=x;have A:Lu (R,C,D):=V6 F.1.2.2.2;change Int at R C;change List (List D5)at D;have s:J3 K1 (R,C,D):=B;simp only[Ts,iB,Nr,rT7,gE];refine⟨s,?_⟩;rintro⟨O,_⟩ _ r;simp only at r|-;refine⟨λh=>?_,λh=>?_⟩
 . have b:¬A8 (R,C,D):=λb=>by rw[r,rD b]at h;cases h
   exact⟨λ_=>⟨rfl,by trivial⟩,λc=>absurd c b⟩
 have b:A8 (R,C,D):=qN λb=>by rw[r,rB b]at h;cases h
 obtain⟨t,w,u,J,_,_⟩:=id b;simp only at t w u J;refine⟨⟨s,b⟩,?_⟩;rintro⟨e,_⟩ _ g;simp only at g|-;have M:e.length=R.toNat:=by rw[g];exact Kr _
 refine⟨⟨u,qH _,ω,ω⟩,?_⟩
 let n:Nat->Nat->Rat:=λi j=>el (R,C,D) j i
 refine⟨λp=>0<=p.1/\p.1<=C/\grown C.toNat R.toNat p.1.toNat 0 n p.2.1,λp=>(C-p.1).toNat,⟨qH _,u,B4k⟩,?_⟩;rintro⟨(i:Int),rows,_⟩ _ ⟨f,G,a⟩;change List (List C0)at rows;simp only at f G a|-;refine⟨λd=>?_,λd=>?_⟩
 . have d:=qA d;refine⟨λp=>0<=p.1/\p.1<=R/\grown C.toNat R.toNat i.toNat p.1.toNat n p.2.1,λp=>(R-p.1).toNat,⟨qH _,t,a⟩,?_⟩;rintro⟨(j:Int),rows,_⟩ _ ⟨l,H,a⟩;change List (List C0)at rows;simp only at l H a|-;have k:=a.1;have v:=eX a ω;refine⟨λc=>?_,λc=>?_⟩
   . have c:=qA c;have N:(gx [] e j).length=C.toNat:=by rw[g];exact Og l c
     have E:gx dQ (gx [] e j) i=rc (n i.toNat j.toNat):=by rw[g];exact Dj l c f d
     rw[wv ω];refine⟨⟨f,ω⟩,⟨l,ω⟩,⟨f,ω⟩,⟨by rw[v,qV];omega,by rw[v,qV];omega⟩,⟨f,ω⟩,by trivial,⟨ω,ω,?_⟩,ω⟩;rw[(ω:(j+1).toNat=j.toNat+1)];exact WY a ω E
   . have c:=qB c;rw[wv ω,(ω:(i+1).toNat=i.toNat+1)];rw[(ω:j.toNat=R.toNat)]at a;exact⟨⟨ω,ω,WX a⟩,ω⟩
 . have d:=qB d;rw[(ω:i.toNat=C.toNat)]at a;have k:=a.1;refine⟨⟨λI k=>?_,t,w,ω⟩,?_⟩
   . have:=WW a (λi j _ _=>Oe b A s δ j i) I k;exact⟨this.1,ω⟩
   . rintro⟨m,_⟩ _ o;simp only at o|-;rw[k]at o;exact⟨λh=>absurd b h,λ_=>⟨CX o λi j y z=>eY a y z,by trivial⟩⟩
def dW:sn Tb bK:=λx Y a6=>by
 obtain⟨⟨R,C,D⟩,⟨R',C',D'⟩,_⟩:=x;have P:Lu (R,C,D):=V6 Y.1.2.2.2;have Q:Lu (R',C',D'):=V6 Y.2.1.2.2.2;change Int at R C R' C';change List (List D5)at D D';obtain⟨A,g,u,G,H,ao,a3⟩:∃A g:Nat,1<=A/\J3 A (R,C,D)/\J3 A (R',C',D')/\C<=(g:Int)/\(A+A+1)*(g+1)<=K1:=a6;have ap:K1=549755813888:=rfl;have an:A+A+1<=K1:=qU (zY _ (Nat.succ_pos g)) a3;have V:=KM G (ω:A<=K1);have W:=KM H (ω:A<=K1);simp only[bK,iB,M0,Nr,rT7,gE];refine⟨V,?_⟩;rintro⟨a0,_⟩ _ f;simp only at f|-;refine⟨λ_=>W,?_⟩;rintro⟨aw,_⟩ B;simp only at B|-;rw[K8];by_cases c:A8 (R,C,D)
 case neg=>
  have f:a0=false:=by rw[f];exact rB c
  rw[f];exact⟨λ_=>⟨λ_=>⟨rfl,by trivial⟩,λh=>absurd h.1 c⟩,λh=>(by cases h)⟩
 have f:a0=true:=by rw[f];exact rD c
 have B:=(B (by rw[f];rfl)).2;rw[f,B];by_cases d:A8 (R',C',D')
 case neg=>
  rw[rB d];exact⟨λ_=>⟨λ_=>⟨rfl,by trivial⟩,λh=>absurd h.2 d⟩,λh=>(by cases h)⟩
 rw[rD d];refine⟨λh=>(by cases h),λ_=>⟨λh=>?_,λh=>?_⟩⟩
 . have h:=qA h;exact⟨λh=>absurd ⟨c,d⟩ h,λ_=>⟨λ_=>⟨rfl,by trivial⟩,λb=>absurd b h⟩⟩
 have h:=tJ.1 (qB h);obtain⟨J,ae,a1,af,_,_⟩:=id c;obtain⟨ag,ah,M,a2,_,_⟩:=id d;simp only at J ae a1 af ag ah M a2;refine⟨⟨V,c⟩,?_⟩;rintro⟨e,_⟩ _ v;simp only at v|-;refine⟨⟨W,d⟩,?_⟩;rintro⟨E,_⟩ _ w;simp only at w|-;have aq:e.length=R.toNat:=by rw[v];exact Kr _
 have ar:E.length=R'.toNat:=by rw[w];exact Kr _
 refine⟨⟨J,qH _,ω,ω⟩,?_⟩
 let N:Nat->Nat->Rat:=λi j=>A7 C.toNat λk=>el (R,C,D) i k*el (R',C',D') k j
 have U:∀i k j,qs (A+A) (el (R,C,D) i k*el (R',C',D') k j):=λi k j=>Ii (Oe c P G u i k) (Oe d Q H u k j)
 have T:∀n,n<=g->∀i j,qs K1 (A7 n λk=>el (R,C,D) i k*el (R',C',D') k j):=λn hn i j=>D7 (lJ λk _=>U i k j) (by
  have ak:=rC (A+A+1) hn;have am:(A+A+1)*(g+1)=g*(A+A+1)+(A+A+1):=by rw[sS,wH,sG]
  omega)
 refine⟨λp=>0<=p.1/\p.1<=R/\grown R.toNat C'.toNat p.1.toNat 0 N p.2.1,λp=>(R-p.1).toNat,⟨qH _,J,B4k⟩,?_⟩;rintro⟨(i:Int),rows,_⟩ _ ⟨r,a9,a⟩;change List (List C0)at rows;simp only at r a9 a|-;refine⟨λl=>?_,λl=>?_⟩
 . have l:=qA l;refine⟨λp=>0<=p.1/\p.1<=C'/\grown R.toNat C'.toNat i.toNat p.1.toNat N p.2.1,λp=>(C'-p.1).toNat,⟨qH _,M,a⟩,?_⟩;rintro⟨(j:Int),rows,_⟩ _ ⟨I,aa,a⟩;change List (List C0)at rows;simp only at I aa a|-;have y:=a.1;have O:=eX a ω;refine⟨λb=>?_,λb=>?_⟩
   . have b:=qA b;refine⟨trivial,?_⟩;rintro⟨ay,_⟩ _ Z;simp only at Z|-;refine⟨λp=>0<=p.1/\p.1<=C/\((p.2.1,p.2.2.1),p.2.2.2.1)=rc (A7 p.1.toNat λk=>el (R,C,D) i.toNat k*el (R',C',D') k j.toNat),λp=>(C-p.1).toNat,⟨qH _,a1,by rw[Z];rfl⟩,?_⟩;rintro⟨(k:Int),ai,ax,aj,_⟩ _ ⟨s,ab,t⟩;simp only at s ab t|-;refine⟨λo=>?_,λo=>?_⟩
     . have o:=qA o;have au:(gx [] e i).length=C.toNat:=by rw[v];exact Og r l
       have a7:gx dQ (gx [] e i) k=rc (el (R,C,D) i.toNat k.toNat):=by rw[v];exact Dj r l s o
       have av:(gx [] E k).length=C'.toNat:=by rw[w];exact Og s (by show k<R';omega)
       have a8:gx dQ (gx [] E k) j=rc (el (R',C',D') k.toNat j.toNat):=by rw[w];exact Dj s (by show k<R';omega) I b
       rw[a7,a8];refine⟨⟨r,ω⟩,⟨s,ω⟩,⟨s,ω⟩,⟨I,ω⟩,⟨I0 (Oe c P G u _ _) ω,I0 (Oe d Q H u _ _) ω⟩,?_⟩;rintro⟨q,_⟩ _ z;simp only at z|-;rw[F6,F6]at z;refine⟨⟨by rw[t];exact I0 (T _ ω _ _) δ,by rw[z];exact I0 (U _ _ _) ω⟩,?_⟩;rintro⟨ad,_⟩ _ X;simp only at X|-;rw[wv ω];refine⟨⟨ω,ω,?_⟩,ω⟩;show ad= _;rw[X,t,z,F6,F6,(ω:(k+1).toNat=k.toNat+1),A7]
     . have o:=qB o;rw[(ω:k.toNat=C.toNat)]at t;rw[wv ω];refine⟨⟨r,ω⟩,⟨by rw[O,qV];omega,by rw[O,qV];omega⟩,⟨r,ω⟩,by trivial,⟨ω,ω,?_⟩,ω⟩;rw[(ω:(j+1).toNat=j.toNat+1)];exact WY a ω t
   . have b:=qB b;rw[wv ω,(ω:(i+1).toNat=i.toNat+1)];rw[(ω:j.toNat=C'.toNat)]at a;exact⟨⟨ω,ω,WX a⟩,ω⟩
 . have l:=qB l;rw[(ω:i.toNat=R.toNat)]at a;have y:=a.1;refine⟨⟨λac y=>?_,M,a2,ω⟩,?_⟩
   . have:=WW a (λi j _ _=>T _ ω i j) ac y;exact⟨this.1,ω⟩
   . rintro⟨m,_⟩ _ F;simp only at F|-;rw[y]at F;exact⟨λh=>absurd ⟨c,d⟩ h,λ_=>⟨λb=>absurd h b,λ_=>⟨CX F λi j a4 a5=>eY a a4 a5,by trivial⟩⟩⟩
def cC:An:= {}
def GG(x:C1r):Prop:=let f:=(1:Nat);let e:=(1:Int);let d:=(0:Int);let b:=x.2.1.length;let a:=(↑x.2.1.length:Int);J3 K1 x.1/\∀(r:A1n),WfM r.1/\O0 r.2.1/\True->(¬A8 x.1->r.1=zm/\r.2.1=e)/\(A8 x.1->Zh x.1.2.1.toNat x.1.1.toNat (fun(i j:Nat)=>el x.1 j i) r.1/\r.2.1=d)->(iB (decide (r.2.1≠d)) ((¬A8 x.1->Ef QQ= []/\r.2.1=e)/\(A8 x.1->(a≠x.1.1->Ef QQ= []/\r.2.1=4)/\(a=x.1.1->Ef QQ=List.map (fun(j:Nat)=>rc (A7 x.2.1.length fun(i:Nat)=>el x.1 i j*rv (x.2.1.getD i zr))) (List.range x.1.2.1.toNat)/\r.2.1=d))) ((∃(A:Nat),∃(T:Nat),∃(c:Nat),f<=A/\f<=T/\J3 A r.1/\Gc T x.2.1/\r.1.2.1<=(↑c:Int)/\(A+T+f)*(c+f)<=(2199023255552:Nat)/\A<=K1)/\∀(g:AK),IT g.1/\O0 g.2.1/\True->(¬A8 r.1->g.1= []/\g.2.1=e)/\(A8 r.1->((↑b:Int)≠r.1.2.1->g.1= []/\g.2.1=4)/\((↑b:Int)=r.1.2.1->g.1=List.map (fun(i:Nat)=>rc (A7 b fun(j:Nat)=>el r.1 i j*rv (List.getD x.2.1 j zr))) (List.range r.1.1.toNat)/\g.2.1=d))->(¬A8 x.1->g.1= []/\g.2.1=e)/\(A8 x.1->(a≠x.1.1->g.1= []/\g.2.1=4)/\(a=x.1.1->g.1=List.map (fun(j:Nat)=>rc (A7 x.2.1.length fun(i:Nat)=>el x.1 i j*rv (x.2.1.getD i zr))) (List.range x.1.2.1.toNat)/\g.2.1=d))))
def TX:sn Jo MR:=λx M J=>by
 obtain⟨⟨R,C,D⟩,X,_⟩:=x;have I:Lu (R,C,D):=V6 M.1.2.2.2;change Int at R C;change List (List D5)at D;change List C0 at X;obtain⟨A,T,l,r,G,t,N,W,E,B⟩:∃A T l:Nat,1<=A/\1<=T/\J3 A (R,C,D)/\Gc T X/\C<=(l:Int)/\(A+T+1)*(l+1)<=2199023255552/\A<=K1:=J;have u:=KM t B;simp only[MR,iB,Nr,rT7];refine⟨u,?_⟩;rintro⟨w,_⟩ _ f;simp only at f|-;by_cases a:A8 (R,C,D)
 case neg=>
  have f:w=false:=by rw[f];exact rB a
  rw[f];exact⟨λ_=>⟨λ_=>⟨by trivial,by trivial⟩,λh=>absurd h a⟩,λh=>(by cases h)⟩
 have f:w=true:=by rw[f];exact rD a
 rw[f];obtain⟨y,P,Q,U,_,_⟩:=id a;simp only at y P Q U;refine⟨λh=>(by cases h),λ_=>⟨λh=>?_,λh=>?_⟩⟩
 . have h:=qA h;exact⟨λc=>absurd a c,λ_=>⟨λ_=>⟨by trivial,by trivial⟩,λc=>absurd c h⟩⟩
 have H:=tJ.1 (qB h);refine⟨⟨u,a⟩,?_⟩;rintro⟨e,_⟩ _ k;simp only at k|-;have Y:e.length=R.toNat:=by rw[k];exact Kr _
 let F:Nat->C0:=λi=>rc (A7 X.length λj=>el (R,C,D) i j*rv (X.getD j zr))
 refine⟨λp=>0<=p.2.1/\p.2.1<=R/\p.1=(List.range p.2.1.toNat).map F,λp=>(R-p.2.1).toNat,⟨qH _,y,rfl⟩,?_⟩;rintro⟨(v:List C0),(i:Int),_⟩ _ ⟨g,O,n⟩;simp only at g O n|-;refine⟨λb=>?_,λb=>?_⟩
 . have b:=qA b;have s:(gx [] e i).length=X.length:=by
    have:(gx [] e i).length=C.toNat:=by rw[k];exact Og g b
    omega
   refine⟨⟨g,ω⟩,⟨A,T,l,r,G,?_,N,ω,E⟩,?_⟩
   . exact B3v a I t r _ (by rw[<-k];exact G7 (d:=([]:List C0)) g ω)
   . rintro⟨q,V,_⟩ _ o;simp only at o|-;obtain⟨o,_⟩:=o s;have Z:v.length=i.toNat:=by rw[n];simp
     rw[wv ω];refine⟨⟨by rw[qV];omega,by rw[qV];omega⟩,⟨ω,ω,?_⟩,ω⟩;rw[pX F g,n,o,s];have z:A7 X.length (λj=>rv ((gx [] e i).getD j zr)*rv (X.getD j zr))=A7 X.length λj=>el (R,C,D) i.toNat j*rv (X.getD j zr):=A3 λj hj=>by
      rw[k,A3j i g b,UG _ (by show(j:Int)<C;omega),F6];rfl
     rw[z]
 . have b:=qB b;exact⟨λc=>absurd a c,λ_=>⟨λc=>absurd H c,λ_=>⟨by rw[n,(ω:i=R)],by trivial⟩⟩⟩
def PZ:sn He GG:=λx z w=>by
 obtain⟨⟨R,C,D⟩,X,_⟩:=x;have u:Lu (R,C,D):=V6 z.1.2.2.2;change Int at R C;change List (List D5)at D;change List C0 at X;obtain⟨i,A,f⟩:J3 K0 (R,C,D)/\Gc K0 X/\(A8 (R,C,D)->R<=1000):=w;have y:=KM i (δ:K0<=K1);simp only[GG,iB];refine⟨y,?_⟩;rintro⟨m,(n:Int),_⟩ _ ⟨g,j⟩;simp only at g j|-;by_cases a:A8 (R,C,D)
 case neg=>
  obtain⟨_,rfl⟩:=g a;exact⟨λ_=>⟨λ_=>⟨by trivial,by trivial⟩,λh=>absurd h a⟩,λh=>(by cases h)⟩
 have f:=f a;obtain⟨E,F,G,H,_,_⟩:=id a;simp only at E F G H;obtain⟨b,rfl⟩:=j a;have B:m.1=(C.toNat:Int):=b.1;have d:m.2.1=(R.toNat:Int):=b.2.1;have v:=Dn b ω ω;refine⟨λh=>(by cases h),λ_=>⟨⟨K0,K0,1000,δ,δ,Uq b δ λk l _ _=>Oe a u i δ l k,A,by rw[d];omega,δ,δ⟩,?_⟩⟩;rintro⟨J,(o:Int),_⟩ _ ⟨_,c⟩;simp only at c|-;have c:=c v;refine⟨λh=>absurd a h,λ_=>⟨λh=>c.1 (by rw[d];omega),λh=>?_⟩⟩;obtain⟨r,s⟩:=c.2 (by rw[d];omega);refine⟨?_,s⟩;rw[r,B,qK];refine g1c λk t=>?_
 rw[A3 λl I=>by rw[Lt b (wK.1 t) ω]]
def mT:An:= {}
def mU:An:= {}
def JE:An:= {plan:= [(1,[3,7],[],true, .done),(4,[3,7,10],[],true, .done)]}
def NJ:An:= {}
def JF:An:= {loop:= [(3,⟨[0,1],[],[(5,false,[.own tQ 46]),(6,false,vI)],[(0,59,[.val qi, .val qb])],[]⟩)]}
def EC:An:= {join:= [(12,⟨[0,1,2,6,7,8,9,10,11],[1,2,3],[],[(0,59,[.val qi, .val qb]),(4,46,[.val .bool, .val qa, .val qa])],[]⟩)],loop:= [(7,⟨[0,1,2,6,7,8],[1,2],[(9,false,[.own tQ 46]),(10,false,vI)],[(0,59,[.val qi, .val qb])],[]⟩),(3,⟨[0,1,2,6],[1],[(7,false,[.own qh 28]),(8,false,vI)],[(0,59,[.val qi, .val qb])],[]⟩)]}
def QY(x:Ee):Prop:=let b:=(u64.wrap x.2.1);let a:=(u64.wrap x.1);u64.wrap x.2.1≠0/\(0<x.2.1->(0:Int)<=i64.wrap (a.tmod b)/\i64.wrap (a.tmod b)<x.2.1/\i64.wrap (a.tmod b)=a.tmod x.2.1)
def A1r(x:Ql):Prop:=(x.1,(0:Int))=(x.1,(0:Int))
abbrev C7l:=(Wf×Int)×Int×Unit
def Pb(x:C7l):Prop:=let e:=(1:Int);let d:=(↑x.1.1.length:Int);let c:=(x.1.1.length:Int);let b:=(0:Int);let a:=(i64.wrap (x.1.2+e)-e);(iB (decide (c<=x.1.2)) ((b<=b/\b<x.2.1)/\x.1.1=x.1.1/\b<=x.1.2/\x.1.2<=d) ((b<=i64.wrap a/\i64.wrap a<c)/\b<x.2.1/\Dx λr=>(b<x.2.1->b<=r.1/\r.1<x.2.1/\r.1=(u64.wrap (gx b x.1.1 (i64.wrap a))).tmod x.2.1)->(b<=r.1/\r.1<x.2.1)/\x.1.1=x.1.1/\b<=i64.wrap (x.1.2+e)/\i64.wrap (x.1.2+e)<=d))
abbrev TM:=(Wf×Int)×Unit
def Tp(x:TM):Prop:=let b:=(x.1.1.length:Int);let a:=(0:Int);(a<(13:Int)/\a<=x.1.2/\x.1.2<=b)/\∀(r:E3) (o:TM),let c:=(o.1.1.length:Int);O0 r.1/\True->((Ty.int i64).sl.pair (Ty.int i64)).wf o.1/\True->a<=r.1/\r.1<13->o.1.1=x.1.1/\a<=o.1.2/\o.1.2<=b->(a<(4:Int)/\a<=o.1.2/\o.1.2<=c)/\∀(e:E3) (d:TM),O0 e.1/\True->((Ty.int i64).sl.pair (Ty.int i64)).wf d.1/\True->a<=e.1/\e.1<4->d.1.1=o.1.1/\a<=d.1.2/\d.1.2<=c->True/\M0 λf=>f.1=rc (Rat.divInt (i64.wrap (r.1-6)) (i64.wrap (1+e.1)))->HB f.1/\d.1.1=x.1.1/\a<=d.1.2/\d.1.2<=(↑x.1.1.length:Int)
abbrev C1p:=List QQ×Int×Wf×Int×Unit
def Pd(x:C7l):Prop:=let c:=(0:Int);∃(I:C1p->Prop),∃(d: _->Nat),I ([],c,x.1.1,x.1.2,())/\∀(p:C1p),let b:=(p.2.2.1.length:Int);tQ.sl.wf p.1/\(Ty.int i64).wf p.2.1/\(Ty.int i64).sl.wf p.2.2.1/\(Ty.int i64).wf p.2.2.2.1/\True->I p->(iB (decide (p.2.1<x.2.1)) ((c<=p.2.2.2.1/\p.2.2.2.1<=b)/\∀(r:D4) (o:TM),let a:=(p.1++ [r.1],i64.wrap (p.2.1+1),o.1.1,o.1.2,());IU r.1/\True->((Ty.int i64).sl.pair (Ty.int i64)).wf o.1/\True->HB r.1->o.1.1=p.2.2.1/\c<=o.1.2/\o.1.2<=b->((p.1.length+ [r.1].length)*(56:Nat)<=(140737488355328:Nat)/\p.1.length+ [r.1].length<=9223372036854775807)/\I a/\d a<d p) (((↑p.1.length:Int)=Max.max x.2.1 c/\∀(e:QQ),e∈p.1->HB e)/\p.2.2.1=x.1.1/\c<=p.2.2.2.1/\p.2.2.2.1<=(↑x.1.1.length:Int)))
abbrev C8b:=List (List QQ)×Int×Wf×Int×Unit
abbrev C8h:=Wf×Int×Bool×Wf×Wf×Unit
def Ki(x:(Wf×Int)×Int×Int×Unit):Prop:=let g:=(140737488355328:Nat);let c:=(0:Int);∃(I:C8b->Prop),∃(h: _->Nat),I ([],c,x.1.1,x.1.2,())/\∀(p:C8b),tQ.sl.sl.wf p.1/\(Ty.int i64).wf p.2.1/\(Ty.int i64).sl.wf p.2.2.1/\(Ty.int i64).wf p.2.2.2.1/\True->I p->(iB (decide (p.2.1<x.2.1)) (∃(I_1:C1p->Prop),∃(i: _->Nat),I_1 ([],c,p.2.2.1,p.2.2.2.1,())/\∀(k:C1p),let a:Prop:=(k.2.1<x.2.2.1);let e:=(k.2.2.1.length:Int);let b:=(p.1++ [k.1],i64.wrap (p.2.1+1),k.2.2.1,k.2.2.2.1,());tQ.sl.wf k.1/\(Ty.int i64).wf k.2.1/\(Ty.int i64).sl.wf k.2.2.1/\(Ty.int i64).wf k.2.2.2.1/\True->I_1 k->(iB (decide a) (True/\M0 λr=>r.1=rc (0:Rat)->∃(J:C8h->Prop),((c<(3:Int)/\c<=k.2.2.2.1/\k.2.2.2.1<=e)/\∀(n:E3) (o:TM),let f:=(o.1.1.length:Int);O0 n.1/\True->((Ty.int i64).sl.pair (Ty.int i64)).wf o.1/\True->c<=n.1/\n.1<3->o.1.1=k.2.2.1/\c<=o.1.2/\o.1.2<=e->(iB (decide (c<n.1)) ((c<=o.1.2/\o.1.2<=f)/\∀(r:D4) (m:TM),IU r.1/\True->((Ty.int i64).sl.pair (Ty.int i64)).wf m.1/\True->HB r.1->m.1.1=o.1.1/\c<=m.1.2/\m.1.2<=f->J (m.1.1,m.1.2,r.1.1.1,r.1.1.2,r.1.2,())) (J (o.1.1,o.1.2,r.1.1.1,r.1.1.2,r.1.2,()))))/\∀(p:C8h),let a:=((p.2.2.1,p.2.2.2.1),p.2.2.2.2.1);let d:=(k.1++ [a],i64.wrap (k.2.1+1),p.1,p.2.1,());(Ty.int i64).sl.wf p.1/\(Ty.int i64).wf p.2.1/\Ty.bool.wf p.2.2.1/\(Ty.int u32).sl.wf p.2.2.2.1/\(Ty.int u32).sl.wf p.2.2.2.2.1/\True->J p->((k.1.length+ [a].length)*(56:Nat)<=g/\k.1.length+ [a].length<=9223372036854775807)/\I_1 d/\i d<i k) (((p.1.length+ [k.1].length)*(24:Nat)<=g/\p.1.length+ [k.1].length<=9223372036854775807)/\I b/\h b<h p))) (((∀(l:List QQ),l∈p.1->Gc K1 l/\(↑l.length:Int)=x.2.2.1)/\c<=x.2.2.1/\x.2.2.1<=16384/\p.1.length<=(16384:Nat))/\gE λr=>Zh p.1.length x.2.2.1.toNat (fun(i j:Nat)=>rv ((p.1.getD i []).getD j zr)) r.1->C3x x.2.1.toNat x.2.2.1.toNat r.1/\p.2.2.1=x.1.1/\c<=p.2.2.2.1/\p.2.2.2.1<=(↑x.1.1.length:Int)))
def aB (x:A4 Im.args) (_:awf Im.args x) (_:Im.pre x):A1r x:=rfl
def AY:sn U2 Pb:=λx f d=>by
 obtain⟨⟨l,i⟩,n,_⟩:=x;have k:l.length<=9223372036854775807:=f.1.1.1;change Int at i n;change Wf at l;obtain⟨b,g,j⟩:0<n/\0<=i/\i<=(l.length:Int):=d;simp only[Pb,iB,Dx];refine⟨λh=>⟨⟨ω,b⟩,by trivial,g,j⟩,λh=>?_⟩;have h:=qB h;rw[wv (a:=i+1) ω,wv (a:=i+1-1) ω];refine⟨⟨ω,ω⟩,b,?_⟩;rintro⟨r,_⟩ _ c;exact⟨⟨(c b).1,(c b).2.1⟩,by trivial,ω,ω⟩
def aA:sn Ml QY:=λx j i=>by
 obtain⟨(a:Int),(b:Int),_⟩:=x;have h:0<b:=i;have c:OE .i64 b:=j.2.1;unfold OE at c;rw[(δ:i64.min= -9223372036854775808),(δ:i64.max=9223372036854775807)]at c;simp only[QY];have e:u64.wrap b=b:=by simp[IntKind.wrap,IntKind.bits,IntKind.signed];omega
 have d:0<=u64.wrap a:=by simp[IntKind.wrap,IntKind.bits,IntKind.signed];omega
 rw[e];have f:0<=(u64.wrap a).tmod b:=zN _ d;have g:(u64.wrap a).tmod b<b:=Int.tmod_lt_of_pos _ h;rw[wv ω];exact⟨ω,λ_=>⟨f,g,rfl⟩⟩
def pA {a b:Int} (d:a.natAbs<4294967296) (c:0<b) (f:b.natAbs<4294967296):HB (rc (Rat.divInt a b)):=by
 refine⟨_,?_,rfl⟩;rw[WH c];exact LE ω (Eb (by simpa using d)) (Eb (by simpa using f))
def FB:sn Bg Tp:=λx v k=>by
 obtain⟨⟨(l:Wf),(i:Int)⟩,_⟩:=x;obtain⟨t,u⟩:0<=i/\i<=(l.length:Int):=k;simp only[Tp,M0];refine⟨⟨ω,t,u⟩,?_⟩;rintro⟨(f:Int),_⟩ ⟨⟨(r:Wf),(n:Int)⟩,_⟩ _ _ h a;simp only at h a|-;obtain⟨rfl,b,c⟩:=a;refine⟨⟨ω,b,c⟩,?_⟩;rintro⟨(g:Int),_⟩ ⟨⟨(s:Wf),(o:Int)⟩,_⟩ _ _ j a;simp only at j a|-;obtain⟨rfl,b,c⟩:=a;refine⟨trivial,?_⟩;rintro⟨q,_⟩ _ d;simp only at d|-;rw[wv ω,wv ω]at d;exact⟨by rw[d];exact pA ω ω ω,by trivial,b,c⟩
def AZ:sn Z4 Pd:=λx F u=>by
 obtain⟨⟨(l:Wf),(i:Int)⟩,(n:Int),_⟩:=x;obtain⟨G,D,E⟩:n<=1000/\0<=i/\i<=(l.length:Int):=u;simp only[Pd,iB];refine⟨λp=>0<=p.2.1/\p.2.1<=max n 0/\(p.1.length:Int)=p.2.1/\(∀e∈p.1,HB e)/\p.2.2.1=l/\0<=p.2.2.2.1/\p.2.2.2.1<=(l.length:Int),λp=>(n-p.2.1).toNat,⟨qH _,by show 0<=max n 0;omega,rfl,λe a=>(by cases a),rfl,D,E⟩,?_⟩;rintro⟨(B:List C0),(y:Int),(z:Wf),(v:Int),_⟩ _ ⟨r,s,t,b,f,c,d⟩;simp only at r s t b f c d|-;subst f;refine⟨λh=>?_,λh=>?_⟩
 . have h:=qA h;refine⟨⟨c,d⟩,?_⟩;rintro⟨q,_⟩ ⟨⟨(A:Wf),(w:Int)⟩,_⟩ _ _ j g;simp only at j g|-;obtain⟨rfl,k,o⟩:=g;rw[wv ω];refine⟨⟨by rw[qV];omega,by rw[qV];omega⟩,⟨ω,ω,by rw[rR,qV];omega,λe a=>?_,by trivial,k,o⟩,ω⟩;rcases rA.1 a with a|a
   . exact b e a
   . rw[qY.1 a];exact j
 . have h:=qB h;exact⟨⟨ω,b⟩,by trivial,c,d⟩
def A7a {x:C0} (h:HB x):qs 1 (rv x):=by
 obtain⟨q,a,rfl⟩:=h;rw[F6];exact a
def A7b {x:C0} (h:HB x) {k:Nat} (a:1<=k):sz k x:=by
 obtain⟨q,b,rfl⟩:=h;exact⟨qU b.1 a,qU b.2 a⟩
def Vx:sn P9 Ki:=λx aa Y=>by
 obtain⟨⟨(l:Wf),(t:Int)⟩,(R:Int),(C:Int),_⟩:=x;obtain⟨a7,ab,B,c1,a5,a6⟩:0<=R/\R<=20/\0<=C/\C<=20/\0<=t/\t<=(l.length:Int):=Y;simp only[Ki,iB,M0,gE];refine⟨λp=>0<=p.2.1/\p.2.1<=R/\(p.1.length:Int)=p.2.1/\(∀v∈p.1,(v.length:Int)=C/\∀e∈v,HB e)/\p.2.2.1=l/\0<=p.2.2.2.1/\p.2.2.2.1<=(l.length:Int),λp=>(R-p.2.1).toNat,⟨qH _,a7,rfl,λe a=>(by cases a),rfl,a5,a6⟩,?_⟩;rintro⟨o,(a3:Int),(w:Wf),(Z:Int),_⟩ _ ⟨U,V,W,f,G,n,r⟩;change List (List C0)at o;simp only at U V W f G n r|-;subst G;refine⟨λh=>?_,λh=>?_⟩
 . have h:=qA h;refine⟨λp=>0<=p.2.1/\p.2.1<=C/\(p.1.length:Int)=p.2.1/\(∀e∈p.1,HB e)/\p.2.2.1=w/\0<=p.2.2.2.1/\p.2.2.2.1<=(w.length:Int),λp=>(C-p.2.1).toNat,⟨qH _,B,rfl,λe a=>(by cases a),rfl,n,r⟩,?_⟩;rintro⟨(a8:List C0),(a2:Int),(y:Wf),(a0:Int),_⟩ _ ⟨P,Q,T,i,F,j,k⟩;simp only at P Q T i F j k|-;subst F;refine⟨λh=>?_,λh=>?_⟩
   . have h:=qA h;refine⟨trivial,?_⟩;rintro⟨ac,_⟩ _ M;simp only at M|-;refine⟨λp=>p.1=y/\0<=p.2.1/\p.2.1<=(y.length:Int)/\HB ((p.2.2.1,p.2.2.2.1),p.2.2.2.2.1),⟨⟨ω,j,k⟩,?_⟩,?_⟩
     . rintro⟨(b:Int),_⟩ ⟨⟨(z:Wf),(u:Int)⟩,_⟩ _ _ s g;simp only at s g|-;obtain⟨rfl,c,d⟩:=g;refine⟨λ_=>⟨⟨c,d⟩,?_⟩,λ_=>?_⟩
       . rintro⟨q,_⟩ ⟨⟨(a4:Wf),(a1:Int)⟩,_⟩ _ _ I g;simp only at I g|-;obtain⟨rfl,N,O⟩:=g;exact⟨by trivial,N,O,I⟩
       . exact⟨by trivial,c,d,⟨0,K2 δ,M⟩⟩
     . rintro⟨(z:Wf),(u:Int),A,m,a9,_⟩ _ ⟨c,d,D,E⟩;simp only at c d D E|-;subst c;rw[wv ω];refine⟨⟨by rw[qV];omega,by rw[qV];omega⟩,⟨ω,ω,by rw[rR,qV];omega,λe a=>?_,by trivial,d,D⟩,ω⟩;rcases rA.1 a with a|a
       . exact i e a
       . rw[qY.1 a];exact E
   . have h:=qB h;rw[wv ω];refine⟨⟨by rw[qV];omega,by rw[qV];omega⟩,⟨ω,ω,by rw[rR,qV];omega,λe a=>?_,by trivial,j,k⟩,ω⟩;rcases rA.1 a with a|a
     . exact f e a
     . rw[qY.1 a];exact⟨ω,i⟩
 . have h:=qB h;refine⟨⟨λv J=>⟨λe a=>A7b ((f v J).2 e a) δ,(f v J).1⟩,B,ω,ω⟩,?_⟩;rintro⟨m,_⟩ _ H;simp only at H|-;refine⟨⟨_,λb A=>?_,by rw[(ω:R.toNat=o.length)];exact H⟩,by trivial,n,r⟩;by_cases s:b<o.length
   . by_cases X:A<(o.getD b []).length
     . exact A7a ((f _ (C9 s)).2 _ (C9 X))
     . rw[qF (l:=o.getD b []),rT ω];exact K2 δ
   . rw[qF (l:=o),rT ω];exact K2 δ
def Dh:An:= {}
def Dz:An:= {loop:= [(4,⟨[0,1,2,3,8],[],[(9,false,vI)],[],[(0, .row tE 75)]⟩),(1,⟨[0,1,2,3],[],[(8,false,vI)],[],[(0, .row tE 75)]⟩)],plan:= [(4,[8,13],[],false, .done),(6,[9,13],[15,17],true, .done)]}
def Jb:An:= {join:= [(16,⟨[0,1,2,6],[],[],[],[(0, .row tE 75)]⟩)],loop:= [(2,⟨[0,1,2,6],[],[(7,false,vI),(8,false,vI)],[],[(0, .row tE 75)]⟩),(9,⟨[0,1,2,6],[],[(7,false,vI),(8,false,vI)],[],[(0, .row tE 75)]⟩),(7,⟨[0,1,2],[],[(6,false,vI)],[],[(0, .row tE 75)]⟩)]}
def JQ:An:= {}
def JP:An:= {join:= [(14,⟨[3,18,19,20],[],[(4,false,vI)],[],[(0, .row tE 75)]⟩)],loop:= [(8,⟨[3,18,19],[],[(4,false,vI),(20,false,vI)],[],[(0, .row tE 75)]⟩)],plan:= [(10,[8,10],[],true, .done),(11,[8,10],[14],true, .done)]}
def S5(x:List EE×((EE×EE×Unit->Prop)×(EE×EE×Unit->Int))×Unit):Prop:=let a:=(x.1.length:Int);Go.Proofs.Tryz.prog=Go.Proofs.Tryz.prog/\false=false/\((Zp x.2.1.1 fun(z:TN)=>x.2.1.2 z)/\a=a/\List.length x.1<=20)/\∀(r:Unit) (o:Qk),True->tE.sl.wf o.1/\True->True->o.1.Perm x.1/\Xz (fun(z:TN)=>x.2.1.2 z) o.1->True/\o.1.Perm x.1/\Xz x.2.1.2 o.1
abbrev cZ:=Int×List EE×Unit
def T5(x:List EE×Int×Int×((EE×EE×Unit->Prop)×(EE×EE×Unit->Int))×Unit):Prop:=let m:=(0:Int);let i:=(1:Int);∃(I:cZ->Prop),∃(a: _->Nat),I (i64.wrap (x.2.1+i),x.1,())/\∀(p:cZ),(Ty.int i64).wf p.1/\DX p.2.1/\True->I p->(iB (decide (p.1<x.2.2.1)) (∃(I_1:cZ->Prop),∃(o: _->Nat),I_1 (p.1,p.2.1,())/\∀(n:cZ),let l:=(n.2.1.length:Int);let k:=n.1.toNat;let j:=(i64.wrap (p.1+i),n.2.1,());let g:Prop:=(x.2.1<n.1);let d:=(i64.wrap (n.1-i));let h:=(List.set n.2.1 k (List.getD n.2.1 d.toNat E6));let f:=(List.getD n.2.1 k E6,List.getD n.2.1 d.toNat E6,());let e:=(i64.wrap (n.1-i),h.set d.toNat (List.getD n.2.1 k E6),());let c:Prop:=(m<=i64.wrap (n.1-i)/\i64.wrap (n.1-i)<l);let b:Prop:=(m<=n.1/\n.1<l);let d:Prop:=(x.2.2.2.1.2 f<m);(Ty.int i64).wf n.1/\DX n.2.1/\True->I_1 n->(decide g=true->b)/\(decide g=true->c)/\Go.Proofs.Tryz.prog=Go.Proofs.Tryz.prog/\(decide g=true->x.2.2.2.1.1 f)/\((decide g=true->(Ty.int i64).wf (x.2.2.2.1.2 f))->(iB (G6 (decide g) (decide d) false) (c/\b/\b/\(m<=i64.wrap (n.1-i)/\i64.wrap (n.1-i)<(↑h.length:Int))/\I_1 e/\o e<o n) (I j/\a j<a p)))) (True/\List.Perm p.2.1 x.1/\List.take x.2.1.toNat p.2.1=List.take x.2.1.toNat x.1/\List.drop x.2.2.1.toNat p.2.1=List.drop x.2.2.1.toNat x.1/\Xz x.2.2.2.1.2 (List.take (x.2.2.1.toNat-x.2.1.toNat) (List.drop x.2.1.toNat p.2.1))))
abbrev B1n:=Int×Int×List EE×Unit
def Ap(x:List EE×Int×((EE×EE×Unit->Prop)×(EE×EE×Unit->Int))×Unit):Prop:=let h:=(0:Int);∃(I:B1n->Prop),∃(a: _->Nat),I (h,(20:Int),x.1,())/\∀(p:B1n),let g:=(p.2.2.1.length:Int);let d:=p.1.toNat;let b:Prop:=(List.length p.2.2.1<=100000);(Ty.int i64).wf p.1/\(Ty.int i64).wf p.2.1/\DX p.2.2.1/\True->I p->(iB (decide (p.2.1<=x.2.1)) (Go.Proofs.Tryz.prog=Go.Proofs.Tryz.prog/\false=false/\((Zp x.2.2.1.1 fun(z:TN)=>x.2.2.1.2 z)/\h<=p.1/\p.1<=p.2.1/\p.2.1<=g/\b)/\∀(r:Unit) (o:Qk),let e:=(p.2.1,i64.wrap (p.2.1+20),o);True->tE.sl.wf o.1/\True->True->o.1.Perm p.2.2.1/\List.take d o.1=List.take d p.2.2.1/\List.drop p.2.1.toNat o.1=List.drop p.2.1.toNat p.2.2.1/\Xz (fun(z:TN)=>x.2.2.1.2 z) (List.take (Int.toNat p.2.1-Int.toNat p.1) (List.drop d o.1))->I e/\a e<a p) (Go.Proofs.Tryz.prog=Go.Proofs.Tryz.prog/\false=false/\((Zp x.2.2.1.1 fun(z:TN)=>x.2.2.1.2 z)/\h<=p.1/\p.1<=x.2.1/\x.2.1<=g/\b)/\∀(r:Unit) (o:Qk),True->tE.sl.wf o.1/\True->True->o.1.Perm p.2.2.1/\List.take d o.1=List.take d p.2.2.1/\List.drop x.2.1.toNat o.1=List.drop x.2.1.toNat p.2.2.1/\Xz (fun(z:TN)=>x.2.2.1.2 z) (List.take (Int.toNat x.2.1-Int.toNat p.1) (List.drop d o.1))->∃(I:cZ->Prop),∃(a: _->Nat),I ((20:Int),o)/\∀(p:cZ),(Ty.int i64).wf p.1/\DX p.2.1/\True->I p->(iB (decide (p.1<x.2.1)) (∃(I_1:B1n->Prop),∃(b: _->Nat),I_1 (h,i64.wrap (2*p.1),p.2.1,())/\∀(i:B1n),let f:Prop:=(i64.wrap (i.1+p.1)<x.2.1);(Ty.int i64).wf i.1/\(Ty.int i64).wf i.2.1/\DX i.2.2.1/\True->I_1 i->(iB (decide (i.2.1<=x.2.1)) (Go.Proofs.Tryz.prog=Go.Proofs.Tryz.prog/\false=false/\False/\∀(r:Unit) (o:Qk),let c:=(i.2.1,i64.wrap (i.2.1+i64.wrap (2*p.1)),o);True->tE.sl.wf o.1/\True->True->True->I_1 c/\b c<b i) (∃(J:Qk->Prop),((iB (decide f) (Go.Proofs.Tryz.prog=Go.Proofs.Tryz.prog/\false=false/\False/\∀(r:Unit) (o:Qk),True->tE.sl.wf o.1/\True->True->True->J o) (J (i.2.2.1,()))))/\rT6 λj=>let f:=(i64.wrap (p.1*2),j);J j->I f/\a f<a p))) (True/\List.Perm p.2.1 x.1/\Xz x.2.2.1.2 p.2.1))))
def Pr(x:TN):Prop:=True/\Dx λr=>r.1=P6 x.1.1 x.2.1.1->r.1=P6 x.1.1 x.2.1.1
def Pq(x:Qk):Prop:=let m:=(1:Int);let g:=(0:Int);let l:=g.toNat;let e:=(x.1.length:Int);True/\Nr λr=>r.1=decide (asc x.1)->(iB r.1 ((asc x.1->x.1=x.1)/\(¬asc x.1->asc x.1/\(∀(j:Int),A6 x.1 j=A6 x.1 j)/\List.length x.1<=20/\IV (16777216:Nat) x.1)) ((g<=e/\e<=e/\(↑(64:Nat):Int)*e<=(281474976710656:Int)/\e<=(9223372036854775807:Int))/\∃(b:TN->Prop),∃(a:TN->Int),(∀(y:TN),tE.wf y.1/\tE.wf y.2.1/\True->b y->True/\Dx λz=>z.1=P6 y.1.1 y.2.1.1->false=false/\z.1=a y)/\(Zp b a/\(Ll (List.replicate e.toNat E6) x.1).length<=(20:Nat))/\∀(s:Unit) (o:Qk),True->tE.sl.wf o.1/\True->True->o.1.Perm (Ll (List.replicate e.toNat E6) x.1)/\Xz a o.1->∃(I:B1n->Prop),∃(c: _->Nat),I (g,g,o)/\∀(p:B1n),let n:=(i64.wrap (p.1-m));let i:=p.1.toNat;let h:=(p.2.2.1.length:Int);let f:=(List.getD p.2.2.1 p.2.1.toNat E6);let d:=(List.getD p.2.2.1 n.toNat E6);let k:Prop:=(p.2.1<(↑o.1.length:Int));let b:Prop:=(d.1=f.1);let a:Prop:=(g<=i64.wrap (p.1-m)/\i64.wrap (p.1-m)<h);(Ty.int i64).wf p.1/\(Ty.int i64).wf p.2.1/\DX p.2.2.1/\True->I p->(iB (decide k) (∃(J:cZ->Prop),((g<=p.2.1/\p.2.1<h)/\(decide (g<p.1)=true->a)/\(iB (G6 (decide (g<p.1)) (decide b) false) (a/\(G4 d.2/\G4 f.2)/\M0 λr=>r.1=rc (rv d.2+rv f.2)->a/\J (p.1,List.set p.2.2.1 n.toNat (d.1,r.1),())) ((g<=p.1/\p.1<h)/\J (i64.wrap (p.1+m),List.set p.2.2.1 i f,()))))/\∀(q:cZ),let k:=(q.1,i64.wrap (p.2.1+m),q.2.1,());(Ty.int i64).wf q.1/\DX q.2.1/\True->J q->I k/\c k<c p) ((g<=g/\g<=p.1/\p.1<=h)/\(asc x.1->List.drop l (List.take i p.2.2.1)=x.1)/\(¬asc x.1->asc (List.drop l (List.take i p.2.2.1))/\(∀(j:Int),A6 (List.drop l (List.take i p.2.2.1)) j=A6 x.1 j)/\(List.drop l (List.take i p.2.2.1)).length<=(20:Nat)/\IV (16777216:Nat) (List.drop l (List.take i p.2.2.1)))))))
def WF {a b:List D5} (h:a.Perm b) (j:Int):A6 a j=A6 b j:=by
 induction h with
 |nil=>rfl
 |cons e _ c=>rw[A6,A6,c]
 |swap e f l=>simp only[A6];rw[<-g0s, <-g0s,yY (if f.1=j then rv f.2 else 0)]
 |trans _ _ c d=>rw[c,d]
def WE (e:D5) (j:Int):A6 [e] j=if e.1=j then rv e.2 else 0:=by
 simp only[A6,rJ]
structure NF (o:List D5) (n i:Int) (c:List D5):Prop where
 n0:0<=n
 ni:n<=i
 il:i<=(o.length:Int)
 cl:c.length=o.length
 rest:∀j:Nat,i.toNat<=j->c.getD j E6=o.getD j E6
 ord:asc (c.take n.toNat)
 cm:∀j,A6 (c.take n.toNat) j=A6 (o.take i.toNat) j
 le:∀e∈c.take n.toNat,∃y∈o.take i.toNat,y.1=e.1
 szs:∀e∈c.take n.toNat,sz (65537*i.toNat) e.2/\Ic e.2
def NF.init (o:List D5):NF o 0 0 o:=⟨qH _,qH _,qD _,rfl,λ_ _=>rfl,List.Pairwise.nil,λ_=>rfl,λe a=>(by cases a),λe a=>(by cases a)⟩
def FV {α:Type} {l:List α} {k:Nat} {x:α} (h:k<l.length):(l.set k x).take (k+1)=l.take k++ [x]:=by
 rw[rU,zE (qP k),sK h];rfl
def Vu {α:Type} {l:List α} {k:Nat} (d:α) (h:k<l.length):l.take (k+1)=l.take k++ [l.getD k d]:=by
 rw[rU,qQ h,J7 _ _ h];rfl
variable {o c:List D5} {n i:Int}
def NF.bound (h:NF o n i c) (j:o.Pairwise λa b=>a.1<=b.1) (r:i<(o.length:Int)):∀e∈c.take n.toNat,e.1<=(o.getD i.toNat E6).1:=λe f=>by
 obtain⟨y,k,d⟩:=h.le e f;obtain⟨l,g,rfl⟩:=wF.1 k;rw[qZ]at g;rw[g1y]at d;have s:=h.n0;have t:=h.ni;have:=tP.1 j l i.toNat ω ω ω;rw[J7 _ _ (ω:i.toNat<o.length), <-d];exact this
def NF.push (h:NF o n i c) (D:o.Pairwise λa b=>a.1<=b.1) (G:IV 65536 o) (y:Zj o) (w:i<(o.length:Int)) (r:0<n->(c.getD (n-1).toNat E6).1≠(o.getD i.toNat E6).1):NF o (n+1) (i+1) (c.set n.toNat (o.getD i.toNat E6)):=by
 have A:=h.n0;have N:=h.ni;have v:=h.cl;have k:=h.bound D w;have f:(c.set n.toNat (o.getD i.toNat E6)).take (n+1).toNat=c.take n.toNat++ [o.getD i.toNat E6]:=by
  rw[(ω:(n+1).toNat=n.toNat+1)];exact FV ω
 have s:o.take (i+1).toNat=o.take i.toNat++ [o.getD i.toNat E6]:=by
  rw[(ω:(i+1).toNat=i.toNat+1)];exact Vu E6 ω
 have z:∀e∈c.take n.toNat,e.1<(o.getD i.toNat E6).1:=λe d=>by
  have I:=k e d;have B:0<n:=by
   rcases g4i A with g|g
   . exact g
   . rw[<-g]at d;cases d
  have x:(n-1).toNat<c.length:=ω
  have t:c.take n.toNat=c.take (n-1).toNat++ [c.getD (n-1).toNat E6]:=by
   rw[(ω:n.toNat=(n-1).toNat+1)];exact Vu E6 x
  have M:=k (c.getD (n-1).toNat E6) (by rw[t];simp);have r:=r B;have j:=h.ord;rw[t]at d j;rcases rA.1 d with d|d
  . have:=(tS.1 j).2.2 e d _ (qY.2 rfl);omega
  . rw[qY]at d;subst d;omega
 have l:o.getD i.toNat E6∈o:=C9 ω;refine⟨ω,ω,ω,by rw[qO];exact v,λu J=>?_,?_,λu=>?_,λe d=>?_,λe d=>?_⟩
 . rw[qF,sX ω, <-qF];exact h.rest u ω
 . rw[f];exact nK h.ord z
 . rw[f,s,Q9,Q9,h.cm]
 . rw[f]at d;rw[s];rcases rA.1 d with d|d
   . obtain⟨H,E,F⟩:=h.le e d;exact⟨H,sH _ E,F⟩
   . rw[qY]at d;subst d;exact⟨_,tK _ (qY.2 rfl),rfl⟩
 . rw[f]at d;rcases rA.1 d with d|d
   . exact⟨F1 (h.szs e d).1 ω,(h.szs e d).2⟩
   . rw[qY]at d;subst d;exact⟨F1 (G _ l) ω,y _ l⟩
def NF.add (h:NF o n i c) (O:IV 65536 o) (G:Zj o) (W:i<(o.length:Int)) (Z:0<n) (r:(c.getD (n-1).toNat E6).1=(o.getD i.toNat E6).1):sz (65537*i.toNat) (c.getD (n-1).toNat E6).2/\sz 65536 (o.getD i.toNat E6).2/\NF o n (i+1) (c.set (n-1).toNat ((c.getD (n-1).toNat E6).1,rc (rv (c.getD (n-1).toNat E6).2+rv (o.getD i.toNat E6).2))):=by
 have a0:=h.ni;have F:=h.cl;have s:(n-1).toNat<c.length:=ω
 have w:c.take n.toNat=c.take (n-1).toNat++ [c.getD (n-1).toNat E6]:=by
  rw[(ω:n.toNat=(n-1).toNat+1)];exact Vu E6 s
 have v:o.take (i+1).toNat=o.take i.toNat++ [o.getD i.toNat E6]:=by
  rw[(ω:(i+1).toNat=i.toNat+1)];exact Vu E6 ω
 have H:c.getD (n-1).toNat E6∈c.take n.toNat:=by rw[w];simp
 have u:o.getD i.toNat E6∈o:=C9 ω;obtain⟨A,T⟩:=h.szs _ H;have B:=O _ u;have U:=G _ u;refine⟨A,B,?_⟩;have j:=h.ord;have l:=h.cm;have t:=h.le;have f:=h.szs;rw[w]at j l t f;have J:=h.rest;generalize Y:c.getD (n-1).toNat E6=z at*;generalize o.getD i.toNat E6=g at*;have d:∀x:D5,(c.set (n-1).toNat x).take n.toNat=c.take (n-1).toNat++ [x]:=λx=>by
  rw[(ω:n.toNat=(n-1).toNat+1)];exact FV s
 obtain⟨P,a1,Q⟩:=tS.1 j;have I:qs (65537*(i+1).toNat) (rv z.2+rv g.2):=by
  have a:1<=i.toNat:=ω
  exact D7 (PC (Hr T A ω) (Hr U B δ)) ω
 refine⟨h.n0,ω,ω,by rw[qO];exact F,λy X=>?_,?_,λy=>?_,λe b=>?_,λe b=>?_⟩
 . rw[qF,sX ω, <-qF];exact J y ω
 . rw[d];exact tS.2 ⟨P,wZ _ _,λD E V k=>by rw[qY]at k;subst k;exact Q D E z (qY.2 rfl)⟩
 . rw[d,v,Q9,Q9, <-l,Q9,WE,WE,WE];simp only;rw[F6,r,g0s];congr 1;split
   . rfl
   . rw[rJ]
 . rw[d]at b;rw[v];rcases rA.1 b with a|a
   . obtain⟨R,M,N⟩:=t e (sH _ a);exact⟨R,sH _ M,N⟩
   . rw[qY]at a;subst a;exact⟨g,tK _ (qY.2 rfl),r.symm⟩
 . rw[d]at b;rcases rA.1 b with a|a
   . exact⟨F1 (f e (sH _ a)).1 ω,(f e (sH _ a)).2⟩
   . rw[qY]at a;subst a;exact⟨Kh I,A7g _⟩
def CC:sn Ai Pr:=λx a _=>by
 simp only[Pr,Dx];exact⟨trivial,λr _ h=>h⟩
def Cl:sn G2 T5:=λx a1 P=>by
 obtain⟨l,a,b,⟨T,g⟩,_⟩:=x;change List (Int×(Bool×Wf)×Wf)at l;change Int at a b;obtain⟨⟨O,R,N⟩,V,W,X,Z⟩:Zp T g/\0<=a/\a<=b/\b<=(l.length:Int)/\l.length<=100000:=P;simp only[T5,iB];have Q:∀x y z:D5,¬g (y,x,())<0->¬g (z,y,())<0->¬g (z,x,())<0:=λx y z v f=>R z y x f v
 refine⟨λp=>a+1<=p.1/\(p.1<=b\/p.1=a+1)/\p.2.1.Perm l/\p.2.1.take a.toNat=l.take a.toNat/\p.2.1.drop b.toNat=l.drop b.toNat/\(∀s t,a.toNat<=s->s<t->t<p.1.toNat->t<b.toNat->¬g (p.2.1.getD t E6,p.2.1.getD s E6,())<0),λp=>(b-p.1).toNat,?_,?_⟩
 . rw[wv ω];refine⟨qH _, .inr rfl,wX _,rfl,rfl,λs t v f k w=>?_⟩;change t<(a+1).toNat at k;omega
 rintro⟨(i:Int),m,_⟩ _ ⟨M,v,f,k,w,E⟩;change List (Int×(Bool×Wf)×Wf)at m;simp only at M v f k w E|-;have a0:=f.length_eq;refine⟨λh=>?_,λh=>?_⟩
 . have h:=qA h;refine⟨λp=>a<=p.1/\p.1<=i/\p.2.1.Perm l/\p.2.1.take a.toNat=l.take a.toNat/\p.2.1.drop b.toNat=l.drop b.toNat/\B4u (λx y=>¬g (y,x,())<0) E6 p.2.1 a.toNat i.toNat p.1.toNat,λp=>(p.1-a).toNat,⟨by show a<=i;omega,qH _,f,k,w,A3s λs t n o r=>E s t n o r ω⟩,?_⟩;rintro⟨(j:Int),y,_⟩ _ ⟨I,J,u,A,B,D⟩;change List (Int×(Bool×Wf)×Wf)at y;simp only at I J u A B D|-;have a2:=u.length_eq;have H:i64.wrap (j-1)=j-1:=wv ω;rw[H];have G:(j-1).toNat=j.toNat-1:=ω
   rw[G];refine⟨λF=>⟨ω,ω⟩,λF=>?_,trivial,λ_=>O _ _,λ_=>⟨λc=>?_,λc=>?_⟩⟩
   . have F:=qA F;exact⟨ω,ω⟩
   . rw[J0]at c;simp only[qC,rQ]at c;obtain⟨a4,U⟩:=c;refine⟨⟨ω,ω⟩,⟨ω,ω⟩,⟨ω,ω⟩,⟨ω,by rw[qO];omega⟩,⟨ω,ω,?_,?_,?_,?_⟩,ω⟩
     . exact(A5m (d:=E6) (l:=y) (j:=j.toNat) ω).trans u
     . exact(A5n (d:=E6) (l:=y) ω).trans A
     . exact(A5l (d:=E6) (l:=y) ω).trans B
     . exact A9x D ω ω ω (N _ _ U)
   . rw[J0]at c;simp only[wS,rO]at c;rw[wv ω];refine⟨⟨ω, .inl ω,u,A,B,λs t n o r a3=>?_⟩,ω⟩;refine B4v D Q ω (λY=>?_) s t n o (by change t<(i+1).toNat at r;omega);rcases c with c|c
     . omega
     . exact c
 . have h:=qB h;refine⟨trivial,f,k,w,?_⟩;unfold Xz;have:=YW (q:=λx y=>¬g (y,x,())<0) (d:=E6) (l:=m) (a:=a.toNat) (b:=b.toNat) ω λs t n o r=>E s t n o ω r
   exact this
def Hk:sn H9 Ap:=λx O j=>by
 obtain⟨l,n,⟨G,c⟩,_⟩:=x;change List (Int×(Bool×Wf)×Wf)at l;change Int at n;obtain⟨u,N,J⟩:Zp G c/\n=(l.length:Int)/\l.length<=20:=j;simp only[Ap,iB,rT6];refine⟨λp=>(p.1=0/\p.2.1=20/\p.2.2.1=l)\/(p.1=20/\p.2.1=40/\n=20/\p.2.2.1.Perm l/\Xz c p.2.2.1),λp=>(40-p.2.1).toNat, .inl ⟨rfl,rfl,rfl⟩,?_⟩;rintro⟨(b:Int),(r:Int),m,_⟩ _ i;change List (Int×(Bool×Wf)×Wf)at m;simp only at i|-;refine⟨λh=>?_,λh=>?_⟩
 . have h:=qA h;obtain⟨rfl,rfl,rfl⟩:b=0/\r=20/\m=l:=by
    rcases i with s| ⟨_,s,_⟩
    . exact s
    . omega
   refine⟨trivial,trivial,⟨u,qH _,ω,ω,ω⟩,?_⟩;rintro H ⟨o,_⟩ _ _ _ ⟨d,f,k,a⟩;simp only at d f k a|-;rw[wv ω];refine⟨.inr ⟨by trivial,by trivial,ω,d,?_⟩,by simp⟩;have B:=d.length_eq;change Xz c ((o.drop 0).take (20-0))at a;rw[uB,qS ω]at a;exact a
 . have h:=qB h;have A:0<=b/\b<=n/\m.Perm l/\(b=0\/b=n/\Xz c m):=by
    rcases i with⟨rfl,rfl,rfl⟩ | ⟨rfl,rfl,I,j,s⟩
    . exact⟨qH _,ω,wX _, .inl rfl⟩
    . exact⟨δ,ω,j, .inr ⟨ω,s⟩⟩
   obtain⟨E,F,z,g⟩:=A;have M:=z.length_eq;refine⟨trivial,trivial,⟨u,E,F,ω,ω⟩,?_⟩;rintro H ⟨o,_⟩ _ _ _ ⟨d,f,k,a⟩;simp only at d f k a|-;have B:=d.length_eq;have D:Xz c o:=by
    rcases g with g| ⟨g,s⟩
    . change Xz c ((o.drop b.toNat).take (n.toNat-b.toNat))at a;rw[g]at a;change Xz c ((o.drop 0).take (n.toNat-0))at a;rw[uB,qS ω]at a;exact a
    . rw[qS ω,qS ω]at f;rw[f];exact s
   refine⟨λp=>p.1=20/\p.2.1.Perm l/\Xz c p.2.1,λ_=>0,⟨rfl,d.trans z,D⟩,?_⟩;rintro⟨P,Q,_⟩ _ ⟨v,w,y⟩;simp only at v w y|-;subst v;refine⟨λt=>?_,λ_=>⟨trivial,w,y⟩⟩;have t:=qA t;omega
def Cc:sn F9 S5:=λx g c=>by
 obtain⟨l,⟨d,f⟩,_⟩:=x;obtain⟨b,a⟩:Zp d f/\l.length<=20:=c;simp only[S5];refine⟨trivial,trivial,⟨b,trivial,a⟩,?_⟩;rintro r ⟨o,_⟩ _ _ _ h;exact⟨trivial,h⟩
def A0h:Zp (λ_=>True) (λz=>P6 z.1.1 z.2.1.1):=by
 refine⟨λ_ _=>trivial,λa b c=>?_,λa b=>?_⟩
 . simp only[P6];split<;>split<;>split<;>(try split)<;>(try split)<;>(try split)<;>omega
 . simp only[P6];split<;>split<;>(try split)<;>(try split)<;>omega
def B3b {a b:Int} :¬P6 a b<0↔b<=a:=by
 unfold P6;split
 . omega
 . split<;>omega
def CB:sn Ah Pq:=λx V r=>by
 obtain⟨t,_⟩:=x;have Q:Zj t:=CZ V.1.2;change List D5 at t;have r:eC t:=r;simp only[Pq,iB,Dx,M0,Nr];refine⟨trivial,?_⟩;rintro⟨X,_⟩ _ B;simp only at B|-;subst B;refine⟨λh=>⟨λ_=>by trivial,λu=>absurd (qA h) u⟩,λh=>?_⟩;have w:=qB h;obtain⟨P,s⟩:=r.resolve_left w;refine⟨⟨ω,ω,ω,ω⟩,λ_=>True,λz=>P6 z.1.1 z.2.1.1,?_,⟨A0h,?_⟩,?_⟩
 . rintro⟨k,l,_⟩ _ _;refine⟨trivial,?_⟩;rintro⟨z,_⟩ _ s;exact⟨(by trivial),s⟩
 . rw[NU];exact P
 rintro X ⟨(o:List D5),_⟩ _ _ _ ⟨j,E⟩;simp only[NU]at j E|-;have a4:=j.length_eq;have U:o.Pairwise λk l=>k.1<=l.1:=E.imp λ{k l} b=>B3b.1 b
 have D:IV 65536 o:=λe f=>s e (j.mem_iff.1 f)
 have v:Zj o:=λe f=>Q e (j.mem_iff.1 f)
 refine⟨λp=>NF o p.1 p.2.1 p.2.2.1,λp=>((o.length:Int)-p.2.1).toNat,NF.init o,?_⟩;rintro⟨(n:Int),(i:Int),(c:List D5),_⟩ _ a;simp only at a|-;have I:=a.n0;have a2:=a.ni;have u:=a.il;have N:=a.cl;have g:(c.length:Int)=(o.length:Int):=by rw[N]
 refine⟨λd=>?_,λd=>?_⟩
 . have d:=qA d;have M:c.getD i.toNat E6=o.getD i.toNat E6:=a.rest _ (qP _);have O:0<=i/\i<(c.length:Int):=⟨ω,by rw[g];exact d⟩;have R:i64.wrap (n-1)=n-1:=wv ω;rw[R,M];refine⟨λp=>NF o p.1 (i+1) p.2.1,⟨O,λb=>?_,λb=>?_,λb=>?_⟩,?_⟩
   . have b:=qA b;exact⟨ω,by rw[g];omega⟩
   . rw[J0]at b;simp only[qC,rQ]at b;obtain⟨G,H⟩:=b;have y:0<=n-1/\n-1<(c.length:Int):=⟨ω,by rw[g];omega⟩;obtain⟨Y,Z,a0⟩:=a.add D v d G H;refine⟨y,⟨K9 (F1 Y (ω:65537*i.toNat<=2199023255552)) (qP _),K9 Z δ⟩,?_⟩;rintro⟨(q:C0),_⟩ _ A;simp only at A|-;rw[A];exact⟨y,a0⟩
   . have T:0<n->(c.getD (n-1).toNat E6).1≠(o.getD i.toNat E6).1:=λhn f=>by
      rw[J0,rD hn,rD f]at b;cases b
     rw[wv ω];exact⟨⟨ω,by rw[g];omega⟩,a.push U D v d T⟩
   . rintro⟨a5,a1,_⟩ _ J;simp only;rw[wv ω];exact⟨J,ω⟩
 . have d:=qB d;have a3:i=(o.length:Int):=ω
   refine⟨⟨qH _,I,by rw[g];omega⟩,λh=>absurd h w,λ_=>?_⟩;have F:List.drop (Int.toNat 0) (List.take n.toNat c)=c.take n.toNat:=rfl;rw[F];refine⟨a.ord,λW=>?_,?_,λe f=>F1 (a.szs e f).1 ω⟩
   . rw[a.cm,I5 ω];exact WF j W
   . rw[qZ];omega
def JO:An:= {loop:= [(5,⟨[1,6,14,15],[],[(16,false,vI)],[],[(0, .row tE 75)]⟩)]}
def Pp(x:List EE×Wf×Unit):Prop:=let h:=(0:Int);let g:=(x.2.1.length:Int);let d:=(↑x.2.1.length:Int);let e:Prop:=(∀(j:Int),A6 x.1 j≠(0:Rat)->h<=j/\j<d);List.length x.2.1<=100000/\Nr λr=>r.1=decide (G3 x.2.1 g)->(iB ((!r.1)) (G3 x.2.1 d->e->OG (fun(i:Int)=>if h<=i/\i<d then A6 x.1 (↑(List.idxOf i x.2.1):Int)else(0:Rat)) []/\false=true) (Lx x.1/\rT6 λn=>OG (A6 x.1) n.1->∃(I:cZ->Prop),∃(μ: _->Nat),I (h,n)/\∀(p:cZ),let l:Prop:=(p.1<(n.1.length:Int));let k:Prop:=(h<=p.1/\p.1<(p.2.1.length:Int));let c:=(List.getD p.2.1 p.1.toNat E6);let m:=(decide (g<=c.1));let f:=(i64.wrap (p.1+1),List.set p.2.1 p.1.toNat (gx h x.2.1 c.1,c.2),());(Ty.int i64).wf p.1/\DX p.2.1/\True->I p->(iB (decide l) (k/\(iB (G6 (decide (c.1<h)) true m) (G3 x.2.1 d->e->OG (fun(i:Int)=>if h<=i/\i<d then A6 x.1 (↑(List.idxOf i x.2.1):Int)else(0:Rat)) []/\false=true) ((h<=c.1/\c.1<g)/\k/\I f/\μ f<μ p))) (List.length p.2.1<=100000/\∀(l':List EE),tE.sl.wf l'->l'.Perm p.2.1->List.Pairwise (fun(a b:Int×(Bool×Wf)×Wf)=>¬P6 b.1 a.1<h) l'->G3 x.2.1 d->e->OG (fun(i:Int)=>if h<=i/\i<d then A6 x.1 (↑(List.idxOf i x.2.1):Int)else(0:Rat)) l'/\true=true))))
abbrev S7:=List (Int×Bool)
def keys (es:S7):Wf:=es.map λe=>e.1
def fH (k:Int) (v:Bool) (es:S7):(keys es).Nodup->(keys (Ga (.int .i64) k v es)).Nodup/\∀i,i∈keys (Ga (.int .i64) k v es)↔i=k\/i∈keys es:=by
 intro h;unfold keys at*;rw[ON];by_cases a:k∈es.map λe=>e.1
 . rw[qJ a];exact⟨h,λi=>⟨.inr,λf=>f.elim (λe=>e▸a) id⟩⟩
 . rw[qG a];refine⟨tW.2 ⟨h,by simp,λg c j b d=>?_⟩,λi=>?_⟩
   . rw[qY]at b;exact a (b▸d▸c)
   . rw[rA,qY];exact Or.comm
def fG (k:Int):∀(es:S7),(keys es).Nodup->(keys (Qb (.int .i64) k es)).Nodup/\∀i,i∈keys (Qb (.int .i64) k es)↔i≠k/\i∈keys es
 | [],h=>⟨h,λi=>⟨λa=>(by cases a),λa=>(by cases a.2)⟩⟩
 |x::r,h=>by
  have d:=sO.1 (show(x.1::keys r).Nodup from h);have e:Qb (.int .i64) k (x::r)=if k=x.1 then r else x::Qb (.int .i64) k r:=by
   rw[Qb,Kt];by_cases b:k=x.1
   . rw[qJ b,rD b];rfl
   . rw[qG b,rB b];rfl
  rw[e];by_cases b:k=x.1
  . rw[qJ b];refine⟨d.2,λi=>⟨λa=>⟨λe=>d.1 (by rw[<-b, <-e];exact a),qL _ a⟩,λa=>?_⟩⟩;exact(qX.1 (show i∈x.1::keys r from a.2)).resolve_left λe=>a.1 (by rw[e,b])
  . rw[qG b];obtain⟨g,c⟩:=fG k r d.2;refine⟨sO.2 ⟨λl=>d.1 ((c _).1 l).2,g⟩,λi=>?_⟩;constructor
    . intro a;rcases qX.1 (show i∈x.1::keys (Qb (.int .i64) k r)from a)with rfl|a
      . exact⟨λe=>b e.symm,rL⟩
      . exact⟨((c i).1 a).1,qL _ ((c i).1 a).2⟩
    . rintro⟨j,f⟩;rcases qX.1 (show i∈x.1::keys r from f)with rfl|f
      . exact rL
      . exact qL _ ((c i).2 ⟨j,f⟩)
def V8 (rows:List (List D5)) (i j:Nat):Rat:=A6 (rows.getD i []) (j:Int)
def C2f (n k:Nat) (p:Nat->Nat) (R:Nat->Nat->Rat) (j:Nat) (es:S7):Prop:=(keys es).Nodup/\∀i:Int,i∈keys es↔0<=i/\i<(n:Int)/\(∀a,a<k->i.toNat≠p a)/\R i.toNat j≠0
structure EI (n k:Nat) (S:Nat->Nat) (A:Nat->Nat->Rat) (rest P Q place:Wf) (rows lower:List (List D5)) (cols:List S7):Prop where
 elim:Xe n k A (ix P) (ix Q) (V8 rows) (V8 lower)
 lP:P.length=n
 lQ:Q.length=n
 lpl:place.length=n
 lrows:rows.length=n
 llow:lower.length=n
 lcols:cols.length=n
 P0:∀a,a<k->P.getD a 0=(ix P a:Int)
 Q0:∀a,a<k->Q.getD a 0=(ix Q a:Int)
 pl:∀a,a<k->place.getD (ix Q a) 0=(a:Int)
 rnd:rest.Nodup
 rmem:∀c:Int,c∈rest↔0<=c/\c<(n:Int)/\∀a,a<k->c.toNat≠ix Q a
 can:∀i,i<n->U5 (rows.getD i [])/\(∀e∈rows.getD i [],0<=e.1/\e.1<(n:Int))/\∀j,qs (S k) (A6 (rows.getD i []) j)
 lcan:∀i,i<n->U5 (lower.getD i [])/\(∀e∈lower.getD i [],0<=e.1/\e.1<(k:Int))
 lq:∀i,i<n->∀j,qs (S k) (A6 (lower.getD i []) j)
 fin:∀a,a<k->∀j,qs (S a) (A6 (rows.getD (ix P a) []) j)
 col:∀j:Int,j∈rest->C2f n k (ix P) (V8 rows) j.toNat (cols.getD j.toNat [])
def Bq {P:Wf} {k m:Nat} {v:Int} (h:m≠k):ix (P.set k v) m=ix P m:=by
 unfold ix;rw[qF,sX (Ne.symm h), <-qF]
def D3 {α:Type} {l:List α} {d v:α} {k m:Nat} (h:m≠k):(l.set k v).getD m d=l.getD m d:=by
 rw[qF,sX (Ne.symm h), <-qF]
def B7 {α:Type} {l:List α} {d v:α} {k:Nat} (h:k<l.length):(l.set k v).getD k d=v:=by
 rw[qF,sK h];rfl
def Qa {P:Wf} {k:Nat} {v:Int} (h:k<P.length):ix (P.set k v) k=v.toNat:=by
 unfold ix;rw[B7 h]
variable {n k:Nat} {S:Nat->Nat} {A:Nat->Nat->Rat} {rest P Q place:Wf} {rows lower:List (List D5)} {cols:List S7}
def Xo (k:Nat) (p:Nat->Nat) (R:Nat->Nat->Rat) (r c i:Nat):Rat:=if i=r\/∃a,a<k/\i=p a then 0 else R i c/R r c
def B3x {p:Nat->Nat} {R:Nat->Nat->Rat} {r c:Nat} :Xo k p R r c r=0:=qJ (.inl rfl)
def B3w {p:Nat->Nat} {R:Nat->Nat->Rat} {r c a:Nat} (h:a<k):Xo k p R r c (p a)=0:=qJ (.inr ⟨a,h,rfl⟩)
def WS {p:Nat->Nat} {R:Nat->Nat->Rat} {r c i:Nat} (b:i≠r) (d:∀a,a<k->i≠p a):Xo k p R r c i=R i c/R r c:=qG λf=>f.elim b fun⟨a,ha,e⟩=>d a ha e
def EI.step (h:EI n k S A rest P Q place rows lower cols) {r c:Int} (M:c∈rest) (Y:r∈keys (cols.getD c.toNat [])) {z:Wf} {t v:List (List D5)} {E:List S7}
 (a4:z.Nodup) (a5:∀x,x∈z↔x∈rest/\x≠c) (a0:t.length=n) (a1:v.length=n) (a2:E.length=n)
 (w:∀i,i<n->U5 (t.getD i [])/\(∀e∈t.getD i [],0<=e.1/\e.1<(n:Int))/\(∀j,qs (S (k+1)) (A6 (t.getD i []) j))/\∀j,A6 (t.getD i []) j=A6 (rows.getD i []) j-Xo k (ix P) (V8 rows) r.toNat c.toNat i*A6 (rows.getD r.toNat []) j)
 (G:∀i,i<n->v.getD i []=if Xo k (ix P) (V8 rows) r.toNat c.toNat i=0 then lower.getD i []else lower.getD i []++ [((k:Int),rc (Xo k (ix P) (V8 rows) r.toNat c.toNat i))])
 (Z:S k<=S (k+1)) (a9:∀i,i<n->qs (S (k+1)) (Xo k (ix P) (V8 rows) r.toNat c.toNat i))
 (a8:∀j:Int,j∈z->C2f n (k+1) (ix (P.set k r)) (V8 t) j.toNat (E.getD j.toNat [])):
 EI n (k+1) S A z (P.set k r) (Q.set k c) (place.set c.toNat k) t v E:=by
 obtain⟨aa,c1,D⟩:=(h.rmem c).1 M;obtain⟨ab,X⟩:=h.col c M;obtain⟨ac,ad,a6,a7⟩:=(X r).1 Y;have o:k<n:=by
  rcases sF k n with N|N
  . exact N
  . obtain⟨a,l,e⟩:=H7 (n:=n) (q:=ix Q) (λa l=>h.elim.qlt a ω) (λa b l hb=>h.elim.qinj a b ω ω) (ω:c.toNat<n);exact absurd e.symm (D a ω)
 have y:∀m,m<k->m≠k:=λm s=>uF s
 have R:∀i,i<n->∀m:Nat,V8 v i m=V8 lower i m+if m=k then Xo k (ix P) (V8 rows) r.toNat c.toNat i else 0:=λi d m=>by
  show A6 (v.getD i []) (m:Int)=A6 (lower.getD i []) (m:Int)+ _;rw[G i d];by_cases u:Xo k (ix P) (V8 rows) r.toNat c.toNat i=0
  . rw[qJ u,u];split<;>rw[rJ]
  . rw[qG u,Kz];congr 1;by_cases s:m=k
    . subst s;rw[qJ rfl,qJ rfl]
    . rw[qG s,qG ω]
 have a3:∀i,i<n->V8 lower i k=0:=λi d=>D1 λe f W=>by
  have:=(h.lcan i d).2 e f;omega
 refine⟨h.elim.step (r:=r.toNat) (c:=c.toNat) (fac:=Xo k (ix P) (V8 rows) r.toNat c.toNat) o ω ω a6 D a7 (λm s=>Bq (y m s)) (Qa (by rw[h.lP];exact o)) (λm s=>Bq (y m s)) (Qa (by rw[h.lQ];exact o)) (λi _ U V=>WS U V) B3x (λa l=>B3w l) (λi j d _=>(w i d).2.2.2 j) (λi m d s=>?_) (λi d=>?_),?_,?_,?_,a0,a1,a2,λa l=>?_,λa l=>?_,λa l=>?_,a4,λx=>?_,λi d=>⟨(w i d).1,(w i d).2.1,(w i d).2.2.1⟩,λi d=>?_,λi d j=>?_,λa l j=>?_,a8⟩
 . rw[R i d,qG (y m s),rJ]
 . rw[R i d,qJ rfl,a3 i d,sM]
 . rw[qO];exact h.lP
 . rw[qO];exact h.lQ
 . rw[qO];exact h.lpl
 . by_cases g:a=k
   . subst g;rw[B7 (by rw[h.lP];exact o),Qa (by rw[h.lP];exact o)];omega
   . rw[D3 g,Bq g];exact h.P0 a ω
 . by_cases g:a=k
   . subst g;rw[B7 (by rw[h.lQ];exact o),Qa (by rw[h.lQ];exact o)];omega
   . rw[D3 g,Bq g];exact h.Q0 a ω
 . by_cases g:a=k
   . subst g;rw[Qa (by rw[h.lQ];exact o),B7 (by rw[h.lpl];omega)]
   . rw[Bq g,D3 (λe=>D a ω e.symm)];exact h.pl a ω
 . rw[a5,h.rmem];constructor
   . rintro⟨⟨H,I,B⟩,ae⟩;refine⟨H,I,λa l=>?_⟩;by_cases g:a=k
     . subst g;rw[Qa (by rw[h.lQ];exact o)];omega
     . rw[Bq g];exact B a ω
   . rintro⟨H,I,B⟩;refine⟨⟨H,I,λa l=>by have:=B a ω;rwa[Bq (y a l)]at this⟩,λe=>?_⟩;have:=B k (rN _);rw[Qa (by rw[h.lQ];exact o),e]at this;exact this rfl
 . rw[G i d];obtain⟨J,F⟩:=h.lcan i d;split
   . exact⟨J,λe f=>by have:=F e f;omega⟩
   . rename_i u;refine⟨Ri J u λe f=>(F e f).2,λe f=>?_⟩;rcases rA.1 f with f|f
     . have:=F e f;omega
     . rw[qY]at f;subst f;simp only;omega
 . rw[G i d];have T:=D7 (h.lq i d j) Z;split
   . exact T
   . rw[Kz];by_cases O:(k:Int)=j
     . rw[qJ O,D1 λe f W=>by have:=(h.lcan i d).2 e f;omega,sM];exact a9 i d
     . rw[qG O,rJ];exact T
 . have f:∀i,i<n->Xo k (ix P) (V8 rows) r.toNat c.toNat i=0->A6 (t.getD i []) j=A6 (rows.getD i []) j:=λi d h0=>by
    rw[(w i d).2.2.2 j,h0,rS,tI,wM,rJ]
   by_cases g:a=k
   . subst g;rw[Qa (by rw[h.lP];exact o),f _ ω B3x];exact(h.can r.toNat ω).2.2 j
   . rw[Bq g,f _ (h.elim.plt a ω) (B3w ω)];exact h.fin a ω j
def EI.stuck (h:EI n k S A rest P Q place rows lower cols) {c:Int} (a:c∈rest) (f:cols.getD c.toNat []= []):¬nonsing n A:=by
 obtain⟨l,c1,b⟩:=(h.rmem c).1 a;obtain⟨_,g⟩:=h.col c a;refine h.elim.stuck (c:=c.toNat) ω b λi o d=>qN λj=>?_
 have:=(g (i:Int)).2 ⟨qD _,ω,d,j⟩;rw[f]at this;cases this
variable {n:Nat} {S:Nat->Nat} {A:Nat->Nat->Rat} {rest P Q place:Wf} {rows lower:List (List D5)} {cols:List S7}
def kV {P:Wf} (l:P.length=n) (f:∀a,a<n->P.getD a 0=(ix P a:Int)) (o:∀a,a<n->ix P a<n) (g:∀a b,a<n->b<n->ix P a=ix P b->a=b):G3 P (n:Int):=by
 have d:∀a (c:a<P.length),P[a]=(ix P a:Int):=λa c=>by
  rw[<-f a ω,qF,qQ c];rfl
 refine⟨by rw[l],λi r=>?_,tP.2 λi j h k s e=>?_⟩
 . obtain⟨a,c,rfl⟩:=wF.1 r;have:=o a ω;rw[d a c];omega
 . rw[d i h,d j k]at e;have:=g i j ω ω ω;omega
def EI.places (h:EI n n S A rest P Q place rows lower cols):G3 place (n:Int)/\∀b,b<n->List.idxOf (b:Int) place=ix Q b:=by
 have d:∀j,j<n->∃b,b<n/\ix Q b=j/\place.getD j 0=(b:Int):=λj a=>by
  obtain⟨b,c,e⟩:=H7 h.elim.qlt h.elim.qinj a;exact⟨b,c,e,by rw[<-e];exact h.pl b c⟩
 have l:∀j (a:j<place.length),place[j]=place.getD j 0:=λj a=>by
  rw[qF,qQ a];rfl
 refine⟨kV h.lpl (λj a=>?_) (λj a=>?_) (λi j f a e=>?_),λb c=>?_⟩
 . obtain⟨b,c,_,e⟩:=d j a;unfold ix;rw[e];omega
 . obtain⟨b,c,_,e⟩:=d j a;unfold ix;rw[e];omega
 . obtain⟨b,c,g,k⟩:=d i f;obtain⟨f,s,o,r⟩:=d j a;unfold ix at e;rw[k,r]at e;have:b=f:=ω
   rw[<-g, <-o,this]
 . have o:(b:Int)∈place:=by
    have a:=h.pl b c;have j:ix Q b<place.length:=by rw[h.lpl];exact h.elim.qlt b c
    rw[<-a, <-l _ j];exact vO j
   have a:=yR o;have c:place[List.idxOf (b:Int) place]=(b:Int):=g1o a;obtain⟨f,s,g,k⟩:=d (List.idxOf (b:Int) place) (by rw[<-h.lpl];exact a);rw[l _ a,k]at c;have:f=b:=ω
   rw[<-g,this]
def EI.done (h:EI n n S A rest P Q place rows lower cols) (M:n<=16384) {L U:List (List D5)} (B:L.length=n) (D:U.length=n)
 (u:∀a,a<n->L.getD a []=lower.getD (ix P a) []++ [((a:Int),rc 1)])
 (v:∀a,a<n->OG (λi=>if 0<=i/\i<(n:Int)then A6 (rows.getD (ix P a) []) ((List.idxOf i place:Nat):Int)else 0) (U.getD a [])):
 H5 (P,Q,((n:Int),(n:Int),L),((n:Int),(n:Int),U)) (n:Int)/\∀i j,i<n->j<n->Qw (P,Q,((n:Int),(n:Int),L),((n:Int),(n:Int),U)) n i j=A (ix P i) (ix Q j):=by
 obtain⟨_,y⟩:=h.places;have o:∀a m,a<n->el ((n:Int),(n:Int),L) a m=V8 lower (ix P a) m+if m=a then 1 else 0:=λa m d=>by
  show A6 (L.getD a []) (m:Int)=A6 (lower.getD (ix P a) []) (m:Int)+ _;rw[u a d,Kz];congr 1;by_cases l:m=a
  . rw[qJ l,qJ ω]
  . rw[qG l,qG ω]
 have r:∀a g,a<n->g<n->el ((n:Int),(n:Int),U) a g=V8 rows (ix P a) (ix Q g):=λa g d hb=>by
  show A6 (U.getD a []) (g:Int)=A6 (rows.getD (ix P a) []) _;rw[(v a d).2, <-y g hb];exact qJ ⟨qD _,ω⟩
 have x:=h.elim.plt;have F:∀a,a<n->F7 (L.getD a []) (n:Int):=λa d=>by
  rw[u a d];obtain⟨k,s⟩:=h.lcan _ (x a d);have z:∀e∈lower.getD (ix P a) [],e.1<(a:Int):=λe b=>by
   refine qN λH=>(k.2 e b).1 ?_
   have G:=s e b;have:=h.elim.low a e.1.toNat d ω ω;unfold V8 at this;rw[(ω:((e.1.toNat:Nat):Int)=e.1),H6 k.1 b]at this;exact this
  have w:=Ri (q:=1) k δ z;refine⟨w.1,λe b=>⟨?_,?_,(w.2 e b).1⟩⟩
  . rcases rA.1 b with b|b
    . exact(s e b).1
    . rw[qY]at b;subst b;exact qD _
  . rcases rA.1 b with b|b
    . exact(s e b).2
    . rw[qY]at b;subst b;simp only;omega
 have vU:∀a,a<n->F7 (U.getD a []) (n:Int):=λa d=>by
  obtain⟨k,w⟩:=v a d;have s:∀e∈U.getD a [],0<=e.1/\e.1<(n:Int):=λe b=>qN λhh=>(k.2 e b).1 (by rw[<-H6 k.1 b,w];exact qG hh)
  exact⟨k.1,λe b=>⟨(s e b).1,(s e b).2,(k.2 e b).1⟩⟩
 refine⟨⟨kV h.lP h.P0 h.elim.plt h.elim.pinj,kV h.lQ h.Q0 h.elim.qlt h.elim.qinj,⟨rfl,rfl,qD _,by show(n:Int)<=16384;omega,qD _,by show(n:Int)<=16384;omega,by show(L.length:Int)=(n:Int);omega,λE t=>?_⟩,⟨rfl,rfl,qD _,by show(n:Int)<=16384;omega,qD _,by show(n:Int)<=16384;omega,by show(U.length:Int)=(n:Int);omega,λE t=>?_⟩,λi j c f=>?_⟩,λi j c f=>?_⟩
 . obtain⟨a,d,rfl⟩:=N4 [] t;exact F a (by rw[<-B];exact d)
 . obtain⟨a,d,rfl⟩:=N4 [] t;exact vU a (by rw[<-D];exact d)
 . have c:i<n:=ω
   have f:j<n:=ω
   refine⟨λI=>?_,?_,λJ=>?_,?_⟩
   . show el ((n:Int),(n:Int),L) i j=0;rw[o i j c,h.elim.low i j c f ω,qG ω,rJ]
   . show el ((n:Int),(n:Int),L) i i=1;rw[o i i c,h.elim.low i i c c (qP _),qJ rfl,sM]
   . show el ((n:Int),(n:Int),U) i j=0;rw[r i j c f];exact h.elim.zero j (ix P i) f (x i c) λa d e=>by have:=h.elim.pinj i a c ω e;omega
   . show el ((n:Int),(n:Int),U) i i≠0;rw[r i i c c];exact h.elim.piv i c
 . rw[h.elim.prod c f];unfold Qw;refine A3 λm l=>?_
   show el ((n:Int),(n:Int),L) i m*el ((n:Int),(n:Int),U) m j= _;rw[o i m c,r m j l f]
def EI.sizes (h:EI n n S A rest P Q place rows lower cols) (b:∀a,1<=S a) {L U:List (List D5)}
 (d:∀a,a<n->L.getD a []=lower.getD (ix P a) []++ [((a:Int),rc 1)])
 (f:∀a,a<n->OG (λi=>if 0<=i/\i<(n:Int)then A6 (rows.getD (ix P a) []) ((List.idxOf i place:Nat):Int)else 0) (U.getD a [])) {R C:Int} {i:Nat} (hi:i<n) (j:Nat):qs (S n) (el (R,C,L) i j)/\qs (S i) (el (R,C,U) i j):=by
 constructor
 . show qs (S n) (A6 (L.getD i []) (j:Int));rw[d i hi,Kz];by_cases g:i=j
   . subst g;have c:A6 (lower.getD (ix P i) []) (i:Int)=0:=h.elim.low i i hi hi (qP _);rw[qJ rfl,c,sM];exact kZ (b n)
   . rw[qG ω,rJ];exact h.lq _ (h.elim.plt i hi) _
 . show qs (S i) (A6 (U.getD i []) (j:Int));rw[(f i hi).2];dsimp only;split
   . exact h.fin i hi _
   . exact K2 (b i)
def EI.cans (h:EI n n S A rest P Q place rows lower cols) {L U:List (List D5)} (l:L.length=n) (o:U.length=n)
 (j:∀a,a<n->L.getD a []=lower.getD (ix P a) []++ [((a:Int),rc 1)])
 (k:∀a,a<n->OG (λi=>if 0<=i/\i<(n:Int)then A6 (rows.getD (ix P a) []) ((List.idxOf i place:Nat):Int)else 0) (U.getD a [])):(∀v∈L,U5 v)/\∀v∈U,U5 v:=by
 constructor
 . intro v f;obtain⟨a,b,rfl⟩:=N4 [] f;have b:a<n:=by rw[<-l];exact b
   rw[j a b];obtain⟨c,g⟩:=h.lcan _ (h.elim.plt a b);refine Ri c δ λe d=>qN λs=>(c.2 e d).1 ?_
   have r:=g e d;have:=h.elim.low a e.1.toNat b ω ω;unfold V8 at this;rw[(ω:((e.1.toNat:Nat):Int)=e.1),H6 c.1 d]at this;exact this
 . intro v f;obtain⟨a,b,rfl⟩:=N4 [] f;exact(k a (by rw[<-o];exact b)).1
variable {n:Nat} {S:Nat->Nat} {rest P Q place:Wf} {rows lower:List (List D5)} {cols:List S7}
def jH (t:Int) (F:Nat->Int->Rat) (v:List D5) (j:Int) (es:S7):Prop:=(keys es).Nodup/\∀i:Int,i∈keys es↔(0<=i/\i<t/\F i.toNat j≠0)\/(i=t/\∃e∈v,e.1=j)
def B3f {t j:Int} {F:Nat->Int->Rat} {v:List D5} {es:S7} {b:Bool} {e:D5} (h:jH t F v j es) (d:e.1=j):jH t F (v++ [e]) j (Ga (.int .i64) t b es):=by
 obtain⟨a,c⟩:=fH t b es h.1;refine⟨a,λi=>?_⟩;rw[c,h.2];constructor
 . rintro(hh|hh| ⟨hh,x,a,c⟩)
   . exact .inr ⟨hh,e,by simp,d⟩
   . exact .inl hh
   . exact .inr ⟨hh,x,sH _ a,c⟩
 . rintro(hh| ⟨hh,x,a,c⟩)
   . exact .inr (.inl hh)
   . exact .inl hh
def A9l {t j:Int} {F:Nat->Int->Rat} {v:List D5} {es:S7} {e:D5} (h:jH t F v j es) (b:e.1≠j):jH t F (v++ [e]) j es:=by
 refine⟨h.1,λi=>?_⟩;rw[h.2];refine g3x xX (g5i xX ⟨fun⟨x,a,hxj⟩=>⟨x,sH _ a,hxj⟩,fun⟨x,a,hxj⟩=>?_⟩);rcases rA.1 a with a|a
 . exact⟨x,a,hxj⟩
 . rw[qY]at a;subst a;exact absurd hxj b
def A9k {t j:Int} {F:Nat->Int->Rat} {v:List D5} {es:S7} {m:Int} (h:jH t F v j es) (l:0<=t) (f:F7 v m) (d:F t.toNat=A6 v):jH (t+1) F [] j es:=by
 refine⟨h.1,λi=>?_⟩;rw[h.2];constructor
 . rintro(⟨c,g,a⟩ | ⟨rfl,e,b,rfl⟩)
   . exact .inl ⟨c,ω,a⟩
   . refine .inl ⟨l,ω,?_⟩;rw[d,H6 f.1 b];exact(f.2 e b).2.2
 . rintro(⟨c,g,a⟩ | ⟨_,e,b,_⟩)
   . by_cases k:i=t
     . subst k;rw[d]at a;exact .inr ⟨rfl,CO a⟩
     . exact .inl ⟨c,ω,a⟩
   . cases b
def EI.start {F:Nat->Int->Rat} {A:Nat->Nat->Rat} (E:∀i j,i<n->j<n->A i j=F i (j:Int)) (V:rest.length=n) (G:∀i,i<n->rest.getD i 0=(i:Int))
 (M:P.length=n) (N:Q.length=n) (O:place.length=n) (H:rows.length=n) (I:lower.length=n) (J:cols.length=n)
 (w:∀i,i<n->OG (F i) (rows.getD i [])) (R:∀i (j:Int),i<n->F i j≠0->0<=j/\j<(n:Int)) (D:∀i j,i<n->qs (S 0) (F i j)) (B:∀i,i<n->lower.getD i []= [])
 (T:∀j:Int,0<=j->j<(n:Int)->jH (n:Int) F [] j (cols.getD j.toNat [])):EI n 0 S A rest P Q place rows lower cols:=by
 have d:∀a,¬a<0:=λa=>tY a
 have r:∀i (b:i<rest.length),rest[i]=(i:Int):=λi b=>by
  rw[<-G i ω,qF,qQ b];rfl
 refine⟨⟨rM _,λa h=>absurd h (d a),λa h=>absurd h (d a),λa _ h=>absurd h (d a),λa _ h=>absurd h (d a),λi j b s=>?_,λa _ h=>absurd h (d a),λa h=>absurd h (d a),λa _ h=>absurd h (d a)⟩,M,N,O,H,I,J,λa h=>absurd h (d a),λa h=>absurd h (d a),λa h=>absurd h (d a),tP.2 λi j b s U e=>?_,λc=>⟨λv=>?_,λv=>?_⟩,λi b=>?_,λi b=>?_,λi b j=>?_,λa o=>absurd o (d a),λj s=>?_⟩
 . rw[A7,sM,E i j b s];exact((w i b).2 _).symm
 . rw[r i b,r j s]at e;omega
 . obtain⟨i,b,rfl⟩:=wF.1 v;rw[r i b];exact⟨qD _,ω,λa o=>absurd o (d a)⟩
 . obtain⟨f,g,_⟩:=v;have z:c.toNat<rest.length:=ω
   have:=r _ z;rw[(ω:((c.toNat:Nat):Int)=c)]at this;rw[<-this];exact vO z
 . obtain⟨l,t⟩:=w i b;exact⟨l,λe k=>R i e.1 b (by rw[<-t,H6 l.1 k];exact(l.2 e k).1),λj=>by rw[t];exact D i j b⟩
 . rw[B i b];exact⟨JS,λe k=>by cases k⟩
 . rw[B i b,Rj];exact K2 (A4w (D i j b))
 . have y:0<=j/\j<(n:Int):=by
    obtain⟨i,b,rfl⟩:=wF.1 s;rw[r i b];omega
   obtain⟨l,t⟩:=T j y.1 y.2;refine⟨l,λi=>?_⟩;rw[t];have x:∀i:Int,0<=i->i<(n:Int)->V8 rows i.toNat j.toNat=F i.toNat j:=λi f g=>by
    show A6 (rows.getD i.toNat []) ((j.toNat:Nat):Int)= _;rw[(w i.toNat ω).2,(ω:((j.toNat:Nat):Int)=j)]
   constructor
   . rintro(⟨f,g,u⟩ | ⟨_,e,k,_⟩)
     . exact⟨f,g,λa o=>absurd o (d a),by rw[x i f g];exact u⟩
     . cases k
   . rintro⟨f,g,_,u⟩;exact .inl ⟨f,g,by rw[x i f g]at u;exact u⟩
def nV (Bs:Int->Int->Prop) (i:Int) (vs:List D5) (j:Int) (es:S7):Prop:=(keys es).Nodup/\∀x:Int,x∈keys es↔Bs j x/\¬(x=i/\∃e∈vs,e.1=j)
def nU (Bs:Int->Int->Prop) (i:Int) (vs:List D5) (j:Int) (es:S7):Prop:=(keys es).Nodup/\∀x:Int,x∈keys es↔Bs j x\/(x=i/\∃e∈vs,e.1=j)
variable {Bs:Int->Int->Prop} {i j:Int} {vs:List D5} {es:S7} {e:D5}
def nW (h:(keys es).Nodup/\∀x,x∈keys es↔Bs j x):nV Bs i [] j es:=⟨h.1,λx=>by rw[h.2];exact⟨λa=>⟨a,fun⟨_,e,he,_⟩=>by cases he⟩,λa=>a.1⟩⟩
def B3c (h:(keys es).Nodup/\∀x,x∈keys es↔Bs j x):nU Bs i [] j es:=⟨h.1,λx=>by rw[h.2];exact⟨.inl,λa=>a.elim id fun⟨_,e,he,_⟩=>by cases he⟩⟩
def Um (a:e.1=j):∃y∈vs++ [e],y.1=j:=⟨e,by simp,a⟩
def WR (b:e.1≠j):(∃y∈vs++ [e],y.1=j)↔∃y∈vs,y.1=j:=
 ⟨fun⟨y,a,hyj⟩=>by
  rcases rA.1 a with a|a
  . exact⟨y,a,hyj⟩
  . rw[qY]at a;subst a;exact absurd hyj b,fun⟨y,a,hyj⟩=>⟨y,sH _ a,hyj⟩⟩
def B3e (h:nV Bs i vs j es) (c:e.1=j):nV Bs i (vs++ [e]) j (Qb (.int .i64) i es):=by
 obtain⟨a,b⟩:=fG i es h.1;refine⟨a,λx=>?_⟩;rw[b,h.2];exact⟨λa=>⟨a.2.1,λb=>a.1 b.1⟩,λa=>⟨λd=>a.2 ⟨d,Um c⟩,a.1,λb=>a.2 ⟨b.1,Um c⟩⟩⟩
def A9j (h:nV Bs i vs j es) (a:e.1≠j):nV Bs i (vs++ [e]) j es:=⟨h.1,λx=>by rw[h.2,WR a]⟩
def B3d {b:Bool} (h:nU Bs i vs j es) (d:e.1=j):nU Bs i (vs++ [e]) j (Ga (.int .i64) i b es):=by
 obtain⟨a,c⟩:=fH i b es h.1;refine⟨a,λx=>?_⟩;rw[c,h.2];exact⟨λa=>a.elim (λc=> .inr ⟨c,Um d⟩) λa=>a.elim .inl λc=> .inr ⟨c.1,Um d⟩,λa=>a.elim (λa=> .inr (.inl a)) λc=> .inl c.1⟩
def A9i (h:nU Bs i vs j es) (a:e.1≠j):nU Bs i (vs++ [e]) j es:=⟨h.1,λx=>by rw[h.2,WR a]⟩
def B3g {O N:Int->Prop} {pv nw:List D5} {d:S7} (g:nU (λ_ x=>Bs j x/\¬(x=i/\∃e∈pv,e.1=j)) i nw j d)
 (l:Bs j i↔O j) (n:(∃e∈pv,e.1=j)\/(O j↔N j)) (k:(∃e∈nw,e.1=j)↔N j):(keys d).Nodup/\∀x,x∈keys d↔(x≠i/\Bs j x)\/(x=i/\N j):=by
 refine⟨g.1,λx=>?_⟩;rw[g.2,k];by_cases c:x=i
 . subst c;rcases n with f|f
   . exact⟨λb=>b.elim (λa=>absurd ⟨rfl,f⟩ a.2) .inr,λb=>b.elim (λa=>absurd rfl a.1) .inr⟩
   . exact⟨λb=>b.elim (λa=> .inr ⟨rfl,f.1 (l.1 a.1)⟩) .inr,λb=>b.elim (λa=>absurd rfl a.1) .inr⟩
 . exact⟨λb=>b.elim (λa=> .inl ⟨c,a.1⟩) λa=>absurd a.1 c,λb=>b.elim (λa=> .inl ⟨a.2,λh=>c h.1⟩) λa=>absurd a.1 c⟩
def C0f {s:Nat} {x f r c:Rat} (h:qs s x) (d:qs s f) (g:qs s r) (b:qs s c):qs (4*s+1) (x-f/r*c):=by
 have a:=lA h (Ii (Zy d g) b);rwa[(ω:s+(s+s+s)+1=4*s+1)]at a
def inC (cols:List S7) (j x:Int):Prop:=x∈keys (cols.getD j.toNat [])
structure CI (n k s:Nat) (rest P:Wf) (rows0 lower0:List (List D5)) (r c:Int) (D:Wf) (rows lower:List (List D5)) (cols:List S7):Prop where
 lrows:rows.length=n
 llow:lower.length=n
 lcols:cols.length=n
 rd:∀i:Nat,i<n->(i:Int)∈D->U5 (rows.getD i [])/\(∀e∈rows.getD i [],0<=e.1/\e.1<(n:Int))/\(∀j,qs (4*s+1) (A6 (rows.getD i []) j))/\∀j,A6 (rows.getD i []) j=A6 (rows0.getD i []) j-Xo k (ix P) (V8 rows0) r.toNat c.toNat i*A6 (rows0.getD r.toNat []) j
 ru:∀i:Nat,i<n->(i:Int)∉D->rows.getD i []=rows0.getD i []
 lo:∀i:Nat,i<n->lower.getD i []=if(i:Int)∈D then lower0.getD i []++ [((k:Int),rc (Xo k (ix P) (V8 rows0) r.toNat c.toNat i))]else lower0.getD i []
 col:∀j:Int,j∈rest->(keys (cols.getD j.toNat [])).Nodup/\∀x:Int,x∈keys (cols.getD j.toNat [])↔x≠r/\0<=x/\x<(n:Int)/\(∀a,a<k->x.toNat≠ix P a)/\V8 rows x.toNat j.toNat≠0
variable {n k s:Nat} {S:Nat->Nat} {A:Nat->Nat->Rat} {rest P Q place:Wf} {rows lower rows1 lower1:List (List D5)} {cols cols1 cols2:List S7} {r c:Int}
def A6t {v:List D5} (h:U5 v) (j:Int):(∃e∈v,e.1=j)↔A6 v j≠0:=
 ⟨fun⟨e,he,hj⟩=>by rw[<-hj,H6 h.1 he];exact(h.2 e he).1,CO⟩
def EI.row (h:EI n k S A rest P Q place rows lower cols) (b:c∈rest) (d:r∈keys (cols.getD c.toNat [])):0<=r/\r<(n:Int)/\(∀a,a<k->r.toNat≠ix P a)/\V8 rows r.toNat c.toNat≠0:=((h.col c b).2 r).1 d
def EI.crange (h:EI n k S A rest P Q place rows lower cols) (a:c∈rest):0<=c/\c<(n:Int):=⟨((h.rmem c).1 a).1,((h.rmem c).1 a).2.1⟩
def CI.init (h:EI n k S A rest P Q place rows lower cols) (u:c∈rest) (x:r∈keys (cols.getD c.toNat [])) (z:cols1.length=n)
 (v:∀j:Int,j∈rest->nV (inC cols) r (rows.getD r.toNat []) j (cols1.getD j.toNat [])):CI n k s rest P rows lower r c [] rows lower cols1:=by
 obtain⟨F,G,H,_⟩:=h.row u x;refine⟨h.lrows,h.llow,z,λi _ w=>(by cases w),λi _ _=>rfl,λi _=>(qG (by simp)).symm,λj hj=>?_⟩;obtain⟨D,E⟩:=h.crange hj;obtain⟨l,o⟩:=v j hj;refine⟨l,λB=>?_⟩;rw[o];have t:=(h.col j hj).2 B;unfold inC;rw[t,A6t (h.can r.toNat ω).1];constructor
 . rintro⟨⟨d,f,g,a⟩,b⟩;refine⟨λe=>b ⟨e,?_⟩,d,f,g,a⟩;subst e;unfold V8 at a;rwa[(ω:((j.toNat:Nat):Int)=j)]at a
 . rintro⟨y,d,f,g,a⟩;exact⟨⟨d,f,g,a⟩,λb=>y b.1⟩
def CI.next (h:EI n k S A rest P Q place rows lower cols) (hc:c∈rest) (hr:r∈keys (cols.getD c.toNat [])) {D:Wf} (g:CI n k (S k) rest P rows lower r c D rows1 lower1 cols1) {i:Int}
 (a1:0<=i) (a2:i<(n:Int)) (W:i≠r) (B:∀a,a<k->i.toNat≠ix P a) (T:i∉D) {nw:List D5} {q:Rat}
 (Z:q=V8 rows i.toNat c.toNat/V8 rows r.toNat c.toNat)
 (u:OG (λj=>A6 (rows.getD i.toNat []) j-q*A6 (rows.getD r.toNat []) j) nw) (a7:cols2.length=n)
 (a5:∀j:Int,j∈rest->nU (λj x=>inC cols1 j x/\¬(x=i/\∃e∈rows.getD r.toNat [],e.1=j)) i nw j (cols2.getD j.toNat [])):
 CI n k (S k) rest P rows lower r c (D++ [i]) (rows1.set i.toNat nw) (lower1.set i.toNat (lower1.getD i.toNat []++ [((k:Int),rc q)])) cols2:=by
 obtain⟨ac,ad,ae,af⟩:=h.row hc hr;obtain⟨a8,c1⟩:=h.crange hc;have o:i.toNat<n:=ω
 have V:((i.toNat:Nat):Int)=i:=ω
 have U:Xo k (ix P) (V8 rows) r.toNat c.toNat i.toNat=q:=by rw[WS ω B,Z]
 have s:∀x:Nat,(x:Int)∈D++ [i]↔(x:Int)∈D\/x=i.toNat:=λx=>by
  rw[rA,qY];exact g3x xX ω
 have w:∀j,A6 nw j=A6 (rows.getD i.toNat []) j-q*A6 (rows.getD r.toNat []) j:=u.2;have a6:∀e∈nw,0<=e.1/\e.1<(n:Int):=λe he=>qN λb=>by
  refine(u.1.2 e he).1 ?_;rw[<-H6 u.1.1 he,w,D1 (v:=rows.getD i.toNat []) λM F G=>b (by rw[<-G];exact(h.can _ o).2.1 M F),D1 (v:=rows.getD r.toNat []) λM F G=>b (by rw[<-G];exact(h.can r.toNat ω).2.1 M F),sL,tI,wM,rJ]
 refine⟨by rw[qO];exact g.lrows,by rw[qO];exact g.llow,a7,λx d f=>?_,λx d f=>?_,λx d=>?_,λj E=>?_⟩
 . by_cases l:x=i.toNat
   . subst l;rw[B7 (by rw[g.lrows];exact o),U];refine⟨u.1,a6,λj=>?_,w⟩;rw[w,Z];have:=C0f ((h.can _ o).2.2 j) ((h.can _ o).2.2 (c.toNat:Int)) ((h.can r.toNat ω).2.2 (c.toNat:Int)) ((h.can r.toNat ω).2.2 j);exact this
   . rw[D3 l];exact g.rd x d (((s x).1 f).resolve_right l)
 . have l:x≠i.toNat:=λe=>f ((s x).2 (.inr e))
   rw[D3 l];exact g.ru x d λb=>f ((s x).2 (.inl b))
 . by_cases l:x=i.toNat
   . subst l;rw[B7 (by rw[g.llow];exact o),qJ ((s _).2 (.inr rfl)),g.lo _ o,qG (by rw[V];exact T),U]
   . rw[D3 l,g.lo x d];by_cases f:(x:Int)∈D
     . rw[qJ f,qJ ((s x).2 (.inl f))]
     . rw[qG f,qG λb=>f (((s x).1 b).resolve_right l)]
 . obtain⟨aa,ab⟩:=h.crange E;obtain⟨a9,R⟩:=g.col j E;have X:((j.toNat:Nat):Int)=j:=ω
   have a4:inC cols1 j i↔A6 (rows.getD i.toNat []) j≠0:=by
    unfold inC;rw[R];have F:V8 rows1 i.toNat j.toNat=A6 (rows.getD i.toNat []) j:=by
     unfold V8;rw[g.ru _ o (by rw[V];exact T),X]
    rw[F];exact⟨λb=>b.2.2.2.2,λb=>⟨W,a1,a2,B,b⟩⟩
   have a0:=B3g (Bs:=inC cols1) (O:=λj=>A6 (rows.getD i.toNat []) j≠0) (N:=λj=>A6 nw j≠0) (pv:=rows.getD r.toNat []) (nw:=nw) (a5 j E) a4 ?_ (A6t u.1 j)
   . refine⟨a0.1,λx=>?_⟩;rw[a0.2];unfold inC;rw[R];by_cases d:x=i
     . subst d;have:V8 (rows1.set x.toNat nw) x.toNat j.toNat=A6 nw j:=by
        unfold V8;rw[B7 (by rw[g.lrows];exact o),X]
       rw[this];exact⟨λb=>b.elim (λz=>absurd rfl z.1) λz=>⟨W,a1,a2,B,z.2⟩,λb=> .inr ⟨rfl,b.2.2.2.2⟩⟩
     . constructor
       . rintro(⟨_,t,H,I,J,y⟩ | ⟨t,_⟩)
         . refine⟨t,H,I,J,?_⟩;unfold V8 at y|-;rwa[D3 ω]
         . exact absurd t d
       . rintro⟨t,H,I,J,y⟩;refine .inl ⟨d,t,H,I,J,?_⟩;unfold V8 at y|-;rwa[D3 ω]at y
   . by_cases Y:∃e∈rows.getD r.toNat [],e.1=j
     . exact .inl Y
     . refine .inr ?_;have a3:A6 (rows.getD r.toNat []) j=0:=qN λb=>Y (CO b)
       show A6 _ j≠0↔A6 nw j≠0;rw[w,a3,sL,tI,wM,rJ]
def CI.done (h:EI n k S A rest P Q place rows lower cols) (z:c∈rest) (O:r∈keys (cols.getD c.toNat [])) {D:Wf} (g:CI n k (S k) rest P rows lower r c D rows1 lower1 cols1)
 (I:S (k+1)=4*S k+1) (U:∀x:Int,x∈D↔x≠r/\0<=x/\x<(n:Int)/\(∀a,a<k->x.toNat≠ix P a)/\V8 rows x.toNat c.toNat≠0) {G:Wf} (X:G.Nodup) (R:∀x,x∈G↔x∈rest/\x≠c):
 EI n (k+1) S A G (P.set k r) (Q.set k c) (place.set c.toNat k) rows1 lower1 cols1:=by
 obtain⟨Z,a0,a1,W⟩:=h.row z O;have E:k<P.length:=by
  rw[h.lP];refine g4l h.elim.kn λE=>?_
  obtain⟨M,c1,F⟩:=(h.rmem c).1 z;obtain⟨a,l,e⟩:=H7 (n:=n) (q:=ix Q) (λa l=>h.elim.qlt a ω) (λa b l hb=>h.elim.qinj a b ω ω) (ω:c.toNat<n);exact absurd e.symm (F a ω)
 have B:∀i:Nat,i<n->((i:Int)∈D↔Xo k (ix P) (V8 rows) r.toNat c.toNat i≠0):=λi d=>by
  rw[U,qK];constructor
  . rintro⟨Y,_,_,t,u⟩;rw[WS ω t,tT];exact λo=>(xD.1 o).elim u λo=>by
     have:=vM _ W;rw[o,sL]at this;exact absurd this δ
  . intro M;have F:¬(i=r.toNat\/∃a,a<k/\i=ix P a):=λs=>M (qJ s)
    refine⟨λe=>F (.inl ω),ω,ω,λa l e=>F (.inr ⟨a,l,e⟩),λo=>M ?_⟩;unfold Xo;rw[qG F,o,tT,rS]
 refine h.step z O X R g.lrows g.llow g.lcols (λi d=>?_) (λi d=>?_) ω (λi d=>?_) λj V=>?_
 . rw[I];by_cases f:(i:Int)∈D
   . exact g.rd i d f
   . have o:Xo k (ix P) (V8 rows) r.toNat c.toNat i=0:=qN λs=>f ((B i d).2 s)
     rw[g.ru i d f,o];obtain⟨w,y,T⟩:=h.can i d;exact⟨w,y,λj=>D7 (T j) ω,λj=>by rw[rS,tI,wM,rJ]⟩
 . rw[g.lo i d];by_cases f:(i:Int)∈D
   . rw[qJ f,qG ((B i d).1 f)]
   . rw[qG f,qJ (qN λs=>f ((B i d).2 s))]
 . have N:=(h.can i d).2.2 (c.toNat:Int);rw[I];unfold Xo;split
   . exact K2 (by have:=A4w N;omega)
   . exact D7 (Zy N ((h.can r.toNat ω).2.2 (c.toNat:Int))) ω
 . obtain⟨w,y⟩:=g.col j ((R j).1 V).1;refine⟨w,λx=>?_⟩;rw[y];constructor
   . rintro⟨Y,t,u,v,H⟩;refine⟨t,u,λa l=>?_,H⟩;by_cases J:a=k
     . subst J;rw[Qa E];omega
     . rw[Bq J];exact v a ω
   . rintro⟨t,u,v,H⟩;refine⟨λe=>?_,t,u,λa l=>?_,H⟩
     . have:=v k (rN _);rw[Qa E,e]at this;exact this rfl
     . have:=v a ω;rwa[Bq (uF l)]at this
def EI.two (h:EI n k S A rest P Q place rows lower cols) {i j:Nat} (b:i<n) (c:j<n) (o:i≠j) (g:∀a,a<k->i≠ix P a) (l:∀a,a<k->j≠ix P a):k+2<=n:=by
 refine qN λb=>?_
 have b:=h.elim.kn;obtain⟨a,f,c,d,b⟩:=OY n (λa=>if a<k then ix P a else if a=k then i else j) λa _=>by
  split
  . rename_i c;exact h.elim.plt a c
  . split<;>assumption
 by_cases c:a<k
 . rw[qJ c]at b;by_cases d:f<k
   . rw[qJ d]at b;have:=h.elim.pinj a f c d b;omega
   . rw[qG d]at b;split at b
     . exact g a c b.symm
     . exact l a c b.symm
 . have d:¬f<k:=ω
   rw[qG c,qG d]at b;have:a=k:=ω
   rw[qJ this,qG ω]at b;exact o b
def Xe.qsR {n k T:Nat} {A R Lo:Nat->Nat->Rat} {p q:Nat->Nat} (h:Xe n k A p q R Lo) (I:Hl n n A T) {i j:Nat} (t:i<n) (M:j<n):qs (T+T) (R i j):=by
 have H:∀a,a<=k->a<n->(∀b,b<a->i≠p b)->(∀m,a<=m->m<k->Lo i m=0)->qs (T+T) (R i j):=λa hak han hia hlo=>by
  have O:∀b,b<a->(if b=a then i else p b)=p b:=λb d=>qG ω
  have w:∀b,b<a->(if b=a then R i else R (p b))=R (p b):=λb d=>qG ω
  have z:∀b,b<a->(if b=a then j else q b)=q b:=λb d=>qG ω
  have E:∀b,b<=a->(if b=a then j else q b)<n:=λb d=>by
   by_cases e:b=a
   . rw[qJ e];exact M
   . rw[qG e];exact h.qlt b ω
  have:=lT (R:=n) (C:=n) (T:=T) (A:=A) (a:=a) (u:=λb=>if b=a then R i else R (p b)) (X:=λb=>if b=a then Lo i else Lo (p b)) (r:=λb=>if b=a then i else p b) (l:=λb=>if b=a then j else q b) I (λb d=>by
   by_cases e:b=a
   . simp only[qJ e];exact t
   . simp only[qG e];exact h.plt b ω) E han han (λb d m F=>by
   have y:=E m F;generalize (if m=a then j else q m)=c at y;by_cases e:b=a
   . simp only[e,wA];rw[h.dec i c t y,Br hak λf g o=>by rw[hlo f g o,rS]];congr 1;exact A3 λf D=>by rw[w f D]
   . simp only[qG e];rw[h.dec (p b) c (h.plt b ω) y,Br (ω:b<=k) λf g o=>by rw[h.low b f ω o g,rS]];congr 1;exact A3 λf D=>by rw[w f ω]) (λb m F d=>by
   show(if b=a then R i else R (p b)) (if m=a then j else q m)=0;rw[z m ω];by_cases e:b=a
   . rw[qJ e];exact h.zero m i ω t λv J=>hia v ω
   . rw[qG e];exact h.zero m (p b) ω (h.plt b ω) λv J x=>by have:=h.pinj b v ω ω x;omega) (λb d=>by
   show(if b=a then R i else R (p b)) (if b=a then j else q b)≠0;rw[w b d,z b d];exact h.piv b ω)
  simp only[wA]at this;exact this
 by_cases B:∃a,a<k/\i=p a
 . obtain⟨a,s,rfl⟩:=B;exact H a ω (by have:=h.kn;omega) (λb d x=>by have:=h.pinj a b s ω x;omega) λm g o=>h.low a m s o g
 . have G:∀a,a<k->i≠p a:=λa s e=>B ⟨a,s,e⟩
   have N:k<n:=g4l h.kn λe=>by
    subst e;obtain⟨a,s,f⟩:=H7 h.plt h.pinj t;exact G a s f.symm
   exact H k (qP _) N G λm g o=>ω
def Xe.qsL {n k T:Nat} {A R Lo:Nat->Nat->Rat} {p q:Nat->Nat} (h:Xe n k A p q R Lo) (B:Hl n n A T) (F:1<=T) {i m:Nat} (t:i<n) (D:m<k):qs (T+T) (Lo i m):=by
 by_cases y:∃a,a<=m/\i=p a
 . obtain⟨a,d,rfl⟩:=y;rw[h.low a m ω D d];exact K2 ω
 have E:∀a,a<=m->i≠p a:=λa d e=>y ⟨a,d,e⟩
 have z:m<n:=by have:=h.kn;omega
 refine A5p (R:=n) (C:=n) (T:=T) (A:=A) (a:=m) (u:=λb=>R (p b)) (X:=λb=>Lo (p b)) (r:=p) (l:=q) (s:=i) (x:=Lo i) B (λb j=>h.plt b ω) t (λb j=>h.qlt b ω) z z (λb j c w=>?_) (λb c w j=>?_) (λb j=>h.piv b ω) (λc w=>?_)
 . rw[h.dec (p b) (q c) (h.plt b ω) (h.qlt c ω),Br (ω:b<=k) λf v g=>by rw[h.low b f ω g v,rS]]
 . exact h.zero c (p b) ω (h.plt b ω) λa d o=>by have:=h.pinj b a ω ω o;omega
 . rw[h.dec i (q c) t (h.qlt c ω),h.zero c i ω t λa d=>E a ω,rJ,Br (ω:m+1<=k) λf v g=>by rw[h.zero c (p f) ω (h.plt f g) λa d o=>by have:=h.pinj f a g ω o;omega,sL],A7]
variable {n k s T:Nat} {S S':Nat->Nat} {A:Nat->Nat->Rat} {rest P Q place:Wf} {rows lower rows1 lower1:List (List D5)} {cols cols1 cols2:List S7} {r c:Int}
def EI.resize (h:EI n k S A rest P Q place rows lower cols) (b:∀a,a<=k->S a=S' a):EI n k S' A rest P Q place rows lower cols:=
 { h with
   can:=λi c=>by rw[<-b k (qP _)];exact h.can i c
   lq:=λi c j=>by rw[<-b k (qP _)];exact h.lq i c j
   fin:=λa c j=>by rw[<-b a ω];exact h.fin a c j}
def EI.tight (h:EI n k S A rest P Q place rows lower cols) (d:1<=T) (b:Hl n n A T):EI n k (λ_=>T+T) A rest P Q place rows lower cols:=by
 have c:∀i,i<n->∀j:Int,qs (T+T) (A6 (rows.getD i []) j):=λi a j=>by
  by_cases l:0<=j/\j<(n:Int)
  . have:=h.elim.qsR b a (ω:j.toNat<n);unfold V8 at this;rwa[(ω:((j.toNat:Nat):Int)=j)]at this
  . rw[D1 λe f g=>l (by rw[<-g];exact(h.can i a).2.1 e f)];exact K2 ω
 exact {h with
  can:=λi a=>⟨(h.can i a).1,(h.can i a).2.1,c i a⟩
  lq:=λi a j=>by
   by_cases f:0<=j/\j<(k:Int)
   . have:=h.elim.qsL b d a (ω:j.toNat<k);unfold V8 at this;rwa[(ω:((j.toNat:Nat):Int)=j)]at this
   . rw[D1 λe b d=>f (by rw[<-d];exact(h.lcan i a).2 e b)];exact K2 ω
  fin:=λa b j=>c _ (h.elim.plt a b) j}
def CI.doneT (h:EI n k (λ_=>T+T) A rest P Q place rows lower cols) (i:1<=T) (d:Hl n n A T) (j:c∈rest) (l:r∈keys (cols.getD c.toNat [])) {D:Wf} (g:CI n k (T+T) rest P rows lower r c D rows1 lower1 cols1)
 (f:∀x:Int,x∈D↔x≠r/\0<=x/\x<(n:Int)/\(∀a,a<k->x.toNat≠ix P a)/\V8 rows x.toNat c.toNat≠0) {b:Wf} (o:b.Nodup) (s:∀x,x∈b↔x∈rest/\x≠c):
 EI n (k+1) (λ_=>T+T) A b (P.set k r) (Q.set k c) (place.set c.toNat k) rows1 lower1 cols1:=by
 have b:=h.resize (S':=λa=>if a<=k then T+T else 4*(T+T)+1) λa ha=>(qJ ha).symm
 refine(CI.done b j l (D:=D) (by simp only[qJ (qP k)];exact g) ?_ f o s).tight i d;simp only[qG (Nat.not_succ_le_self k),qJ (qP k)]
def A7o {R C:Nat} (a:Hl R C A T) {i j:Nat} (b:i<R) (c:j<C):qs T (A i j):=by
 have:=a 1 (λ_=>i) (λ_=>j) ω ω (λ_ _=>b) (λ_ _=>c);rwa[show det 1 (λ_ _=>A i j)=A i j from by rw[det,A7,A7,det];show 0+1*A i j*1=A i j;grind]at this
def LJ {α:Type} (l:List α) (i:Nat) (d:α):l.set i (l.getD i d)=l:=by
 refine g0o (by rw[qO]) λj b a=>?_
 rw[g4z];split
 . rename_i e;subst e;rw[J7 _ _ a]
 . rfl
def Lh {α:Type} {d:α} {l:List α} {t:Int} (a:0<=t) (b:t<(l.length:Int)):l.take (t+1).toNat=l.take t.toNat++ [gx d l t]:=by
 rw[(ω:(t+1).toNat=t.toNat+1),rU,J1 (d:=d) a b];rfl
def OT {l:Wf} {n:Nat} (h:l.Nodup) (f:∀x∈l,0<=x/\x<(n:Int)):l.length<=n:=by
 refine qN λa=>?_
 have b:∀a,a<n+1->a<l.length:=λa ha=>ω
 obtain⟨a,c,i,g,j⟩:=OY n (λa=>(l.getD a 0).toNat) λa ha=>by
  have:=f _ (C9 (d:=0) (b a ha));omega
 have i:=f _ (C9 (d:=0) (b a ω));have i:=f _ (C9 (d:=0) (b c g));have f:l.getD a 0=l.getD c 0:=ω
 rw[J7 _ _ (b a ω),J7 _ _ (b c g)]at f;have:=(yA h).1 f;omega
def B5g (es:S7):(keys es).length=es.length:=sU ..
def pS {es:S7} {y:Int×Bool} (h:y∈es):y.1∈keys es:=vZ (f:=λe:Int×Bool=>e.1) h
def mI (n:Nat) (dd:List Nat):Prop:=∀i,i<n->i∉dd
abbrev NB:=List S7×List Nat
abbrev NR:=List (List D5)×List Nat
variable {n k:Nat} {S:Nat->Nat} {A:Nat->Nat->Rat} {rest P Q place:Wf} {rows lower:List (List D5)} {cols:List S7}
def A5u {v:List D5} {m j:Int} (h:F7 v m) (b:A6 v j≠0):0<=j/\j<m:=qN λa=>b (B1r h a)
def EI.more (h:EI n k S A rest P Q place rows lower cols) (u:k<n):0<rest.length:=by
 refine qN λv=>?_
 have o:rest= []:=qT ω;have g:∀c,c<n->∃a,a<k/\c=ix Q a:=λc b=>qN λhh=>by
  have:=(h.rmem (c:Int)).2 ⟨ω,ω,λa ha e=>hh ⟨a,ha,ω⟩⟩;rw[o]at this;cases this
 obtain⟨f,d⟩:∃f:Nat->Nat,∀c,c<n->f c<k/\c=ix Q (f c):=by
  refine⟨λc=>if b:c<n then(g c b).choose else 0,λc b=>?_⟩;simp only[dif_pos b];exact(g c b).choose_spec
 obtain⟨a,i,s,t,l⟩:=OY k f λa ha=>(d a ω).1
 have j:=(d a ω).2;have r:=(d i ω).2;rw[l]at j;omega
def EI.okRow (h:EI n k S A rest P Q place rows lower cols) (d:S k<=K1) (a:n<=16384) {i:Nat} (f:i<n):NE K1 (rows.getD i []):=by
 obtain⟨a,b,c⟩:=h.can i f;have:=V5 (n:=(n:Int)) (v:=rows.getD i []) ⟨a.1,λe he=>⟨(b e he).1,(b e he).2,(a.2 e he).1⟩⟩;exact⟨a.1,CN a λj=>D7 (c j) d,ω⟩
def EI.lowLen (h:EI n k S A rest P Q place rows lower cols) {i:Nat} (c:i<n):(lower.getD i []).length<=k:=by
 obtain⟨a,b⟩:=h.lcan i c;have:=V5 (n:=(k:Int)) (v:=lower.getD i []) ⟨a.1,λe he=>⟨(b e he).1,(b e he).2,(a.2 e he).1⟩⟩;omega
def EI.colLen (h:EI n k S A rest P Q place rows lower cols) {c:Int} (b:c∈rest):(cols.getD c.toNat []).length<=n:=by
 obtain⟨d,a⟩:=h.col c b;rw[<-B5g];exact OT d λx b=>⟨((a x).1 b).1,((a x).1 b).2.1⟩
def EI.pick (h:EI n k S A rest P Q place rows lower cols) {b:Nat} (a:b<rest.length):(rest.take b++rest.drop (b+1)).Nodup/\∀x,x∈rest.take b++rest.drop (b+1)↔x∈rest/\x≠rest.getD b 0:=by
 have j:rest=rest.take b++rest.getD b 0::rest.drop (b+1):=by
  rw[J7 _ _ a, <-xO a,uT]
 have d:=h.rnd;generalize rest.getD b 0=c at*;generalize rest.take b=u at*;generalize rest.drop (b+1)=v at*;subst j;rw[tW]at d;obtain⟨s,t,f⟩:=d;obtain⟨o,r⟩:=sO.1 t;refine⟨tW.2 ⟨s,r,λg i b a=>f g i b (qL _ a)⟩,λx=>?_⟩;rw[rA,rA,qX];constructor
 . rintro(hx|hx)
   . exact⟨.inl hx,λe=>f x hx c rL e⟩
   . exact⟨.inr (.inr hx),λe=>o (e▸hx)⟩
 . rintro⟨hx|hx|hx,l⟩
   . exact .inl hx
   . exact absurd hx l
   . exact .inr hx
def HF (n:Nat) (rest:Wf) (Bs:Int->Int->Prop) (i:Int) (v:List D5) (p:Int×NB×Unit):Prop:=0<=p.1/\p.1<=(v.length:Int)/\p.2.1.1.length=n/\mI n p.2.1.2/\∀j:Int,j∈rest->(0<=j/\j<(n:Int))/\nV Bs i (v.take p.1.toNat) j (p.2.1.1.getD j.toNat [])
def fE (n:Nat) (rest:Wf) (Bs:Int->Int->Prop) (i:Int) (v:List D5) (p:Int×NB×Unit):Prop:=0<=p.1/\p.1<=(v.length:Int)/\p.2.1.1.length=n/\mI n p.2.1.2/\∀j:Int,j∈rest->(0<=j/\j<(n:Int))/\nU Bs i (v.take p.1.toNat) j (p.2.1.1.getD j.toNat [])
def QJ (n:Nat) (F:Nat->Int->Rat) (i:Int) (v:List D5) (p:Int×NB×Unit):Prop:=0<=p.1/\p.1<=(v.length:Int)/\p.2.1.1.length=n/\mI n p.2.1.2/\∀j:Int,0<=j->j<(n:Int)->jH i F (v.take p.1.toNat) j (p.2.1.1.getD j.toNat [])
variable {Bs:Int->Int->Prop} {i t:Int} {v:List D5} {dd:List Nat} {F:Nat->Int->Rat}
def HF.rng (h:HF n rest Bs i v (t,(cols,dd),())) (c:∀e∈v,0<=e.1/\e.1<(n:Int)) (b:t<(v.length:Int)):(0<=t/\t<(v.length:Int))/\(0<=(gx E6 v t).1/\(gx E6 v t).1<((cols.length:Nat):Int))/\(gx E6 v t).1.toNat∉dd:=by
 have a:=c (gx E6 v t) (G7 (d:=E6) (i:=t) h.1 b);have c:cols.length=n:=h.2.2.1;exact⟨⟨h.1,b⟩,⟨a.1,by rw[c];exact a.2⟩,h.2.2.2.1 _ ω⟩
def HF.next (h:HF n rest Bs i v (t,(cols,dd),())) (hv:∀e∈v,0<=e.1/\e.1<(n:Int)) (ht:t<(v.length:Int)):HF n rest Bs i v (t+1,(cols.set (gx E6 v t).1.toNat (Qb (.int .i64) i (cols.getD (gx E6 v t).1.toNat [])),dd),()):=by
 obtain⟨b,_,c,f,g⟩:=h;simp only at b c f g;refine⟨by simp only;omega,by simp only;omega,by simp only;rw[qO];exact c,f,λj a=>?_⟩;obtain⟨⟨l,o⟩,k⟩:=g j a;refine⟨⟨l,o⟩,?_⟩;have r:=hv _ (G7 (d:=E6) b ht);simp only;rw[Lh (d:=E6) b ht];generalize gx E6 v t=e at*;by_cases a:e.1=j
 . subst a;rw[B7 ω];exact B3e k rfl
 . rw[D3 ω];exact A9j k a
def fE.rng (h:fE n rest Bs i v (t,(cols,dd),())) (c:∀e∈v,0<=e.1/\e.1<(n:Int)) (b:t<(v.length:Int)):(0<=t/\t<(v.length:Int))/\(0<=(gx E6 v t).1/\(gx E6 v t).1<((cols.length:Nat):Int))/\(gx E6 v t).1.toNat∉dd:=by
 have a:=c (gx E6 v t) (G7 (d:=E6) (i:=t) h.1 b);have c:cols.length=n:=h.2.2.1;exact⟨⟨h.1,b⟩,⟨a.1,by rw[c];exact a.2⟩,h.2.2.2.1 _ ω⟩
def fE.next {b:Bool} (h:fE n rest Bs i v (t,(cols,dd),())) (hv:∀e∈v,0<=e.1/\e.1<(n:Int)) (ht:t<(v.length:Int)):fE n rest Bs i v (t+1,(cols.set (gx E6 v t).1.toNat (Ga (.int .i64) i b (cols.getD (gx E6 v t).1.toNat [])),dd),()):=by
 obtain⟨c,_,f,g,k⟩:=h;simp only at c f g k;refine⟨by simp only;omega,by simp only;omega,by simp only;rw[qO];exact f,g,λj a=>?_⟩;obtain⟨⟨o,r⟩,l⟩:=k j a;refine⟨⟨o,r⟩,?_⟩;have s:=hv _ (G7 (d:=E6) c ht);simp only;rw[Lh (d:=E6) c ht];generalize gx E6 v t=e at*;by_cases a:e.1=j
 . subst a;rw[B7 ω];exact B3d l rfl
 . rw[D3 ω];exact A9i l a
def QJ.rng (h:QJ n F i v (t,(cols,dd),())) (c:∀e∈v,0<=e.1/\e.1<(n:Int)) (b:t<(v.length:Int)):(0<=t/\t<(v.length:Int))/\(0<=(gx E6 v t).1/\(gx E6 v t).1<((cols.length:Nat):Int))/\(gx E6 v t).1.toNat∉dd:=by
 have a:=c (gx E6 v t) (G7 (d:=E6) (i:=t) h.1 b);have c:cols.length=n:=h.2.2.1;exact⟨⟨h.1,b⟩,⟨a.1,by rw[c];exact a.2⟩,h.2.2.2.1 _ ω⟩
def QJ.next {b:Bool} (h:QJ n F i v (t,(cols,dd),())) (hv:∀e∈v,0<=e.1/\e.1<(n:Int)) (ht:t<(v.length:Int)):QJ n F i v (t+1,(cols.set (gx E6 v t).1.toNat (Ga (.int .i64) i b (cols.getD (gx E6 v t).1.toNat [])),dd),()):=by
 obtain⟨a,_,c,f,g⟩:=h;simp only at a c f g;refine⟨by simp only;omega,by simp only;omega,by simp only;rw[qO];exact c,f,λj o r=>?_⟩;have s:=hv _ (G7 (d:=E6) a ht);simp only;rw[Lh (d:=E6) a ht];have k:=g j o r;generalize gx E6 v t=e at*;by_cases l:e.1=j
 . subst l;rw[B7 ω];exact B3f k rfl
 . rw[D3 ω];exact A9l k l
def KJ (n:Nat) (p:Int×NB×Wf×Unit):Prop:=0<=p.1/\p.1<=(n:Int)/\p.2.1.1.length=n/\(∀j,p.2.1.1.getD j []= [])/\(∀i∈p.2.1.2,p.1<=(i:Int))/\p.2.2.1.length=n/\∀i:Nat,(i:Int)<p.1->p.2.2.1.getD i 0=(i:Int)
def KJ.init:KJ n (0,(List.replicate n [],Qd (Ty.mp false (Ty.int i64) false Ty.bool) n),List.replicate n 0,()):=by
 refine⟨by simp only;omega,by simp only;omega,by simp only;rw[rG],λj=>?_,λi _=>qD i,by simp only;rw[rG],λi a=>?_⟩
 . simp only;rw[qF,uW];split<;>rfl
 . simp only at a;omega
def KJ.next {left:Wf} (h:KJ n (t,(cols,dd),left,())) (ht:t<(n:Int)):KJ n (t+1,(cols.set t.toNat [],PQ t.toNat dd),left.set t.toNat t,()):=by
 obtain⟨o,_,c,d,f,g,k⟩:=h;simp only at o c d f g k;refine⟨by simp only;omega,by simp only;omega,by simp only;rw[qO];exact c,λj=>?_,λi b=>?_,by simp only;rw[qO];exact g,λi b=>?_⟩
 . simp only;by_cases a:j=t.toNat
   . subst a;rw[B7 ω]
   . rw[D3 a];exact d j
 . simp only at b|-;obtain⟨l,r⟩:=ZX.1 b;have:=f i l;omega
 . simp only at b|-;by_cases a:i=t.toNat
   . subst a;rw[B7 ω];omega
   . rw[D3 a];exact k i ω
def FR (n:Nat) (D:List (List D5)) (p:Int×List (List D5)×NB×Unit):Prop:=0<=p.1/\p.1<=(n:Int)/\p.2.1.length=n/\(∀i:Nat,(i:Int)<p.1->OG (A6 (D.getD i [])) (p.2.1.getD i []))/\p.2.2.1.1.length=n/\mI n p.2.2.1.2/\∀j:Int,0<=j->j<(n:Int)->jH p.1 (λi=>A6 (D.getD i [])) [] j (p.2.2.1.1.getD j.toNat [])
def FR.init {left:Wf} {D:List (List D5)} (h:KJ n (t,(cols,dd),left,())) (s:(n:Int)<=t):FR n D (0,List.replicate n [],(cols,dd),()):=by
 obtain⟨g,_,b,c,d,k,l⟩:=h;simp only at g b c d k l;refine⟨by simp only;omega,by simp only;omega,by simp only;rw[rG],λi f=>by simp only at f;omega,b,λi f r=>by have:=d i r;omega,λj u v=>?_⟩;simp only;rw[c];refine⟨g0e,λx=>⟨λa=>(by cases a),λa=>?_⟩⟩;rcases a with⟨w,y,_⟩ | ⟨_,e,o,_⟩
 . omega
 . cases o
def FR.row {D:List (List D5)} {rs:List (List D5)} (h:FR n D (t,rs,(cols,dd),())):QJ n (λi=>A6 (D.getD i [])) t (D.getD t.toNat []) (0,(cols,dd),()):=by
 obtain⟨d,_,f,g,a,b,c⟩:=h;exact⟨qH _,qD _,a,b,λj d f=>c j d f⟩
def FR.next {D:List (List D5)} {rs:List (List D5)} {cols2:List S7} {dd2:List Nat} {u:Int} {w:List D5} (h:FR n D (t,rs,(cols,dd),())) (ht:t<(n:Int)) {m:Int} (hv:F7 (D.getD t.toNat []) m) (hw:OG (A6 (D.getD t.toNat [])) w) (hf:QJ n (λi=>A6 (D.getD i [])) t (D.getD t.toNat []) (u,(cols2,dd2),())) (hu:((D.getD t.toNat []).length:Int)<=u):FR n D (t+1,rs.set t.toNat w,(cols2,dd2),()):=by
 obtain⟨d,_,f,g,r,s,v⟩:=h;obtain⟨o,_,a,b,c⟩:=hf;simp only at d f g r s v o a b c;refine⟨by simp only;omega,by simp only;omega,by simp only;rw[qO];exact f,λi x=>?_,a,b,λj y z=>?_⟩
 . simp only at x|-;by_cases l:i=t.toNat
   . subst l;rw[B7 ω];exact hw
   . rw[D3 l];exact g i ω
 . simp only;have k:=c j y z;rw[I5 hu]at k;exact A9k k d hv rfl
def B9z (n:Nat) (M:O1) (p:Int×Wf×Wf×Wf×Wf×List (List D5)×NR×NB×Unit):Prop:=0<=p.1/\p.1<=(n:Int)/\(∀s,1<=s->Hl n n (el M) s->EI n p.1.toNat (λ_=>s+s) (el M) p.2.1 p.2.2.1 p.2.2.2.1 p.2.2.2.2.1 p.2.2.2.2.2.1 p.2.2.2.2.2.2.1.1 p.2.2.2.2.2.2.2.1.1)/\mI n p.2.2.2.2.2.2.1.2/\mI n p.2.2.2.2.2.2.2.1.2
def B9z.init {M:O1} {left:Wf} {cols2:List S7} {B:List Nat} {rs:List (List D5)} {u:Int} (y:A8 M) (V:Lu M) (Q:M.1=(n:Int)) (P:M.2.1=(n:Int)) (h:KJ n (t,(cols2,B),left,())) (X:(n:Int)<=t) (g:FR n M.2.2 (u,rs,(cols,dd),())) (A:(n:Int)<=u):B9z n M (0,left,List.replicate n 0,List.replicate n 0,List.replicate n 0,rs,(List.replicate n [],Qd (Ty.sl (.pair (.int .i64) (.pair (.pair .bool (.sl (.int .u32))) (.sl (.int .u32))))) n),(cols,dd),()):=by
 obtain⟨G,H,I,J,N,w,x⟩:=h;obtain⟨D,E,k,l,o,r,v⟩:=g;simp only at G H I J N w x D E k l o r v;have A:u=(n:Int):=ω
 subst A;refine⟨qH _,qD _,λs W O=>?_,λi a f=>(by cases f),r⟩;have U:(M.2.2.length:Int)=(n:Int):=by rw[y.2.2.2.2.1,Q]
 have b:∀i,i<n->F7 (M.2.2.getD i []) (n:Int):=λi a=>by
  have f:=C9 (d:=([]:List D5)) (ω:i<M.2.2.length);exact P▸y.2.2.2.2.2 _ f
 have T:∀(i:Nat) (j:Int),i<n->qs (s+s) (A6 (M.2.2.getD i []) j):=λi j a=>by
  by_cases c:0<=j/\j<(n:Int)
  . have:=A7o O a (ω:j.toNat<n);unfold el at this;rw[(ω:((j.toNat:Nat):Int)=j)]at this;exact D7 this ω
  . rw[D1 λe z R=>c (by rw[<-R];exact⟨((b i a).2 e z).1,((b i a).2 e z).2.1⟩)];exact K2 ω
 exact EI.start (F:=λi=>A6 (M.2.2.getD i [])) (λi j _ _=>rfl) w (λi a=>x i ω) rG rG rG k rG o (λi a=>l i ω) (λi j a c=>A5u (b i a) c) (λi j a=>T i j a) (λi a=>by rw[qF,uW,qJ a];rfl) v
def Rb:An:= {loop:= [(5,⟨[1,5,14,15],[],[(16,false,vI)],[],[(0, .row .bool 4)]⟩)]}
def VC:An:= {plan:= [(3,[0,1,2],[5],true, .done)]}
def Uf:An:= {}
def Fv(x:ZU):Prop:=let b:=(x.1.length:Int);let a:=(0:Int);(iB (decide (b≠x.2.1)) (false=decide (G3 x.1 x.2.1)) ((a<=x.2.1/\x.2.1<=x.2.1/\(↑(1:Nat):Int)*x.2.1<=281474976710656/\x.2.1<=9223372036854775807)/\∃(I:C1m->Prop),∃(d: _->Nat),I (a,List.replicate x.2.1.toNat false,())/\∀(p:C1m),let h:=(decide (gx a x.1 p.1<a));let g:=(p.2.1.length:Int);let f:=(decide (x.2.1<=gx a x.1 p.1));let e:=(List.getD p.2.1 (gx a x.1 p.1).toNat false);let i:=(G6 h true f);let c:=(i64.wrap (p.1+1),List.set p.2.1 (gx a x.1 p.1).toNat true,());(Ty.int i64).wf p.1/\(List.length p.2.1<=9223372036854775807/\∀(x:Bool),x∈p.2.1->True)/\True->I p->(iB (decide (p.1<b)) ((a<=p.1/\p.1<b)/\(G6 h true f=false->a<=gx a x.1 p.1/\gx a x.1 p.1<g)/\(iB (G6 i true e) (false=decide (G3 x.1 x.2.1)) ((a<=gx a x.1 p.1/\gx a x.1 p.1<g)/\I c/\d c<d p))) (true=decide (G3 x.1 x.2.1)))))
def AP(x:iD):Prop:=let a:=(rv x.1-rv x.2.1*rv x.2.2.1);True/\Dx λr=>r.1=(rv x.2.2.1).num.sign->(iB (decide (r.1=0)) ((rv x.2.2.1=(0:Rat)->x.1=x.1)/\(rv x.2.2.1≠(0:Rat)->x.1=rc a)) ((G4 x.2.1/\G4 x.2.2.1)/\M0 λr=>r.1=rc (rv x.2.1*rv x.2.2.1)->(G4 x.1/\G4 r.1)/\M0 λb=>b.1=rc (rv x.1-rv r.1)->(rv x.2.2.1=(0:Rat)->b.1=x.1)/\(rv x.2.2.1≠(0:Rat)->b.1=rc a)))
def Hj(x:A1n):Prop:=let b:=(decide (x.1.1=x.2.1));let a:=(decide (x.1.2.1=x.2.1));(G6 b a false=true->True)/\∀(r:R8),(G6 b a false=true->(True/\True)/\r.1=decide (A8 x.1))->G6 (G6 b a false) r.1 false=decide (sqr x.1 x.2.1)
def PI (l:Wf) (n t:Int) (s:List Bool):Prop:=0<=t/\t<=(l.length:Int)/\(s.length:Int)=n/\(∀i∈l.take t.toNat,0<=i/\i<n)/\(l.take t.toNat).Nodup/\∀k:Nat,(k:Int)<n->(s.getD k false=true↔(k:Int)∈l.take t.toNat)
def PI0 {l:Wf} {n:Int} (b:0<=n):PI l n 0 (List.replicate n.toNat false):=by
 refine⟨qH _,qD _,by rw[rG];omega,λi a=>(by cases a),g0e,λk _=>?_⟩;rw[qF,uW];constructor
 . intro h;split at h<;>cases h
 . intro h;cases h
def US {l:Wf} {t:Int} (a:0<=t) (b:t<(l.length:Int)):l.take (t+1).toNat=l.take t.toNat++ [gx 0 l t]:=by
 rw[(ω:(t+1).toNat=t.toNat+1),rU,J1 (d:=(0:Int)) a b];rfl
def B2f {l:Wf} {n t:Int} {s:List Bool} (h:PI l n t s) (b:t<(l.length:Int)) (hb:gx 0 l t<0\/n<=gx 0 l t\/s.getD (gx 0 l t).toNat false=true):¬G3 l n:=by
 rintro⟨_,f,g⟩;obtain⟨c,_,_,_,_,j⟩:=h;have i:=G7 (d:=(0:Int)) c b;obtain⟨k,o⟩:=f _ i;rcases hb with hb|hb|hb
 . omega
 . omega
 . have:=(j (gx 0 l t).toNat ω).1 hb;rw[(ω:(((gx 0 l t).toNat:Nat):Int)=gx 0 l t)]at this;have a:(l.take (t+1).toNat).Nodup:=g.take;rw[US c b,tW]at a;exact a.2.2 _ this _ (qY.2 rfl) rfl
def A5z {l:Wf} {n t:Int} {s:List Bool} (h:PI l n t s) (b:t<(l.length:Int)) (j:0<=gx 0 l t) (o:gx 0 l t<n) (A:s.getD (gx 0 l t).toNat false=false):PI l n (t+1) (s.set (gx 0 l t).toNat true):=by
 obtain⟨c,E,w,z,x,g⟩:=h;have y:gx 0 l t∉l.take t.toNat:=λhm=>by
  have:=(g (gx 0 l t).toNat ω).2 (by rw[(ω:(((gx 0 l t).toNat:Nat):Int)=gx 0 l t)];exact hm);rw[A]at this;cases this
 refine⟨ω,ω,by rw[qO];exact w,λi a=>?_,?_,λk v=>?_⟩
 . rw[US c b,rA,qY]at a;rcases a with a|rfl
   . exact z i a
   . exact⟨j,o⟩
 . rw[US c b,tW];refine⟨x,by simp,λB r D d u=>?_⟩;rw[qY]at d;subst d u;exact y r
 . rw[US c b,rA,qY, <-g k v];by_cases f:(gx 0 l t).toNat=k
   . rw[f,qF,sK ω];exact⟨λ_=> .inr ω,λ_=>rfl⟩
   . rw[qF,sX f, <-qF];exact⟨.inl,λh=>h.resolve_right ω⟩
def Nb:sn O6 Fv:=λx r i=>by
 obtain⟨(l:Wf),(n:Int),_⟩:=x;obtain⟨g,o⟩:0<=n/\n<=16384:=i;simp only[Fv,iB];refine⟨λh=>?_,λh=>⟨⟨g,qH _,ω,ω⟩,?_⟩⟩
 . have h:=qA h;exact(rB λa=>h a.1).symm
 . have h:=tJ.1 (qB h);refine⟨λp=>PI l n p.1 p.2.1,λp=>((l.length:Int)-p.1).toNat,PI0 g,?_⟩;rintro⟨(t:Int),(s:List Bool),_⟩ _ c;simp only at c|-;obtain⟨j,u,k,_⟩:=id c;refine⟨λb=>?_,λb=>?_⟩
   . have b:=qA b;rw[K8,K8];refine⟨⟨j,b⟩,λa=>?_,λa=>?_,λa=>?_⟩
     . simp only[rE,rO]at a;omega
     . simp only[uP,rQ]at a;exact(rB (B2f c b (by rcases a with(a|a) |a;exact .inl a;exact .inr (.inl a);exact .inr (.inr a)))).symm
     . simp only[rE,rO]at a;rw[wv ω];exact⟨ω,A5z c b ω ω a.2,ω⟩
   . have b:=qB b;obtain⟨_,_,_,d,f,_⟩:=c;rw[I5 ω]at d f;exact(rD ⟨h,d,f⟩).symm
def Nn:sn O8 Fx:=λx k g=>by
 obtain⟨(l:Wf),_⟩:=x;have j:l.length<=100000:=g;simp only[Fx,iB];refine⟨⟨qD _,qH _,ω,ω⟩,λp=>PI l (l.length:Int) p.1 p.2.1,λp=>((l.length:Int)-p.1).toNat,PI0 (qD _),?_⟩;rintro⟨(t:Int),(s:List Bool),_⟩ _ c;simp only at c|-;obtain⟨h,n,i,_⟩:=id c;refine⟨λb=>?_,λb=>?_⟩
 . have b:=qA b;rw[K8,K8];refine⟨⟨h,b⟩,λa=>?_,λa=>?_,λa=>?_⟩
   . simp only[rE,rO]at a;omega
   . simp only[uP,rQ]at a;exact(rB (B2f c b (by rcases a with(a|a) |a;exact .inl a;exact .inr (.inl a);exact .inr (.inr a)))).symm
   . simp only[rE,rO]at a;rw[wv ω];exact⟨ω,A5z c b ω ω a.2,ω⟩
 . have b:=qB b;obtain⟨_,_,_,d,f,_⟩:=c;rw[I5 ω]at d f;exact(rD ⟨rfl,d,f⟩).symm
def LR:sn Ei AP:=λx j u=>by
 obtain⟨k,l,d,_⟩:=x;obtain⟨o,i,g⟩:sz K1 k/\sz K1 l/\sz K1 d:=u;have t:=Gj j.2.1;have s:=Gj j.2.2.1;simp only[AP,iB,Dx,M0];refine⟨trivial,?_⟩;rintro⟨(r:Int),_⟩ _ b;simp only at b|-;refine⟨λh=>?_,λh=>⟨⟨K9 i δ,K9 g δ⟩,?_⟩⟩
 . have h:=qA h;rw[b,C2p]at h;exact⟨λ_=>by trivial,λa=>absurd h a⟩
 . have c:rv d≠0:=λc=>qB h (by rw[b,C2p];exact c)
   rintro⟨p,_⟩ _ f;simp only at f|-;subst f;refine⟨⟨K9 o δ,I0 (Ii (Hr t i δ) (Hr s g δ)) δ⟩,?_⟩;rintro⟨q,_⟩ _ a;simp only at a|-;refine⟨λn=>absurd n c,λ_=>?_⟩;rw[a,F6]
def mvE (p:Wf) (e:D5):D5:=(p.getD e.1.toNat 0,e.2)
def kW {p:Wf} (h:G3 p (p.length:Int)) {a i:Int} (b:0<=a) (f:a<(p.length:Int)) (g:0<=i) (j:i<(p.length:Int)):p.getD a.toNat 0=i↔a=((List.idxOf i p:Nat):Int):=by
 have b:a.toNat<p.length:=ω
 constructor
 . intro g;have l:i∈p:=g▸C9 b;have j:=yR l;have k:p[List.idxOf i p]=i:=g1o j;rw[J7 _ _ b, <-k]at g;have:=(yA h.2.2).1 g;omega
 . intro g;have l:i∈p:=by
    obtain⟨b,f,r⟩:=H7 (n:=p.length) (q:=λb=>(p.getD b 0).toNat) (λb f=>by have:=h.2.1 _ (C9 (d:=0) f);omega) (λb c f s o=>by
     have t:=h.2.1 _ (C9 (d:=0) f);have u:=h.2.1 _ (C9 (d:=0) s);have o:(p.getD b 0).toNat=(p.getD c 0).toNat:=o;have e:p.getD b 0=p.getD c 0:=ω
     rw[J7 _ _ f,J7 _ _ s]at e;exact(yA h.2.2).1 e) (ω:i.toNat<p.length)
    have t:=h.2.1 _ (C9 (d:=0) f);have r:(p.getD b 0).toNat=i.toNat:=r;rw[(ω:i=p.getD b 0)];exact C9 f
   have j:=yR l;have k:p[List.idxOf i p]=i:=g1o j;rw[g,qK,J7 _ _ j,k]
def A6p {p:Wf} (h:G3 p (p.length:Int)):∀ {c:List D5},(∀e∈c,0<=e.1/\e.1<(p.length:Int))->∀i,A6 (c.map (mvE p)) i=if 0<=i/\i<(p.length:Int)then A6 c ((List.idxOf i p:Nat):Int)else 0
 | [],_,i=>by split<;>rfl
 |e::c,a,i=>by
  obtain⟨f,g⟩:=a e (rL ..);have b:=A6p h (λx hx=>a x (qL _ hx)) i;rw[rZ,A6,A6,b];have k:=h.2.1 _ (C9 (d:=0) (ω:e.1.toNat<p.length));by_cases a:0<=i/\i<(p.length:Int)
  . rw[qJ a,qJ a];congr 1;show(if p.getD e.1.toNat 0=i then rv e.2 else 0)= _;by_cases b:p.getD e.1.toNat 0=i
    . rw[qJ b,qJ ((kW h f g a.1 a.2).1 b)]
    . rw[qG b,qG λj=>b ((kW h f g a.1 a.2).2 j)]
  . rw[qG a,qG a,rJ];exact qG λb=>a (by rw[<-b];exact k)
def BZ:sn Q4 Pp:=λx a7 V=>by
 obtain⟨(v:List D5),(p:Wf),_⟩:=x;have B:NE K1 v/\p.length<=100000:=V;obtain⟨B,W⟩:=B;simp only[Pp,iB,Nr,rT6];refine⟨W,?_⟩;rintro⟨(r:Bool),_⟩ _ E;simp only at E|-;refine⟨λn w=>?_,λn=>⟨.inl B,?_⟩⟩
 . rw[E,rD w]at n;cases n
 have w:G3 p (p.length:Int):=by
  refine qN λO=>?_
  rw[E,rB O]at n;cases n
 rintro⟨(c:List D5),_⟩ ⟨⟨y,_⟩,_⟩ b;simp only at b y|-;have y:c.length<=9223372036854775807:=y;refine⟨λq=>0<=q.1/\q.1<=(c.length:Int)/\q.2.1=(c.take q.1.toNat).map (mvE p)++c.drop q.1.toNat/\∀e∈c.take q.1.toNat,0<=e.1/\e.1<(p.length:Int),λq=>((c.length:Int)-q.1).toNat,⟨qH _,qD _,rfl,λe a=>(by cases a)⟩,?_⟩;rintro⟨(i:Int),(u:List D5),_⟩ _ ⟨N,Z,g,d⟩;simp only at N Z g d|-;refine⟨λk=>?_,λk=>?_⟩
 . have k:=qA k;have o:i.toNat<c.length:=ω
   have U:u.length=c.length:=by rw[g,rR,sU,qZ,sV];omega
   have J:((c.take i.toNat).map (mvE p)).length=i.toNat:=by rw[sU,qZ];omega
   have H:c.drop i.toNat=c.getD i.toNat E6::c.drop (i.toNat+1):=by rw[J7 _ _ o];exact xO o
   have T:u.getD i.toNat E6=c.getD i.toNat E6:=by
    rw[g,H,qF,tL ω,J,xS];rfl
   have F:c.getD i.toNat E6∈c:=C9 o;have G:0<=i/\i<(u.length:Int):=⟨N,by rw[U];exact k⟩;rw[T];refine⟨G,λh _ l=>?_,λh=>?_⟩
   . exfalso;rw[K8]at h;simp only[uP,rQ]at h;have:=l (c.getD i.toNat E6).1 (by rw[<-b.2,H6 b.1.1 F];exact(b.1.2 _ F).1);omega
   . rw[K8]at h;simp only[rE,rO]at h;have l:0<=(c.getD i.toNat E6).1/\(c.getD i.toNat E6).1<(p.length:Int):=⟨ω,ω⟩;rw[wv ω,J4 l.1 l.2];have I:c.take (i+1).toNat=c.take i.toNat++ [c.getD i.toNat E6]:=by
      rw[(ω:(i+1).toNat=i.toNat+1)];rw[rU,qQ o,J7 _ _ o];rfl
     refine⟨l,G,⟨ω,ω,?_,λe a=>?_⟩,ω⟩
     . rw[I,g,H,vG,vA,g3e _ _ ω,J,xS,(ω:(i+1).toNat=i.toNat+1)];rfl
     . rw[I]at a;rcases rA.1 a with a|a
       . exact d e a
       . rw[qY]at a;subst a;exact l
 . have k:=qB k;rw[I5 ω]at g d;rw[sJ ω,vS]at g;subst g;have R:F7 c (p.length:Int):=⟨b.1.1,λe a=>⟨(d e a).1,(d e a).2,(b.1.2 e a).1⟩⟩;refine⟨?_,λa0 _ D X _ _=>⟨⟨⟨?_,λe a=>?_⟩,λj=>?_⟩,by trivial⟩⟩
   . have:=V5 R;have M:∀z:Nat,z=c.length->z<=100000:=λz M=>ω
     exact M _ (sU ..)
   . have A:(a0.map λe:D5=>e.1).Nodup:=by
      rw[(D.map λe:D5=>e.1).nodup_iff,List.map_map];have f:(c.map λe:D5=>e.1).Nodup:=by
       unfold List.Nodup;rw[yT];exact b.1.1.imp λh=>ω
      unfold List.Nodup at f|-;rw[yT]at f|-;refine List.Pairwise.imp_of_mem (λ{s t} O Q P a=>P ?_) f;obtain⟨a2,a3⟩:=d s O;obtain⟨a4,a5⟩:=d t Q;have a:p.getD s.1.toNat 0=p.getD t.1.toNat 0:=a;rw[J7 _ _ ω,J7 _ _ ω]at a;have:=(yA w.2.2).1 a;omega
     unfold List.Nodup at A;rw[yT]at A;refine List.Pairwise.imp₂ ?_ X A;intro s t f a6;have:s.1<=t.1:=by
      unfold P6 at f;split at f
      . omega
      . split at f<;>omega
     omega
   . obtain⟨a1,Y,rfl⟩:=tU.1 (D.mem_iff.1 a);exact b.1.2 a1 Y
   . rw[WF D,A6p w d];simp only[b.2]
def Yo:An:= {loop:= [(8,⟨[2,6,36],[0,2],[(37,false,vI)],[],[]⟩)],plan:= [(10,[2,5,8,11],[],true, .done),(11,[10,21,22],[],true, .done)]}
abbrev B7p:=(Wf×Wf×MM×Int×Int×List (List EE))×Int×Unit
def Ju(x:B7p):Prop:=let q:=(1:Int);let j:=(0:Int);let g:Prop:=(j<=x.2.1/\x.2.1<=16384);let e:Prop:=(false=true↔H5 x.1 x.2.1);g/\Nr λr=>r.1=decide (G3 x.1.1 x.2.1)->((!r.1)=false->g)/\∀(v:R8),((!r.1)=false->(True/\True)/\v.1=decide (G3 x.1.2.1 x.2.1))->(iB ((G6 (!r.1) true !v.1)) (e) (True/\Nr λt=>t.1=decide (sqr x.1.2.2.1 x.2.1)->((!t.1)=false->True)/\∀(w:R8),((!t.1)=false->(True/\True)/\w.1=decide (sqr x.1.2.2.2 x.2.1))->(iB ((G6 (!t.1) true !w.1)) (e) (True/\M0 λr=>r.1=ri q->∃(I:E3->Prop),∃(a: _->Nat),I (j,())/\∀(p:E3),let m:=(i64.wrap (p.1+q),());let k:=(gx [] x.1.2.2.2.2.2 p.1);let h:=(gx [] x.1.2.2.1.2.2 p.1);let l:=(↑h.length:Int);let i:=(gx E6 h (i64.wrap (l-q)));let g:Prop:=((gx E6 k j).1≠p.1);let d:Prop:=((↑k.length:Int)=j);let c:Prop:=(j<=i64.wrap (l-q)/\i64.wrap (l-q)<l);let b:Prop:=(l=j);let n:=(decide b);let f:Prop:=(i.1≠p.1);let o:=(decide f);(Ty.int i64).wf p.1/\True->I p->(iB (decide (p.1<x.2.1)) ((j<=p.1/\p.1<(x.1.2.2.1.2.2.length:Int))/\(j<=p.1/\p.1<(x.1.2.2.2.2.2.length:Int))/\(decide b=false->c)/\(G6 n true o=false->c)/\(G6 n true o=false->G4 i.2/\G4 r.1)/\∀(u:E3),let s:=(decide (u.1≠j));(G6 n true o=false->(O0 u.1/\True)/\u.1=EK (rv i.2) (rv r.1))->(iB (G6 (G6 n true o) true s) (e) ((decide d=false->j<=j/\j<(↑k.length:Int))/\(iB (G6 (decide d) true (decide g)) (e) (I m/\a m<a p))))) ((true=true↔H5 x.1 x.2.1)))))))
def Ny:sn P4 Hj:=λx d _=>by
 obtain⟨(m:O1),(n:Int),_⟩:=x;simp only[Hj,J0];refine⟨λ_=>trivial,?_⟩;rintro⟨(r:Bool),_⟩ c;simp only at c|-;by_cases a:m.1=n
 . by_cases b:m.2.1=n
   . rw[(c (by rw[rD a,rD b];rfl)).2,rD a,rD b,xU,xU];exact wU.2 ⟨λh=>⟨a,b,h⟩,λh=>h.2.2⟩
   . rw[rB b,Bool.and_false,g1i];exact(rB λh=>b h.2.1).symm
 . rw[rB a,g1i,g1i];exact(rB λh=>a h.1).symm
def pT {v:List D5} (h:asc v) (g:v≠ []):gx E6 v ((v.length:Int)-1)∈v/\∀x∈v,x.1<=(gx E6 v ((v.length:Int)-1)).1:=by
 have n:0<v.length:=uJ.2 g;have a:=J1 (d:=E6) (l:=v) (i:=(v.length:Int)-1) ω ω;refine⟨G7 ω ω,λx j=>?_⟩;obtain⟨k,c,rfl⟩:=wF.1 j;rw[(ω:((v.length:Int)-1).toNat=v.length-1)]at a;have b:v[v.length-1]' ω=gx E6 v ((v.length:Int)-1):=by
  rw[qQ ω]at a;exact yI a
 rw[<-b];by_cases f:k=v.length-1
 . subst f;exact qH _
 . exact xE (tP.1 h k (v.length-1) c ω ω)
def A7l {v:List D5} {n:Int} (h:F7 v n) {i:Nat} (u:(i:Int)<n):(v≠ []/\(gx E6 v ((v.length:Int)-1)).1=(i:Int)/\rv (gx E6 v ((v.length:Int)-1)).2=1)↔(∀j:Nat,(j:Int)<n->i<j->A6 v (j:Int)=0)/\A6 v (i:Int)=1:=by
 constructor
 . rintro⟨c,f,a⟩;obtain⟨b,g⟩:=pT h.1 c;refine⟨λj _ w=>D1 λe d t=>?_,?_⟩
   . have:=g e d;omega
   . rw[<-f,H6 h.1 b,a]
 . rintro⟨f,a⟩;have c:v≠ []:=λe=>by subst e;rw[Rj]at a;exact absurd a δ
   obtain⟨b,g⟩:=pT h.1 c;obtain⟨x,l,z⟩:=CO (show A6 v (i:Int)≠0 from by rw[a];decide);have s:=g x l;obtain⟨o,r,k⟩:=h.2 _ b;have d:(gx E6 v ((v.length:Int)-1)).1=(i:Int):=by
    refine qN λy=>k ?_
    have:=f (gx E6 v ((v.length:Int)-1)).1.toNat ω ω;rw[(ω:(((gx E6 v ((v.length:Int)-1)).1.toNat:Nat):Int)=(gx E6 v ((v.length:Int)-1)).1),H6 h.1 b]at this;exact this
   refine⟨c,d,?_⟩;rw[<-H6 h.1 b,d,a]
def B7u {v:List D5} {n:Int} (h:F7 v n) {i:Nat} :(v≠ []/\(gx E6 v 0).1=(i:Int))↔(∀j:Nat,j<i->A6 v (j:Int)=0)/\A6 v (i:Int)≠0:=by
 cases v with
 |nil=>exact⟨λa=>absurd rfl a.1,λa=>absurd (Rj _) a.2⟩
 |cons e r=>
  have g:gx E6 (e::r) 0=e:=rfl;rw[g];have c:=(h.2 e rL);constructor
  . rintro⟨_,a⟩;exact⟨λj k=>UB h.1 ω,by rw[<-a,Bp h.1];exact c.2.2⟩
  . rintro⟨a,d⟩;refine⟨by simp,qN λf=>?_⟩;rcases g4j f with b|b
    . refine c.2.2 ?_;rw[<-Bp h.1];have:=a e.1.toNat ω;rwa[(ω:((e.1.toNat:Nat):Int)=e.1)]at this
    . exact d (UB h.1 b)
def A0r (L U:O1) (n:Int) (i:Nat):Prop:=(∀j:Nat,(j:Int)<n->i<j->el L i j=0)/\el L i i=1/\(∀j:Nat,j<i->el U i j=0)/\el U i i≠0
def B0d {P Q:Wf} {L U:O1} {n:Int} (d:G3 P n) (f:G3 Q n) (g:sqr L n) (k:sqr U n):H5 (P,Q,L,U) n↔∀i:Nat,(i:Int)<n->A0r L U n i:=by
 constructor
 . rintro⟨_,_,_,_,h⟩ i a;exact⟨λj b c=>(h i j a b).1 c,(h i i a a).2.1,λj b=>(h i j a ω).2.2.1 b,(h i i a a).2.2.2⟩
 . intro h;exact⟨d,f,g,k,λi j a b=>⟨λc=>(h i a).1 j b c,(h i a).2.1,λb=>(h i a).2.2.1 j b,(h i a).2.2.2⟩⟩
def UA {p q:Rat} :EK p q=0↔p=q:=by
 unfold EK;by_cases a:p<q
 . rw[qJ a];exact⟨λh=>ω,λh=>by subst h;exact absurd a (Rat.lt_irrefl)⟩
 . rw[qG a];by_cases b:q<p
   . rw[qJ b];exact⟨λh=>ω,λh=>by subst h;exact absurd b (Rat.lt_irrefl)⟩
   . rw[qG b];exact⟨λ_=>Rat.le_antisymm (Rat.not_lt.1 b) (Rat.not_lt.1 a),λ_=>rfl⟩
def OR {p:Prop} (h:¬p):(false=true↔p):=⟨λa=>(by cases a),λhp=>absurd hp h⟩
def Tn:sn T3 Ju:=λx ar a9=>by
 obtain⟨⟨P,Q,(L:O1),(U:O1)⟩,(n:Int),_⟩:=x;obtain⟨M,W,a7,am⟩:0<=n/\n<=16384/\J3 K1 L/\J3 K1 U:=a9;simp only[Ju,iB,M0,Nr,K8];refine⟨⟨M,W⟩,?_⟩;rintro⟨(af:Bool),_⟩ _ E;simp only at E|-;refine⟨λ_=>⟨M,W⟩,?_⟩;rintro⟨(ag:Bool),_⟩ l;simp only at l|-;by_cases y:G3 P n
 case neg=>
  rw[E,rB y];exact⟨λ_=>OR λh=>y h.1,λh=>by simp at h⟩
 have l:=(l (by rw[E,rD y];rfl)).2;by_cases H:G3 Q n
 case neg=>
  rw[l,rB H];exact⟨λ_=>OR λh=>H h.2.1,λh=>by simp at h⟩
 rw[E,l,rD y,rD H];refine⟨λh=>by simp at h,λ_=>⟨trivial,?_⟩⟩;rintro⟨(ah:Bool),_⟩ _ F;simp only at F|-;refine⟨λ_=>trivial,?_⟩;rintro⟨(ai:Bool),_⟩ o;simp only at o|-;by_cases k:sqr L n
 case neg=>
  rw[F,rB k];exact⟨λ_=>OR λh=>k h.2.2.1,λh=>by simp at h⟩
 have o:=(o (by rw[F,rD k];rfl)).2;by_cases z:sqr U n
 case neg=>
  rw[o,rB z];exact⟨λ_=>OR λh=>z h.2.2.2.1,λh=>by simp at h⟩
 rw[F,o,rD k,rD z];refine⟨λh=>by simp at h,λ_=>⟨trivial,?_⟩⟩;rintro⟨(one:C0),_⟩ _ N;simp only at N|-;have V:=B0d y H k z;obtain⟨ad,ae,Z⟩:=k;obtain⟨aj,ak,a1⟩:=z;have ao:(L.2.2.length:Int)=n:=Z.2.2.2.2.1.trans ad;have aq:(U.2.2.length:Int)=n:=a1.2.2.2.2.1.trans aj;have X:rv one=1:=by rw[N];exact LI 1
 have aa:G4 one:=by rw[N, <-lC];exact I0 (Mg δ) δ
 refine⟨λp=>0<=p.1/\p.1<=n/\∀i:Nat,(i:Int)<p.1->A0r L U n i,λp=>(n-p.1).toNat,⟨qH _,M,λi T=>ω⟩,?_⟩;rintro⟨(t:Int),_⟩ _ r;simp only at r|-;obtain⟨A,au,r⟩:=r;refine⟨λu=>?_,λu=>?_⟩
 . have u:=qA u;have Y:F7 (gx [] L.2.2 t) n:=by have:=Z.2.2.2.2.2 _ (G7 (d:= []) A (ω:t<(L.2.2.length:Int)));rwa[ae]at this
   have ac:F7 (gx [] U.2.2 t) n:=by have:=a1.2.2.2.2.2 _ (G7 (d:= []) A (ω:t<(U.2.2.length:Int)));rwa[ak]at this
   have ab:=a7 _ (G7 (d:= []) A (ω:t<(L.2.2.length:Int)));have R:((t.toNat:Nat):Int)=t:=ω
   have a0:=A7l Y (i:=t.toNat) ω;have a2:=B7u ac (i:=t.toNat);rw[R]at a0 a2;have G:A0r L U n t.toNat↔((∀j:Nat,(j:Int)<n->t.toNat<j->A6 (gx [] L.2.2 t) (j:Int)=0)/\A6 (gx [] L.2.2 t) t=1)/\(∀j:Nat,j<t.toNat->A6 (gx [] U.2.2 t) (j:Int)=0)/\A6 (gx [] U.2.2 t) t≠0:=by
    unfold A0r el;rw[R];exact(and_assoc (a:=∀j:Nat,(j:Int)<n->t.toNat<j->A6 (L.2.2.getD t.toNat []) (j:Int)=0)).symm
   rw[<-a0, <-a2]at G;have O:¬A0r L U n t.toNat->¬H5 (P,Q,L,U) n:=λh hh=>h (V.1 hh t.toNat ω)
   have f:∀ {v:List D5},((v.length:Int)=0)↔v= []:=λ{v} =>⟨λh=>qT ω,λh=>by rw[h];rfl⟩
   have an:=V5 Y;have w:(gx [] L.2.2 t)≠ []->i64.wrap (((gx [] L.2.2 t).length:Int)-1)=((gx [] L.2.2 t).length:Int)-1:=λh=>by
    have:=uJ.2 h;exact wv ω
   refine⟨⟨A,ω⟩,⟨A,ω⟩,λh=>?_,λh=>?_,λh=>?_,?_⟩
   . have h:=mt f.2 (qB h);have:=uJ.2 h;rw[w h];omega
   . simp only[rE]at h;have h:=mt f.2 (qB h.1);have:=uJ.2 h;rw[w h];omega
   . simp only[rE]at h;have h:=mt f.2 (qB h.1);have ap:=uJ.2 h;rw[w h];exact⟨K9 (ab _ (G7 ω ω)) δ,aa⟩
   rintro⟨(c:Int),_⟩ b;simp only at b|-;refine⟨λh=>OR (O λs=>?_),λh=>⟨λg=>⟨qH _,?_⟩,λg=>OR (O λs=>?_),λg=>?_⟩⟩
   . obtain⟨⟨D,J,a6⟩,_⟩:=G.1 s;rw[w D]at b h;have B:decide (((gx [] L.2.2 t).length:Int)=0)=false:=rB (mt f.1 D);have I:decide ((gx E6 (gx [] L.2.2 t) (((gx [] L.2.2 t).length:Int)-1)).1≠t)=false:=rB (by rw[tJ];exact J);rw[B,I]at b h;have b:=(b rfl).2;rw[X,a6]at b;rw[b,UA.2 rfl]at h;simp at h
   . have:=mt f.2 (qB g);have:=uJ.2 this;omega
   . obtain⟨_,D,J⟩:=G.1 s;rw[rB (mt f.1 D),rB (by rw[tJ];exact J)]at g;simp at g
   . simp only[rE]at h g;have B:=mt f.2 (qB h.1.1);rw[w B]at b h;have I:=tJ.1 (qB h.1.2);have a3:=tJ.1 (qB h.2);have b:=(b (by rw[h.1.1,h.1.2];rfl)).2;rw[a3,X]at b;have a4:=mt f.2 (qB g.1);have a5:=tJ.1 (qB g.2);have s:=G.2 ⟨⟨B,I,UA.1 b.symm⟩,a4,a5⟩;rw[wv ω];refine⟨⟨ω,ω,λi T=>?_⟩,ω⟩;by_cases a8:i=t.toNat
     . subst a8;exact s
     . exact r i ω
 . have u:=qB u;exact⟨λ_=>V.2 λi T=>r i ω,λ_=>trivial⟩
noncomputable def EU:H0:= [(72,Bw)]
def DZ:An:= {loop:= [(3,⟨[1,3,24],[0,1,2,3,4,5,6,7,8,9,10,13],[(25,false,vI)],[],[(11, .nest qe 112 4),(12, .row qb 3)]⟩),(13,⟨[3,5,44,45,46,59,60],[0,1,2,3,4,5,6,7,9,10,12,13],[(61,false,vI)],[],[(11, .nest qe 112 4)]⟩),(9,⟨[3,44,45],[0,1,2,3,4,5,6,7,10,12,13],[(46,false,vI)],[],[(9, .row qf 61),(11, .nest qe 112 4)]⟩)],plan:= [(1,[1,4,7,10],[],true,(.p 0 (.q 1 (.p 3 (.q 4 (.p 6 (.q 7 (.p 9 (.q 10 (.al [2,5,8,11] [12] (.e 13 (.p 14 .done)))))))))))),(11,[3],[8],true, .done),(15,[3,5],[9],false, .done)]}
noncomputable def Vn:H0:= []
def Ua:An:= {plan:= [(1,[0,3,4,7,10],[],false,(.q 0 (.p 1 (.p 2 (.q 3 (.q 4 (.p 5 (.p 6 (.q 7 (.p 8 (.p 9 (.q 10 (.p 11 (.e 12 (.e 13 (.p 14 .done))))))))))))))))]}
noncomputable def Vo:H0:= []
def Ub:An:= {plan:= [(1,[0,3,4,7,10],[],false,(.q 0 (.p 1 (.p 2 (.q 3 (.q 4 (.p 5 (.p 6 (.q 7 (.p 8 (.p 9 (.q 10 (.p 11 (.e 12 (.e 13 (.p 14 .done))))))))))))))))]}
noncomputable def Vp:H0:= []
def Uc:An:= {plan:= [(1,[0,3,4,7,10],[],false,(.q 0 (.p 1 (.p 2 (.q 3 (.q 4 (.p 5 (.p 6 (.q 7 (.p 8 (.p 9 (.q 10 (.p 11 (.e 12 (.e 13 (.p 14 .done))))))))))))))))]}
noncomputable def Vq:H0:= []
def Ud:An:= {plan:= [(1,[0,3,4,7,10],[],false,(.q 0 (.p 1 (.p 2 (.q 3 (.q 4 (.p 5 (.p 6 (.q 7 (.p 8 (.p 9 (.q 10 (.p 11 (.e 12 (.e 13 (.p 14 .done))))))))))))))))]}
noncomputable def EV:H0:= [(73,Dm (Wh ⟨prog,TP⟩ [(20,Vn,Ua),(23,Vo,Ub),(28,Vp,Uc),(33,Vq,Ud)] f73.results.toList (f73.body.getD .skip) f73.ntmps))]
def EA:An:= {join:= [(8,⟨[1,6,14,15],[1,2,3,4,5,6,7,9,10,13,14,15],[(5,false,vI)],[],[(11, .nest qe 112 4)]⟩),(10,⟨[1,6],[1,2,3,4,5,6,7,9,10,13,14,15],[(5,false,vI)],[],[(11, .nest qe 112 4)]⟩),(14,⟨[1,3],[1,2,3,4,5,6,7,15],[],[(13,73,[.fix 9, .fix 10, .fix 11, .own qb 3])],[(9, .row qf 61),(10, .nest qf 61 75),(11, .nest qe 112 4)]⟩),(20,⟨[3],[1,2,3,4,5,6,7,9,10,13,17],[(2,false,vI)],[],[(11, .nest qe 112 4)]⟩)],loop:= [(4,⟨[1,6,14],[1,2,3,4,5,6,7,9,10,13,14,15],[(5,false,vI),(15,false,vI)],[],[(11, .nest qe 112 4)]⟩),(16,⟨[1,3,66],[1,2,3,4,5,6,7,9,10,11,13,15,17],[(2,false,vI)],[],[(19, .itM false qb false .bool 18)]⟩)],plan:= [(13,[1,4,7,10],[14,17],false, .done),(18,[3,6,9,11,14,17,22,25,28,30,33,36],[],true, .done)],bump:=18}
noncomputable def Vr:H0:= []
def Ue:An:= {loop:= [(1,⟨[0,2,6,7],[1,2,3,4,5,6,7,9,10,13,15,16,17],[(8,false,vI)],[],[(11, .nest qe 112 4)]⟩)],plan:= [(3,[0,3,5],[9],false, .done)]}
noncomputable def Te:H0:= []
def Ra:An:= {loop:= [(1,⟨[0,2,6,7],[1,2,3,4,5,6,7,9,10,13,15,16,17,18,19],[(8,false,vI)],[],[(11, .nest qe 112 4)]⟩)],plan:= [(3,[0,3,5],[9],false, .done)]}
noncomputable def EW:H0:= [(75,Ad),(76,Ds),(77,Ae),(78,N3),(79,V2),(74,Dm (Wh ⟨prog,TP⟩ [(29,Vr,Ue),(107,Te,Ra)] f74.results.toList (f74.body.getD .skip) f74.ntmps))]
def EB:An:= {join:= [(10,⟨[1,3,4,8,9,10],[1,2,3,4,5,6,7,9,10,13,15,16,17,18],[(12,false,[.own qb 3])],[],[(11, .nest qe 112 4)]⟩),(14,⟨[1,3,4,8,9,10,15,53,54,55],[1,2,3,4,5,6,7,9,10,11,13,15,16,17,18,19],[(16,false,[.fixB 20])],[(20,46,[.val .bool, .val qa, .val qa])],[]⟩),(15,⟨[1,3,4,8,9,10,15,16,53,54,55],[1,2,3,4,5,6,7,9,11,13,15,16,17,18,19,20],[],[],[(10, .nest qf 61 75)]⟩)],loop:= [(7,⟨[1,3,4,8,9,10,44],[1,2,3,4,5,6,7,9,10,11,13,15,16,17,18],[(12,false,[.own qb 3])],[],[(20, .itM false qb false .bool 19)]⟩),(18,⟨[1,3,4,8,9,10,15,53,54,55,114,115],[1,2,3,4,5,6,7,9,10,13,15,16,17,18,19],[(116,false,vI)],[],[(11, .nest qe 112 4)]⟩),(11,⟨[1,3,4,8,9,10,53,54],[1,2,3,4,5,6,7,13,15,16,17,18,19],[(55,false,vI)],[],[(9, .row qf 61),(10, .nest qf 61 75),(11, .nest qe 112 4)]⟩)],plan:= [(13,[0,3,6,9],[12],true, .done),(14,[5,8,13],[16,18],false, .done),(15,[0,3,5,8,11,12,14],[17],true, .done),(20,[0,3,5],[9],false, .done)]}
def Qz:An:= {join:= [(13,⟨[2,5,6,7,8,45,46],[1,2,3,4,5,6,7],[(9,false,vI),(10,false,vI),(11,false,[.val .bool])],[(13,73,[.fix 9, .fix 10, .fix 11, .own qb 3])],[(9, .row qf 61),(10, .nest qf 61 75),(11, .nest qe 112 4)]⟩),(16,⟨[2,5,6,7,8,9,10,45,46],[1,4,5,6,9,10,11,13,15],[],[],[(2, .row qb 3),(3, .row qb 3),(7, .row qb 3)]⟩),(22,⟨[2,5,6,7,12,13,79,80,81],[1,2,3,5,6,9,11,13,14],[],[],[(4, .row qf 61),(10, .nest qf 61 75)]⟩)],loop:= [(10,⟨[2,5,6,7,45],[1,4,5,6],[(46,false,vI)],[(13,73,[.fix 9, .fix 10, .fix 11, .own qb 3])],[(2, .row qb 3),(3, .row qb 3),(7, .row qb 3),(9, .row qf 61),(10, .nest qf 61 75),(11, .nest qe 112 4)]⟩),(19,⟨[2,5,7,79,80],[1,2,3,6,9,11,13,14],[(6,false,[.val qi]),(81,false,vI)],[],[(4, .row qf 61),(5, .row qf 61),(10, .nest qf 61 75)]⟩)],plan:= [(6,[],[16],true,(.p 0 (.p 2 (pZ9 4 3 (pZ9 9 3 (.al [1,3,7,12,15] [8,13,14] (.e 16 .done))))))),(15,[1],[12,14,16],false, .done),(21,[7],[15,17],false, .done),(22,[2,7,10],[17],true, .done)]}
noncomputable def Td:H0:= [(30,R3),(34,Q3),(35,Q4),(31,Dm (Wh ⟨prog,TP⟩ [(44,EU,DZ)] f31.results.toList (f31.body.getD .skip) f31.ntmps)),(32,Dm (Wh ⟨prog,TP⟩ [(51,EV,EA)] f32.results.toList (f32.body.getD .skip) f32.ntmps)),(33,Dm (Wh ⟨prog,TP⟩ [(76,EW,EB)] f33.results.toList (f33.body.getD .skip) f33.ntmps))]
abbrev C7i:=(List (List EE)×List Nat)×Unit
abbrev C7q:=Int×(List (Int×Bool)×List (Int×Bool))×Unit
abbrev C7r:=Int×(List (List (Int×Bool))×List Nat)×Wf×Unit
abbrev LP:=Int×(List (List (Int×Bool))×List Nat)×Unit
abbrev C7s:=Int×Int×(List (List (Int×Bool))×List Nat)×Unit
abbrev C7t:=Int×Int×Bool×Wf×List (List EE)×(List (List EE)×List Nat)×(List (List (Int×Bool))×List Nat)×Unit
abbrev C7x:=Int×List (List EE)×(List (List (Int×Bool))×List Nat)×Unit
abbrev C7y:=Int×List (List EE)×(List (List EE)×List Nat)×(List (List (Int×Bool))×List Nat)×Unit
abbrev C7z:=Int×Wf×Wf×Wf×Wf×List (List EE)×(List (List EE)×List Nat)×(List (List (Int×Bool))×List Nat)×Unit
abbrev C8a:=List (List EE)×(List (List EE)×List Nat)×Unit
abbrev C8e:=Wf×(List (Int×Bool)×List (Int×Bool))×Unit
abbrev C8f:=Wf×(List (List (Int×Bool))×List Nat)×Unit
abbrev C8l:=Wf×Int×List (List EE)×List (List EE)×(List (List EE)×List Nat)×Unit
abbrev C8p:=Wf×List (List EE)×(List (List EE)×List Nat)×(List (List (Int×Bool))×List Nat)×Unit
abbrev C8q:=Wf×Wf×Wf×Unit
def Ix(x:S4):Prop:=let b9:=(281474976710656:Int);let bd:=x.1.2.1.toNat;let ac:=(6:Int);let ab:=(4:Int);let b5:=(9223372036854775807:Int);let aj:=(140737488355328:Nat);let ad:=x.1.1.toNat;let g:=(1:Int);let U:=(0:Int);let bw:Prop:=(U<=x.1.2.1/\x.1.2.1<=x.1.2.1/\(↑(8:Nat):Int)*x.1.2.1<=b9/\x.1.2.1<=b5);let ai:Prop:=(∀(v:List EE),v∈ []->U5 v);let o:(Nat)->(Nat)->Prop:=(λi j=>i<x.1.1.toNat->j<x.1.1.toNat->Qw ([],[],(U,U,[]),U,U,[]) x.1.1.toNat i j=el x.1 (ix [] i) (ix [] j));let m:Prop:=(U<=x.1.1/\x.1.1<=x.1.1/\(↑(8:Nat):Int)*x.1.1<=b9/\x.1.1<=b5);let bc:Prop:=(∀(T:Nat),(1:Nat)<=T->Hl x.1.1.toNat x.1.1.toNat (el x.1) T->∀(i j:Nat),i<x.1.1.toNat->qs (T+T) (el (U,U,[]) i j)/\qs (T+T) (el (U,U,[]) i j));let e:Prop:=(U<=x.1.1/\x.1.1<=x.1.1/\(↑(24:Nat):Int)*x.1.1<=b9/\x.1.1<=b5);True/\∀(r:R8),True/\True->r.1=decide (A8 x.1)->((!r.1)=true->(¬A8 x.1->([],[],(U,U,[]),U,U,[])=UX/\g=g)/\(A8 x.1->(x.1.1≠x.1.2.1->([],[],(U,U,[]),U,U,[])=UX/\g=ab)/\(x.1.1=x.1.2.1->(¬nonsing x.1.1.toNat (el x.1)->([],[],(U,U,[]),U,U,[])=UX/\g=ac)/\(nonsing x.1.1.toNat (el x.1)->H5 ([],[],(U,U,[]),U,U,[]) x.1.1/\g=U/\ai/\ai/\bc/\∀(i j:Nat),o i j))))/\((!r.1)=false->(decide (x.1.1≠x.1.2.1)=true->(¬A8 x.1->([],[],(U,U,[]),U,U,[])=UX/\ab=g)/\(A8 x.1->(x.1.1≠x.1.2.1->([],[],(U,U,[]),U,U,[])=UX/\ab=ab)/\(x.1.1=x.1.2.1->(¬nonsing x.1.1.toNat (el x.1)->([],[],(U,U,[]),U,U,[])=UX/\ab=ac)/\(nonsing x.1.1.toNat (el x.1)->H5 ([],[],(U,U,[]),U,U,[]) x.1.1/\ab=U/\ai/\ai/\bc/\∀(i j:Nat),o i j))))/\(decide (x.1.1≠x.1.2.1)=false->m/\m/\e/\e/\m/\e/\e/\bw/\bw/\∃(I:C7r->Prop),∃(u: _->Nat),I (U,(List.replicate bd [],Qd (Ty.mp false (Ty.int i64) false Ty.bool) bd),List.replicate bd U,())/\∀(p:C7r),let ah:=p.1.toNat;(Ty.int i64).wf p.1/\p.2.1.1.length.le 9223372036854775807/\bO p.2.2.1/\True->I p->(decide (p.1<x.1.2.1)=true->(U<=p.1/\p.1<(↑p.2.1.1.length:Int))/\(U<=p.1/\p.1<(p.2.2.1.length:Int))/\I (i64.wrap (p.1+g),(p.2.1.1.set ah [],PQ ah p.2.1.2),List.set p.2.2.1 ah p.1,())/\u (i64.wrap (p.1+g),(p.2.1.1.set ah [],PQ ah p.2.1.2),List.set p.2.2.1 ah p.1,())<u p)/\(decide (p.1<x.1.2.1)=false->∃(I:C7x->Prop),∃(u: _->Nat),I (U,List.replicate ad [],p.2.1,())/\∀(w:C7x),let aw:=(gx [] x.1.2.2 w.1);let K:Prop:=(w.1<(x.1.2.2.length:Int));(Ty.int i64).wf w.1/\DY w.2.1/\w.2.2.1.1.length.le 9223372036854775807/\True->I w->(decide K=true->(U<=w.1/\K)/\Lx aw/\∀(r:Qk),DX r.1/\True->OG (A6 aw) r.1->(U<=w.1/\w.1<(w.2.1.length:Int))/\∃(I_1:LP->Prop),∃(an: _->Nat),I_1 (U,w.2.2.1,())/\∀(p:LP),let bm:=(i64.wrap (w.1+g),List.set w.2.1 w.1.toNat r.1,p.2.1,());let ar:=(gx E6 aw p.1);let ap:=ar.1.toNat;let G:Prop:=(p.1<(↑aw.length:Int));(Ty.int i64).wf p.1/\p.2.1.1.length.le 9223372036854775807/\True->I_1 p->(decide G=true->(U<=p.1/\G)/\(U<=ar.1/\ar.1<(↑p.2.1.1.length:Int))/\¬Int.toNat ar.1∈p.2.1.2/\I_1 (i64.wrap (p.1+g),(p.2.1.1.set ap (Ga (Ty.int i64) w.1 true (p.2.1.1.getD ap [])),p.2.1.2),())/\an (i64.wrap (p.1+g),(p.2.1.1.set ap (Ga (Ty.int i64) w.1 true (p.2.1.1.getD ap [])),p.2.1.2),())<an p)/\(decide G=false->I bm/\u bm<u w))/\(decide K=false->∃(I:C7z->Prop),∃(u: _->Nat),I (U,p.2.2.1,List.replicate ad U,List.replicate ad U,List.replicate ad U,w.2.1,(List.replicate ad [],Qd tE.sl ad),w.2.2.1,())/\∀(b:C7z),let bp:=(b.2.2.1.length:Int);let a5:=(↑b.2.1.length:Int);(Ty.int i64).wf b.1/\(Ty.int i64).sl.wf b.2.1/\bO b.2.2.1/\bO b.2.2.2.1/\bO b.2.2.2.2.1/\DY b.2.2.2.2.2.1/\b.2.2.2.2.2.2.1.1.length.le 9223372036854775807/\b.2.2.2.2.2.2.2.1.1.length.le 9223372036854775807/\True->I b->(decide (b.1<x.1.1)=true->∃(J:C7t->Prop),(∃(J_1:LP->Prop),(∃(I:C7s->Prop),∃(u: _->Nat),I (U,U,b.2.2.2.2.2.2.2.1,())/\∀(a:C7s),let bs:=(↑a.2.2.1.1.length:Int);let a9:=a.1.toNat;let a1:=a.2.1.toNat;let M:Prop:=(a.2.1<a5);let k:Prop:=((↑(a.2.2.1.1.getD (b.2.1.getD a1 U).toNat []).length:Int)<(↑((a.2.2.1.1.set (b.2.1.getD a1 U).toNat (a.2.2.1.1.getD (b.2.1.getD a1 U).toNat [])).getD (b.2.1.getD a9 U).toNat []).length:Int));(Ty.int i64).wf a.1/\(Ty.int i64).wf a.2.1/\a.2.2.1.1.length.le 9223372036854775807/\True->I a->(decide M=true->∃(J:LP->Prop),((U<=a.2.1/\M)/\(U<=b.2.1.getD a1 U/\b.2.1.getD a1 U<bs)/\¬(b.2.1.getD a1 U).toNat∈a.2.2.1.2/\(a.2.2.1.1.getD (b.2.1.getD a1 U).toNat []).length<=9223372036854775807/\(U<=a.1/\a.1<a5)/\(U<=b.2.1.getD a9 U/\b.2.1.getD a9 U<bs)/\¬(b.2.1.getD a9 U).toNat∈a.2.2.1.2/\((a.2.2.1.1.set (b.2.1.getD a1 U).toNat (a.2.2.1.1.getD (b.2.1.getD a1 U).toNat [])).getD (b.2.1.getD a9 U).toNat []).length<=9223372036854775807/\(decide k=true->J (a.2.1,((a.2.2.1.1.set (b.2.1.getD a1 U).toNat (a.2.2.1.1.getD (b.2.1.getD a1 U).toNat [])).set (b.2.1.getD a9 U).toNat ((a.2.2.1.1.set (b.2.1.getD a1 U).toNat (a.2.2.1.1.getD (b.2.1.getD a1 U).toNat [])).getD (b.2.1.getD a9 U).toNat []),a.2.2.1.2),()))/\(decide k=false->J (a.1,((a.2.2.1.1.set (b.2.1.getD a1 U).toNat (a.2.2.1.1.getD (b.2.1.getD a1 U).toNat [])).set (b.2.1.getD a9 U).toNat ((a.2.2.1.1.set (b.2.1.getD a1 U).toNat (a.2.2.1.1.getD (b.2.1.getD a1 U).toNat [])).getD (b.2.1.getD a9 U).toNat []),a.2.2.1.2),())))/\∀(d:LP),let a6:=d.1.toNat;let E:Prop:=((↑(d.2.1.1.getD (b.2.1.getD a6 U).toNat []).length:Int)<=g);(Ty.int i64).wf d.1/\d.2.1.1.length.le 9223372036854775807/\True->J d->(U<=d.1/\d.1<a5)/\(U<=b.2.1.getD a6 U/\b.2.1.getD a6 U<(↑d.2.1.1.length:Int))/\¬(b.2.1.getD a6 U).toNat∈d.2.1.2/\(d.2.1.1.getD (b.2.1.getD a6 U).toNat []).length<=9223372036854775807/\(decide E=true->J_1 (d.1,(d.2.1.1.set (b.2.1.getD a6 U).toNat (d.2.1.1.getD (b.2.1.getD a6 U).toNat []),d.2.1.2),()))/\(decide E=false->I (d.1,i64.wrap (a.2.1+g),(d.2.1.1.set (b.2.1.getD a6 U).toNat (d.2.1.1.getD (b.2.1.getD a6 U).toNat []),d.2.1.2),())/\u (d.1,i64.wrap (a.2.1+g),(d.2.1.1.set (b.2.1.getD a6 U).toNat (d.2.1.1.getD (b.2.1.getD a6 U).toNat []),d.2.1.2),())<u a))/\(decide M=false->J_1 (a.1,a.2.2.1,())))/\∀(a:LP),let b3:=(i64.wrap (a.1+g));let y:=a.1.toNat;let R:Prop:=(U<=a.1/\a.1<a5);let F:Prop:=((↑(a.2.1.1.getD (b.2.1.getD y U).toNat []).length:Int)=U);(Ty.int i64).wf a.1/\a.2.1.1.length.le 9223372036854775807/\True->J_1 a->R/\(U<=b.2.1.getD y U/\b.2.1.getD y U<(↑a.2.1.1.length:Int))/\¬(b.2.1.getD y U).toNat∈a.2.1.2/\(a.2.1.1.getD (b.2.1.getD y U).toNat []).length<=9223372036854775807/\(decide F=true->J (U,U,false,b.2.1,b.2.2.2.2.2.1,b.2.2.2.2.2.2.1,(a.2.1.1.set (b.2.1.getD y U).toNat (a.2.1.1.getD (b.2.1.getD y U).toNat []),a.2.1.2),()))/\(decide F=false->R/\∃(J_2:C8p->Prop),let c:Prop:=(((Int.toNat a.1+(List.drop b3.toNat (List.take a5.toNat b.2.1)).length)*(8:Nat)<=aj/\Int.toNat a.1+(List.drop b3.toNat (List.take a5.toNat b.2.1)).length<=9223372036854775807)/\J_2 (List.take y b.2.1++List.drop b3.toNat (List.take a5.toNat b.2.1),b.2.2.2.2.2.1,b.2.2.2.2.2.2.1,(a.2.1.1.set (b.2.1.getD y U).toNat (a.2.1.1.getD (b.2.1.getD y U).toNat []),a.2.1.2),()));((U<=U/\U<=a.1/\a.1<=a5)/\(U<=i64.wrap (a.1+g)/\i64.wrap (a.1+g)<=a5/\a5<=a5)/\c/\c)/\∀(d:C8p),let bt:=(d.2.1.length:Int);(Ty.int i64).sl.wf d.1/\DY d.2.1/\d.2.2.1.1.length.le 9223372036854775807/\d.2.2.2.1.1.length.le 9223372036854775807/\True->J_2 d->∃(J_3:LP->Prop),((U<=b.2.1.getD y U/\b.2.1.getD y U<(↑d.2.2.2.1.1.length:Int))/\¬(b.2.1.getD y U).toNat∈d.2.2.2.1.2/\∃(I:C7q->Prop),∃(u: _->Nat),I ((-1:Int),(d.2.2.2.1.1.getD (b.2.1.getD y U).toNat [],d.2.2.2.1.1.getD (b.2.1.getD y U).toNat []),())/\∀(f:C7q),let ao:=(decide (f.1<U));let bh:=(↑(List.getD d.2.1 f.1.toNat []).length:Int);let O:Prop:=(U<=f.1/\f.1<bt);(Ty.int i64).wf f.1/\(∀(x:Int×Bool),x∈f.2.1.2->O0 x.1/\True)/\True->I f->(f.2.1.2= []->(false=true->False)/\(false=false->J_3 (f.1,(d.2.2.2.1.1.set (b.2.1.getD y U).toNat f.2.1.1,d.2.2.2.1.2),())))/\∀(ak:List (Int×Bool)) (a4:Int×Bool) (am:List (Int×Bool)),let bi:=(↑(List.getD d.2.1 a4.1.toNat []).length:Int);let ax:=(f.2.1.1,ak++am);let Q:Prop:=(U<=a4.1/\a4.1<bt);let D:Prop:=(bi=bh);let bn:=(G6 (decide D) (decide (a4.1<f.1)) false);let bz:Prop:=(bi<bh);let b1:=(decide bz);f.2.1.2=ak++a4::am->(true=true->(decide (f.1<U)=false->Q)/\(decide (f.1<U)=false->O)/\(G6 ao true b1=false->Q)/\(G6 ao true b1=false->O)/\(G6 (G6 ao true b1) true bn=true->I (a4.1,ax,())/\u (a4.1,ax,())<u f)/\(G6 (G6 ao true b1) true bn=false->I (f.1,ax,())/\u (f.1,ax,())<u f))/\(true=false->J_3 (f.1,(d.2.2.2.1.1,(b.2.1.getD y U).toNat::d.2.2.2.1.2),())))/\∀(p:LP),(Ty.int i64).wf p.1/\p.2.1.1.length.le 9223372036854775807/\True->J_3 p->J (p.1,b.2.1.getD y U,true,d.1,d.2.1,d.2.2.1,p.2.1,())))/\∀(a:C7t),let ay:=a.2.1.toNat;let V:=(List.getD a.2.2.2.2.1 a.1.toNat []);(Ty.int i64).wf a.1/\(Ty.int i64).wf a.2.1/\Ty.bool.wf a.2.2.1/\(Ty.int i64).sl.wf a.2.2.2.1/\DY a.2.2.2.2.1/\a.2.2.2.2.2.1.1.length.le 9223372036854775807/\a.2.2.2.2.2.2.1.1.length.le 9223372036854775807/\True->J a->((!a.2.2.1)=true->(¬A8 x.1->([],[],(U,U,[]),U,U,[])=UX/\ac=g)/\(A8 x.1->(x.1.1≠x.1.2.1->([],[],(U,U,[]),U,U,[])=UX/\ac=ab)/\(x.1.1=x.1.2.1->(¬nonsing x.1.1.toNat (el x.1)->([],[],(U,U,[]),U,U,[])=UX/\ac=ac)/\(nonsing x.1.1.toNat (el x.1)->H5 ([],[],(U,U,[]),U,U,[]) x.1.1/\ac=U/\ai/\ai/\bc/\∀(i j:Nat),o i j))))/\((!a.2.2.1)=false->∃(J:C8q->Prop),let bv:Prop:=((U<=b.1/\b.1<(b.2.2.2.1.length:Int))/\(U<=a.2.1/\a.2.1<(b.2.2.2.2.1.length:Int))/\J (List.set b.2.2.1 b.1.toNat a.1,List.set b.2.2.2.1 b.1.toNat a.2.1,List.set b.2.2.2.2.1 ay b.1,()));((U<=b.1/\b.1<bp)/\bv/\bv)/\∀(d:C8q),bO d.1/\bO d.2.1/\bO d.2.2.1/\True->J d->(U<=a.1/\a.1<(a.2.2.2.2.1.length:Int))/\∃(I_1:LP->Prop),∃(an: _->Nat),I_1 (U,a.2.2.2.2.2.2.1,())/\∀(f:LP),let bu:=(↑f.2.1.1.length:Int);let av:=(gx E6 V f.1);let aq:=av.1.toNat;let B:Prop:=(f.1<(↑V.length:Int));(Ty.int i64).wf f.1/\f.2.1.1.length.le 9223372036854775807/\True->I_1 f->(decide B=true->(U<=f.1/\B)/\(U<=av.1/\av.1<bu)/\¬Int.toNat av.1∈f.2.1.2/\I_1 (i64.wrap (f.1+g),(f.2.1.1.set aq (Qb (Ty.int i64) a.1 (f.2.1.1.getD aq [])),f.2.1.2),())/\an (i64.wrap (f.1+g),(f.2.1.1.set aq (Qb (Ty.int i64) a.1 (f.2.1.1.getD aq [])),f.2.1.2),())<an f)/\(decide B=false->NE K1 V/\∀(a7:D4),IU a7.1/\True->a7.1=rc (A6 V a.2.1)->G4 a7.1/\∀(af:Wm),IU af.1/\True/\True->(rv a7.1=(0:Rat)->af.2.1=false)/\(rv a7.1≠(0:Rat)->af.1=rc (rv a7.1)⁻¹/\af.2.1=true)->∃(J:C8f->Prop),((U<=a.2.1/\a.2.1<bu)/\¬Int.toNat a.2.1∈f.2.1.2/\∃(I:C8e->Prop),∃(u: _->Nat),I ([],(f.2.1.1.getD ay [],f.2.1.1.getD ay []),())/\∀(p:C8e),(Ty.int i64).sl.wf p.1/\(∀(x:Int×Bool),x∈p.2.1.2->O0 x.1/\True)/\True->I p->(p.2.1.2= []->(false=true->False)/\(false=false->J (p.1,(f.2.1.1.set ay p.2.1.1,f.2.1.2),())))/\∀(ak:List (Int×Bool)) (a4:Int×Bool) (am:List (Int×Bool)),let bo:=(p.1++ [a4.1],(p.2.1.1,ak++am),());p.2.1.2=ak++a4::am->(true=true->((p.1.length+ [a4.1].length)*(8:Nat)<=aj/\p.1.length+ [a4.1].length<=9223372036854775807)/\I bo/\u bo<u p)/\(true=false->J (p.1,(f.2.1.1,Int.toNat a.2.1::f.2.1.2),())))/\∀(h:C8f),(Ty.int i64).sl.wf h.1/\h.2.1.1.length.le 9223372036854775807/\True->J h->∃(I_2:C7y->Prop),∃(bx: _->Nat),I_2 (U,a.2.2.2.2.1,a.2.2.2.2.2.1,h.2.1,())/\∀(l:C7y),let bk:=(i64.wrap (b.1+g),a.2.2.2.1,d.1,d.2.1,d.2.2.1,l.2.1,l.2.2.1,l.2.2.2.1,());let Y:=l.1.toNat;let ag:=(List.getD l.2.1 (h.1.getD Y U).toNat []);let P:Prop:=(l.1<(↑h.1.length:Int));let C:Prop:=(U<=h.1.getD Y U/\h.1.getD Y U<(↑l.2.2.1.1.length:Int));let q:Prop:=(U<=h.1.getD Y U/\h.1.getD Y U<(l.2.1.length:Int));(Ty.int i64).wf l.1/\DY l.2.1/\l.2.2.1.1.length.le 9223372036854775807/\l.2.2.2.1.1.length.le 9223372036854775807/\True->I_2 l->(decide P=true->(U<=l.1/\P)/\∃(J:A1k->Prop),let A:(D4)->(D4)->Prop:=(λr a3=>IU a3.1/\True->a3.1=rc (rv r.1*rv af.1)->J (a3.1.1.1,a3.1.1.2,a3.1.2,()));let S:(D4)->Prop:=(λr=>(G4 r.1/\G4 af.1)/\∀(a3:D4),A r a3);(q/\(NE K1 ag/\∀(r:D4),IU r.1/\True->r.1=rc (A6 ag a.2.1)->(S r)/\(G4 r.1/\G4 af.1)/\∀(a3:D4),A r a3)/\NE K1 ag/\∀(r:D4),IU r.1/\True->r.1=rc (A6 ag a.2.1)->S r)/\∀(aa:A1k),let ba:=(aa.1,aa.2.1);let b7:=(b.1,ba,aa.2.2.1);Ty.bool.wf aa.1/\(Ty.int u32).sl.wf aa.2.1/\(Ty.int u32).sl.wf aa.2.2.1/\True->J aa->∃(J:C7i->Prop),let a2:Prop:=((((l.2.2.1.1.getD (h.1.getD Y U).toNat []).length+ [b7].length)*(64:Nat)<=aj/\(l.2.2.1.1.getD (h.1.getD Y U).toNat []).length+ [b7].length<=9223372036854775807)/\C/\(h.1.getD Y U).toNat=(h.1.getD Y U).toNat/\J ((l.2.2.1.1.set (h.1.getD Y U).toNat (l.2.2.1.1.getD (h.1.getD Y U).toNat []++ [b7]),l.2.2.1.2),()));let t:Prop:=(¬(h.1.getD Y U).toNat∈l.2.2.1.2/\a2);let L:Prop:=(t/\¬(h.1.getD Y U).toNat∈l.2.2.1.2/\a2/\a2);(C/\((t/\t)/\(¬(h.1.getD Y U).toNat∈l.2.2.1.2/\a2/\a2/\a2)/\L)/\(¬(h.1.getD Y U).toNat∈l.2.2.1.2/\(a2/\a2/\a2)/\(a2/\a2)/\a2)/\L/\¬(h.1.getD Y U).toNat∈l.2.2.1.2/\(a2/\a2)/\a2)/\∀(bf:C7i),bf.1.1.length.le 9223372036854775807/\True->J bf->q/\G4 (ba,aa.2.2.1)/\∀(a3:D4),IU a3.1/\True->a3.1=rc (-rv (ba,aa.2.2.1))->(NE K1 ag/\sz K1 a3.1/\NE K1 V)/\∀(b2:Qk),let b6:=(List.set l.2.1 (h.1.getD Y U).toNat b2.1);DX b2.1/\True->OG (fun(i:Int)=>A6 ag i+rv a3.1*A6 V i) b2.1->q/\∃(I:LP->Prop),∃(u: _->Nat),I (U,l.2.2.2.1,())/\∀(z:LP),let au:=(gx E6 V z.1);let az:=au.1.toNat;let bg:Prop:=(z.1<(↑V.length:Int));(Ty.int i64).wf z.1/\z.2.1.1.length.le 9223372036854775807/\True->I z->(decide bg=true->(U<=z.1/\bg)/\(U<=au.1/\au.1<(↑z.2.1.1.length:Int))/\¬Int.toNat au.1∈z.2.1.2/\I (i64.wrap (z.1+g),(z.2.1.1.set az (Qb (Ty.int i64) (h.1.getD Y U) (z.2.1.1.getD az [])),z.2.1.2),())/\u (i64.wrap (z.1+g),(z.2.1.1.set az (Qb (Ty.int i64) (h.1.getD Y U) (z.2.1.1.getD az [])),z.2.1.2),())<u z)/\(decide bg=false->(U<=h.1.getD Y U/\h.1.getD Y U<(↑b6.length:Int))/\∃(I:LP->Prop),∃(u: _->Nat),I (U,z.2.1,())/\∀(a0:LP),let al:=(i64.wrap (l.1+g),List.set l.2.1 (h.1.getD Y U).toNat b2.1,bf.1,a0.2.1,());let X:=(gx E6 (b6.getD (h.1.getD Y U).toNat []) a0.1);let b0:=X.1.toNat;let be:Prop:=(a0.1<(↑(b6.getD (h.1.getD Y U).toNat []).length:Int));(Ty.int i64).wf a0.1/\a0.2.1.1.length.le 9223372036854775807/\True->I a0->(decide be=true->(U<=a0.1/\be)/\(U<=X.1/\X.1<(↑a0.2.1.1.length:Int))/\¬Int.toNat X.1∈a0.2.1.2/\I (i64.wrap (a0.1+g),(a0.2.1.1.set b0 (Ga (Ty.int i64) (h.1.getD Y U) true (a0.2.1.1.getD b0 [])),a0.2.1.2),())/\u (i64.wrap (a0.1+g),(a0.2.1.1.set b0 (Ga (Ty.int i64) (h.1.getD Y U) true (a0.2.1.1.getD b0 [])),a0.2.1.2),())<u a0)/\(decide be=false->I_2 al/\bx al<bx l)))/\(decide P=false->I bk/\u bk<u b))))/\(decide (b.1<x.1.1)=false->∃(I:C8l->Prop),∃(u: _->Nat),I (b.2.2.2.2.1,U,List.replicate ad [],List.replicate ad [],b.2.2.2.2.2.2.1,())/\∀(a:C8l),let bq:=(x.1.1,x.1.1,a.2.2.1);let b4:=(a.1.length:Int);let a8:=a.2.1.toNat;let Z:=(b.2.2.1,b.2.2.2.1,bq,x.1.1,x.1.1,a.2.2.2.1);let W:=(List.getD b.2.2.1 a8 U);let b8:=(List.getD b.2.2.2.2.2.1 W.toNat []);let H:Prop:=(a.2.1<bp);let s:Prop:=(U<=a.2.1/\a.2.1<(a.2.2.1.length:Int));let bb:(D4)->Prop:=(λr=>((a.2.2.2.2.1.1.getD W.toNat []).length+ [(a.2.1,r.1)].length)*(64:Nat)<=aj/\(a.2.2.2.2.1.1.getD W.toNat []).length+ [(a.2.1,r.1)].length<=9223372036854775807);(Ty.int i64).sl.wf a.1/\(Ty.int i64).wf a.2.1/\DY a.2.2.1/\DY a.2.2.2.1/\a.2.2.2.2.1.1.length.le 9223372036854775807/\True->I a->(decide H=true->(U<=a.2.1/\H)/\∃(J:C8a->Prop),let ae:(D4)->Prop:=(λr=>let bj:=(a.2.1,r.1);(((a.2.2.2.2.1.1.getD W.toNat []).length+ [bj].length)*(64:Nat)<=aj/\(a.2.2.2.2.1.1.getD W.toNat []).length+ [bj].length<=9223372036854775807)/\s/\J (List.set a.2.2.1 a8 (a.2.2.2.2.1.1.getD W.toNat []++ [bj]),(a.2.2.2.2.1.1,W.toNat::a.2.2.2.2.1.2),()));let N:Prop:=(True/\∀(r:D4),IU r.1/\True->r.1=ri g->ae r);let n:(D4)->Prop:=(λr=>¬W.toNat∈a.2.2.2.2.1.2/\ae r);((U<=List.getD b.2.2.1 a8 U/\List.getD b.2.2.1 a8 U<(↑a.2.2.2.2.1.1.length:Int))/\((¬W.toNat∈a.2.2.2.2.1.2/\N)/\True/\∀(r:D4),IU r.1/\True->r.1=ri g->(n r)/\¬W.toNat∈a.2.2.2.2.1.2/\(bb r)/\s/\J (List.set a.2.2.1 a8 (a.2.2.2.2.1.1.getD W.toNat []++ [(a.2.1,r.1)]),(a.2.2.2.2.1.1,W.toNat::a.2.2.2.2.1.2),()))/\(¬W.toNat∈a.2.2.2.2.1.2/\N/\True/\∀(r:D4),IU r.1/\True->r.1=ri g->(ae r)/\(ae r)/\(bb r)/\s/\J (List.set a.2.2.1 a8 (a.2.2.2.2.1.1.getD W.toNat []++ [(a.2.1,r.1)]),(a.2.2.2.2.1.1,W.toNat::a.2.2.2.2.1.2),()))/\True/\∀(r:D4),IU r.1/\True->r.1=ri g->((n r)/\n r)/\(¬W.toNat∈a.2.2.2.2.1.2/\(ae r)/\(ae r)/\ae r)/\(n r)/\¬W.toNat∈a.2.2.2.2.1.2/\(ae r)/\(bb r)/\s/\J (List.set a.2.2.1 a8 (a.2.2.2.2.1.1.getD W.toNat []++ [(a.2.1,r.1)]),(a.2.2.2.2.1.1,W.toNat::a.2.2.2.2.1.2),()))/\∀(d:C8a),DY d.1/\d.2.1.1.length.le 9223372036854775807/\True->J d->(U<=List.getD b.2.2.1 a8 U/\List.getD b.2.2.1 a8 U<(b.2.2.2.2.2.1.length:Int))/\(NE K1 b8/\List.length a.1<=100000)/\∀(a7:List EE×Bool×Unit),let bl:=(a.1,i64.wrap (a.2.1+g),d.1,List.set a.2.2.2.1 a8 a7.1,d.2.1,());DX a7.1/\True/\True->(G3 a.1 b4->(∀(j:Int),A6 b8 j≠(0:Rat)->U<=j/\j<b4)->OG (fun(i:Int)=>if U<=i/\i<b4 then A6 b8 (↑(List.idxOf i a.1):Int)else(0:Rat)) a7.1/\a7.2.1=true)->(U<=a.2.1/\a.2.1<(a.2.2.2.1.length:Int))/\I bl/\u bl<u a)/\(decide H=false->(¬A8 x.1->Z=UX/\U=g)/\(A8 x.1->(x.1.1≠x.1.2.1->Z=UX/\U=ab)/\(x.1.1=x.1.2.1->(¬nonsing x.1.1.toNat (el x.1)->Z=UX/\U=ac)/\(nonsing x.1.1.toNat (el x.1)->H5 Z x.1.1/\U=U/\(∀(v:List EE),v∈a.2.2.1->U5 v)/\(∀(v:List EE),v∈a.2.2.2.1->U5 v)/\(∀(T:Nat),(1:Nat)<=T->Hl x.1.1.toNat x.1.1.toNat (el x.1) T->∀(i j:Nat),i<x.1.1.toNat->qs (T+T) (el bq i j)/\qs (T+T) (el (x.1.1,x.1.1,a.2.2.2.1) i j))/\∀(i j:Nat),i<x.1.1.toNat->j<x.1.1.toNat->Qw Z x.1.1.toNat i j=el x.1 (ix b.2.2.1 i) (ix b.2.2.2.1 j))))))))))
def EY (x:A4 S6.args):C5a prog TP Td Qz S6 f10 x=Ix x:=by kernel_rfl
end Go.Proofs.YtcbjamefalhfgaaGreat
