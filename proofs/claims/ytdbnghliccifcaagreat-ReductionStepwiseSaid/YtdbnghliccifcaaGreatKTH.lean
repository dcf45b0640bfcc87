/- Part. -/
import Derived.Test.YtdbnghliccifcaaGreatKTG
set_option linter.all false
namespace Go.Proofs.YtdbnghliccifcaaGreat
open Go.Proofs.Tryz
open Go.Vc Go.Gw
open Go.IntKind (i64 u64 u32)
def My:sr O5 Fv:=λx D P=>by
 obtain⟨l,d,_⟩:=x;have O:B4 l:=A5 D.1.2;change Wf at l;change Int at d;have J:u32.min<=d/\d<=u32.max:=D.2.1;rw[UA,TZ]at J;obtain⟨X,o⟩:l.length<=17592186044416/\d≠0:=P;simp only[Fv,iB,R0];have T:u64.wrap d=d:=X7 ω ω;rw[T,wv (a:=(l.length:Int)-1) ω];refine⟨⟨ω,qH _,by simp;omega,ω⟩,?_⟩;refine⟨λp=> -1<=p.2.1/\p.2.1<(l.length:Int)/\0<=p.1/\p.1<d/\p.2.2.1.length=l.length/\nv (l.drop (p.2.1+1).toNat)=nv (p.2.2.1.drop (p.2.1+1).toNat)*d.toNat+p.1.toNat,λp=>(p.2.1+1).toNat,⟨by show(-1:Int)<=(l.length:Int)-1;omega,by show(l.length:Int)-1< _;omega,qH _,by show(0:Int)<d;omega,by simp,?_⟩,?_⟩
 . show nv (l.drop ((l.length:Int)-1+1).toNat)=nv ((List.replicate _ 0).drop ((l.length:Int)-1+1).toNat)* _ + _;rw[sG ω,sG (by rw[rK];omega)];simp[nv]
 rintro⟨(c:Int),(i:Int),(q:Wf),_⟩ _ ⟨H,j,s,I,u,g⟩;simp only at H j s I u g|-;refine⟨λr=>?_,λr=>?_⟩
 . have h:0<=i:=qA r;have w:=Uf O h j;have M:=W3 (l:=l) h j;rw[show Min.min (Int.toNat 32) u64.bits=32 from rfl];generalize gx 0 l i=b at*;have E:u64.wrap (c*2^32)=c*2^32:=X7 ω ω;have F:u64.wrap b=b:=X7 ω ω;have G:(((BitVec.ofInt u64.bits (c*2^32) |||BitVec.ofInt u64.bits b).toNat:Nat):Int)=b+c*4294967296:=KQ (v:=b) (b:=c) (k:=32) w.1 ω s ω ω;rw[E,F,G,X7 (a:=b+c*4294967296) ω ω,wv (a:=i-1) ω];have t:0<=b+c*4294967296:=ω
   rw[uL t,IntWalk.u64_quo _ _ ⟨t,ω,ω⟩];have y:=g0l t (ω:0<=d);have V:(b+c*4294967296)/d<4294967296:=by
    rw[g2f ω];have:(c+1)*4294967296<=d*4294967296:=sK ω δ;omega
   have A:=g2p (b+c*4294967296) o;have Q:=zK (b+c*4294967296) (b:=d) ω;have U:=yD (b+c*4294967296) d;rw[w32 y ω];generalize (b+c*4294967296)/d=f at*;generalize (b+c*4294967296)%d=ri at*;refine⟨δ,⟨h,j⟩,o,⟨h,ω⟩,o,⟨ω,ω,A,Q,by rw[qW];exact u,?_⟩,ω⟩;rw[(ω:i-1+1=i),M];have N:(q.set i.toNat f).drop i.toNat=f::q.drop (i+1).toNat:=by
    have n:i.toNat<q.length:=ω
    rw[xI (by rw[qW];exact n),List.getElem_set_self,yW ω,(ω:(i+1).toNat=i.toNat+1)]
   rw[N];simp only[nv];rw[g];have R:(b.toNat:Int)+4294967296*c.toNat=f.toNat*d.toNat+ri.toNat:=by
    rw[tL w.1,tL s,tL y,tL (ω:0<=d),tL A,g2i f];omega
   have W:b.toNat+4294967296*c.toNat=f.toNat*d.toNat+ri.toNat:=by
    have:((b.toNat+4294967296*c.toNat:Nat):Int)=((f.toNat*d.toNat+ri.toNat:Nat):Int):=by
     rw[wV,wV,uU,uU];exact R
    exact g1q this
   rw[tC, <-sM,uX];omega
 have h:¬0<=i:=qB r;rw[(ω:(i+1).toNat=0),tO,tO]at g;refine⟨trivial,?_⟩;rintro⟨Y,_⟩ _ z;refine⟨trivial,?_⟩;rintro⟨Z,_⟩ _ B;simp only at z B|-;have n:c.toNat<d.toNat:=ω
 rw[sV]at g;rw[z,B,g,g2u,tW n,g2t ω,uJ n,tJ];exact⟨rfl,rfl⟩
def Xz:sr S5 Na:=λx F E=>by
 obtain⟨l,s,_⟩:=x;have u:B4 l:=A5 F.1.2;change Wf at l;change Int at s;obtain⟨Q,G,R⟩:l.length<=17592186044416/\0<=s/\s<=31:=E;simp only[Na,iB];rw[wv (a:=(l.length:Int)+1) ω];refine⟨⟨ω,qH _,by simp;omega,ω⟩,?_⟩;have N:(2:Nat)^s.toNat<=2^31:=rZ δ ω;have J:0<(2:Nat)^s.toNat:=tV δ;have d:((2:Int)^s.toNat)=((2^s.toNat:Nat):Int):=by rw[xJ];rfl
 refine⟨λp=>0<=p.2.1/\p.2.1<=(l.length:Int)/\0<=p.1/\p.1<2^s.toNat/\p.2.2.1.length=l.length+1/\nv (p.2.2.1.take p.2.1.toNat)+4294967296^p.2.1.toNat*p.1.toNat=nv (l.take p.2.1.toNat)*2^s.toNat,λp=>((l.length:Int)-p.2.1).toNat,⟨qH _,qF _,qH _,by show(0:Int)<2^s.toNat;rw[d];omega,by rw[rK];omega,by simp[nv]⟩,?_⟩;rintro⟨(c:Int),(i:Int),(out:Wf),_⟩ ⟨_,_,O,_⟩ ⟨f,y,t,o,r,g⟩;simp only at f y t o r g|-;have H:c<((2^s.toNat:Nat):Int):=by rw[<-d];exact o
 refine⟨λn=>?_,λn=>?_⟩
 . have j:i<(l.length:Int):=qA n;have dl:=O0 u i.toNat;have D:Min.min (Int.toNat s) u64.bits=s.toNat:=by show Min.min (Int.toNat s) 64= _;omega
   rw[Fs u f j,D,d];have h:(dg l i.toNat:Int)*((2^s.toNat:Nat):Int)=((dg l i.toNat*2^s.toNat:Nat):Int):=(uU _ _).symm;have I:dg l i.toNat*2^s.toNat<=4294967295*2^s.toNat:=rM _ dl;have w:(((BitVec.ofInt u64.bits c|||BitVec.ofInt u64.bits ((dg l i.toNat*2^s.toNat:Nat):Int)).toNat:Nat):Int)=c+((dg l i.toNat*2^s.toNat:Nat):Int):=by
    have:=XS (v:=c) (b:=(dg l i.toNat:Int)) (k:=s.toNat) t o ω (by rw[d,h];omega) ω;rw[d,h]at this;exact this
   rw[X7 (a:=(dg l i.toNat:Int)) ω ω,h,X7 (a:=((dg l i.toNat*2^s.toNat:Nat):Int)) ω ω,w,X7 ω ω,A1u _ ω,wv ω,Co];generalize z:dg l i.toNat*2^s.toNat=M at*;refine⟨⟨f,j⟩,G,⟨f,ω⟩,δ,⟨ω,ω,ω,?_,by rw[qW];exact r,?_⟩,ω⟩
   . generalize 2^s.toNat=T at*;omega
   rw[(ω:(i+1).toNat=i.toNat+1),T9 ω,J5 l,sB,uX, <-g,sM (4294967296^i.toNat) (dg l i.toNat),z];generalize 4294967296^i.toNat=P at*;have A:((c+(M:Int))%4294967296).toNat+4294967296*((c+(M:Int))/4294967296).toNat=c.toNat+M:=ω
   have B:=sD (P* ·) A;simp only[tC, <-sM]at B;omega
 have j:¬i<(l.length:Int):=qB n;rw[qO,w32 ω ω];refine⟨⟨ω,ω⟩,by rw[qW];exact r,?_⟩;have e:=T9 (l:=out) (i:=l.length) (v:=c) ω;rw[qQ (by rw[qW];omega)]at e;rw[(ω:i.toNat=l.length),qQ (qU l.length)]at g;rw[e,g]
def Qf:sr N5 Hs:=λx J R=>by
 obtain⟨a,n,_⟩:=x;have Q:B4 a:=A5 J.1.2;have G:=(show i64.min<=n/\n<=i64.max from J.2.1);rw[Ub,CS]at G;change Wf at a;change Int at n;have a3:a.length<=17592186044416:=R;have V:=C9 Q;have Y: -9223372036854775808<=n/\n<=9223372036854775807:=G;simp only[Hs,iB,R0];refine⟨λh=>?_,λh=>⟨trivial,?_⟩⟩
 . have h:=qA h;exact⟨λ_=>⟨by trivial,by trivial⟩,λg=>ω⟩
 have h:=qB h;have z:0<=n:=ω
 rintro⟨r,_⟩ _ o;simp only at o|-;have A:i64.wrap (Int.tdiv n 32)=((n.toNat/32:Nat):Int):=by
  rw[yL z,wv ω];omega
 have B:(Int.tmod n 32).toNat=n.toNat%32:=by rw[uL z];omega
 have N:(0:Int)<=Int.tmod n 32:=zH _ z;have D:n.toNat=32*(n.toNat/32)+n.toNat%32:=ω
 have O:n.toNat%32<=31:=ω
 have E:Min.min (n.toNat%32) u64.bits=n.toNat%32:=by show Min.min (n.toNat%32) 64= _;omega
 rw[A,B,E];have T:nv r=nv a:=by rw[o,F7]
 have I:B4 r:=o▸K8 _;have a0:r.length<=a.length:=by rw[o];exact V
 have u:=eN (l:=r) I (k:=n.toNat/32) (s:=n.toNat%32);rw[<-D,T]at u;clear A B E;refine⟨δ,λg=>?_,λg=>?_⟩
 . have g:=qA g;refine⟨λc=>ω,λ_=>⟨?_,by trivial⟩⟩;rw[u,sG ω,iG,g4n,Q9]
 have g:=qB g;rw[u];rw[show(((n.toNat/32:Nat):Int)).toNat=n.toNat/32 from qO _,show((r.length:Int)).toNat=r.length from qO _,qQ (qU _)];have f:B4 (r.drop (n.toNat/32)):=λy hy=>I y (vM hy)
 have a1:(r.drop (n.toNat/32)).length<=r.length:=by rw[sL];omega
 refine⟨δ,⟨ω,ω,qH _⟩,δ,⟨ω,qH _,ω,ω⟩,?_⟩;clear u D;generalize r.drop (n.toNat/32)=t at*;generalize n.toNat%32=s at*;have P:nv t/2^s<4294967296^t.length:=xX (wY _ _) (Gi f);refine⟨λp=>0<=p.1/\p.1<=(t.length:Int)/\p.2.1.length=t.length/\nv (p.2.1.take p.1.toNat)=nv t/2^s%4294967296^p.1.toNat,λp=>((t.length:Int)-p.1).toNat,⟨qH _,qF _,by simp,by simp[nv];omega⟩,?_⟩;rintro⟨(i:Int),(out:Wf),_⟩ ⟨_,a2,_⟩ ⟨j,U,M,w⟩;simp only at j U M w|-;have W:=O0 f i.toNat;have X:=O0 f (i.toNat+1);refine⟨λc=>?_,λc=>?_⟩
 . have c:=qA c;rw[wv (a:=i+1) ω];refine⟨⟨j,c⟩,λp=>p.1=((dg t i.toNat+dg t (i.toNat+1)*4294967296:Nat):Int),⟨λd=>?_,λd=>?_⟩,?_⟩
   . have d:=qA d;refine⟨⟨ω,d⟩,δ,?_⟩;show u64.wrap _= _;rw[Fs f j c,Fs f ω d,(ω:(i+1).toNat=i.toNat+1)];rw[show Min.min (Int.toNat 32) u64.bits=32 from rfl];rw[X7 (a:=(dg t i.toNat:Int)) ω ω,X7 (a:=(dg t (i.toNat+1):Int)) ω ω,X7 (a:=(dg t (i.toNat+1):Int)*2^32) ω ω];have:=XS (v:=(dg t i.toNat:Int)) (b:=(dg t (i.toNat+1):Int)) (k:=32) ω ω ω ω ω;rw[show u64.bits=64 from rfl,this,X7 ω ω];omega
   . have d:=qB d;show u64.wrap _= _;rw[Fs f j c,X7 ω ω,Pj (i:=i.toNat+1) ω];omega
   rintro⟨a4,_⟩ _ F;simp only at F|-;refine⟨N,⟨j,ω⟩,⟨ω,ω,by rw[qW];exact M,?_⟩,ω⟩;rw[(ω:(i+1).toNat=i.toNat+1),T9 ω,w,sB,Nat.mod_mul,A7e f _ O];congr 2;rw[F,Co];have:Int.fdiv ((dg t i.toNat+dg t (i.toNat+1)*4294967296:Nat):Int) (2^s)=(((dg t i.toNat+dg t (i.toNat+1)*4294967296)/2^s:Nat):Int):=by
    rw[show((2:Int)^s)=((2^s:Nat):Int)from by rw[xJ];rfl,sJ _ (qF _)];rfl
   rw[this];generalize (dg t i.toNat+dg t (i.toNat+1)*4294967296)/2^s=Z;omega
 have c:=qB c;refine⟨trivial,?_⟩;rintro⟨q,_⟩ _ H;simp only at H|-;refine⟨λh=>ω,λ_=>⟨?_,by trivial⟩⟩;rw[(ω:i.toNat=t.length),qQ ω,tW P]at w;rw[H,w]
def aJ:An:= {join:= [(4,⟨[],[],[(0,false,[.val qf]),(2,false,vI)],[],[]⟩),(7,⟨[],[],[(0,false,[.val qf]),(2,false,vI)],[],[]⟩)]}
def Tg:An:= {}
def EF:An:= {}
def JI:An:= {plan:= [(2,[],[],true, .done)]}
def GV:An:= {loop:= [(7,⟨[4],[0],[(7,false,vU),(8,false,vU),(9,false,vU),(10,false,vU),(11,false,vU),(12,false,vU),(13,false,vU),(14,false,vU),(15,false,[.val .bool])],[],[]⟩)],plan:= [(9,[],[],true, .done)]}
def GU:An:= {}
def Dt:ByteArray:=ByteArray.mk (([(0:UInt8),1,2,2,3,3,3,3,4,4,4,4,4,4,4,4,5,5,5,5,5,5,5,5,5,5,5,5,5,5,5,5,6,6,6,6,6,6,6,6,6,6,6,6,6,6,6,6,6,6,6,6,6,6,6,6,6,6,6,6,6,6,6,6].append [(7:UInt8),7,7,7,7,7,7,7,7,7,7,7,7,7,7,7,7,7,7,7,7,7,7,7,7,7,7,7,7,7,7,7,7,7,7,7,7,7,7,7,7,7,7,7,7,7,7,7,7,7,7,7,7,7,7,7,7,7,7,7,7,7,7,7]).append ([(8:UInt8),8,8,8,8,8,8,8,8,8,8,8,8,8,8,8,8,8,8,8,8,8,8,8,8,8,8,8,8,8,8,8,8,8,8,8,8,8,8,8,8,8,8,8,8,8,8,8,8,8,8,8,8,8,8,8,8,8,8,8,8,8,8,8].append [(8:UInt8),8,8,8,8,8,8,8,8,8,8,8,8,8,8,8,8,8,8,8,8,8,8,8,8,8,8,8,8,8,8,8,8,8,8,8,8,8,8,8,8,8,8,8,8,8,8,8,8,8,8,8,8,8,8,8,8,8,8,8,8,8,8,8])).toArray
def GF(x:D8):Prop:=∃(J:Cr->Prop),((iB (decide (65536<=x.1)) ((0:(Ty.int u64).den)<=(16:Int)/\J (Int.fdiv x.1 ((2:Int)^Min.min ((16:Int).toNat) u32.bits),(16:Int),())) (J (x.1,(0:Int),()))))/\∀(p:Cr),(Ty.int u32).wf p.1/\(Ty.int i64).wf p.2.1/\True->J p->∃(J:Cr->Prop),((iB (decide (256<=p.1)) ((0:(Ty.int u64).den)<=(8:Int)/\J (Int.fdiv p.1 ((2:Int)^Min.min ((8:Int).toNat) u32.bits),i64.wrap (p.2.1+8),())) (J (p.1,p.2.1,()))))/\∀(p:Cr),(Ty.int u32).wf p.1/\(Ty.int i64).wf p.2.1/\True->J p->((0:Int)<=IntKind.u8.wrap p.1/\IntKind.u8.wrap p.1<(↑(Dt).data.toList.length:Int))/\i64.wrap (p.2.1+i64.wrap (HA (Dt) (IntKind.u8.wrap p.1)))=(↑(M5 x.1.toNat):Int)
def Hd(x:D8):Prop:=True/\Ef λr=>r.1=(↑(M5 x.1.toNat):Int)->i64.wrap (32-r.1)=(32:Int)-(↑(M5 x.1.toNat):Int)
def Kb(x:A2g):Prop:=let c:=(↑x.2.1.length:Int);let b:=(0:Int);let a:=(x.2.1.length:Int);(iB (decide (x.1<a)) ((b<=x.1/\x.1<a)/\u64.wrap (gx b x.2.1 x.1)=if x.1<c then x.2.1.getD x.1.toNat b else b) (b=if x.1<c then x.2.1.getD x.1.toNat b else b))
def Ou(x:Wf×Int×Int×Unit):Prop:=let d:=(32:Int);let c:=(2:Int);let b:=(x.1.length:Int);let a:=(0:Int);a<=i64.wrap (x.2.1-1)/\rT7 λr=>(r.1=if i64.wrap (x.2.1-1)<b then List.getD x.1 (i64.wrap (x.2.1-1)).toNat a else a)->(0:(Ty.int u64).den)<=d/\a<=i64.wrap (x.2.1-c)/\rT7 λe=>(e.1=if i64.wrap (x.2.1-c)<b then List.getD x.1 (i64.wrap (x.2.1-c)).toNat a else a)->(0:(Ty.int i64).den)<=x.2.2.1/\a<=i64.wrap (x.2.1-3)/\rT7 λf=>(f.1=if i64.wrap (x.2.1-3)<b then List.getD x.1 (i64.wrap (x.2.1-3)).toNat a else a)->(0:(Ty.int i64).den)<=i64.wrap (d-x.2.2.1)/\u64.wrap (↑(BitVec.ofInt u64.bits (u64.wrap (u64.wrap (↑(BitVec.ofInt u64.bits (u64.wrap (r.1*c^Min.min d.toNat u64.bits)) |||BitVec.ofInt u64.bits e.1).toNat:Int)*c^Min.min x.2.2.1.toNat u64.bits)) |||BitVec.ofInt u64.bits (Int.fdiv f.1 (c^Min.min (i64.wrap (d-x.2.2.1)).toNat u64.bits))).toNat:Int)=(↑(nv x.1*2^x.2.2.1.toNat/(4294967296:Nat)^(x.2.1.toNat-(2:Nat))):Int)
abbrev C4p:=Int×Int×Int×Int×Int×Int×Int×Int×Bool×Unit
def Mz(x:Eh):Prop:=let l:=(17592186044416:Int);let k:=(2:Nat);let j:=(1:Int);let i:=(4294967296:Nat);let g:=(↑(nv x.1):Int);let e:=(↑(nv x.2.1):Int);let d:=(0:Int);let c:=(x.1.length:Int);(d<=i64.wrap (c-j)/\i64.wrap (c-j)<c)/\True/\Ef λr=>r.1=32-(↑(M5 (gx d x.1 (i64.wrap (c-j))).toNat):Int)->((3:Int)<=c/\c<=c/\c<=l/\d<=r.1/\r.1<=31/\nv x.1*k^Int.toNat r.1<i^c.toNat)/\rT7 λm=>m.1=(↑(nv x.1*k^Int.toNat r.1/i^(c.toNat-k)):Int)->((3:Int)<=c/\(x.2.1.length:Int)<=c/\c<=l/\d<=r.1/\r.1<=31/\nv x.2.1*k^Int.toNat r.1<i^c.toNat)/\rT7 λn=>n.1=(↑(nv x.2.1*k^Int.toNat r.1/i^(c.toNat-k)):Int)->∃(I:C4p->Prop),∃(a: _->Nat),I (m.1,n.1,d,j,d,d,d,j,false,())/\∀(p:C4p),let h:=(u64.wrap (Int.tdiv p.1 p.2.1)*p.2.2.2.2.1);let f:=(u64.wrap (Int.tdiv p.1 p.2.1)*p.2.2.2.2.2.2.2.1);let c:Prop:=(p.2.2.2.2.2.2.2.1<=p.2.1);let b:Prop:=(u64.wrap (p.2.2.2.2.2.2.1+p.2.2.2.2.2.2.2.1)<=u64.wrap (p.1-p.2.1));(Ty.int u64).wf p.1/\(Ty.int u64).wf p.2.1/\(Ty.int u64).wf p.2.2.1/\(Ty.int u64).wf p.2.2.2.1/\(Ty.int u64).wf p.2.2.2.2.1/\(Ty.int u64).wf p.2.2.2.2.2.1/\(Ty.int u64).wf p.2.2.2.2.2.2.1/\(Ty.int u64).wf p.2.2.2.2.2.2.2.1/\Ty.bool.wf p.2.2.2.2.2.2.2.2.1/\True->I p->(iB (M0 (decide c) (decide b) false) (p.2.1≠d/\p.2.1≠d/\I (p.2.1,Int.tmod p.1 p.2.1,p.2.2.2.1,p.2.2.2.2.1,u64.wrap (p.2.2.2.1+u64.wrap h),p.2.2.2.2.2.2.1,p.2.2.2.2.2.2.2.1,u64.wrap (p.2.2.2.2.2.2.1+u64.wrap f), !p.2.2.2.2.2.2.2.2.1,())/\a (p.2.1,Int.tmod p.1 p.2.1,p.2.2.2.1,p.2.2.2.2.1,u64.wrap (p.2.2.2.1+u64.wrap h),p.2.2.2.2.2.2.1,p.2.2.2.2.2.2.2.1,u64.wrap (p.2.2.2.2.2.2.1+u64.wrap f), !p.2.2.2.2.2.2.2.2.1,())<a p) (p.2.2.2.2.2.1=d\/∃(A':Int),∃(B':Int),(A'=if p.2.2.2.2.2.2.2.2.1=true then p.2.2.1*g-p.2.2.2.2.2.1*e else p.2.2.2.2.2.1*e-p.2.2.1*g)/\(B'=if p.2.2.2.2.2.2.2.2.1=true then p.2.2.2.2.2.2.1*e-p.2.2.2.1*g else p.2.2.2.1*g-p.2.2.2.2.2.2.1*e)/\d<=B'/\B'<=A'/\g=p.2.2.2.2.2.2.1*A'+p.2.2.2.2.2.1*B'/\e=p.2.2.2.1*A'+p.2.2.1*B'/\j<=p.2.2.2.2.2.1/\j<=p.2.2.2.2.2.2.1/\d<=p.2.2.1/\d<=p.2.2.2.1))
abbrev C1z:=Wf×Int×Wf×Int×Unit
def Mx(x:C1z):Prop:=True/\R0 λr=>r.1=nc x.2.1.toNat->(N9 x.1/\N9 r.1)/\R0 λa=>a.1=nc (nv x.1*nv r.1)->True/\R0 λr=>r.1=nc x.2.2.2.1.toNat->(N9 x.2.2.1/\N9 r.1)/\R0 λb=>b.1=nc (nv x.2.2.1*nv r.1)->(N9 a.1/\N9 b.1)/\∀(r:A2h),Hi r.1/\True/\True->(nv a.1<nv b.1->r.1= []/\r.2.1=false)/\(nv b.1<=nv a.1->r.1=nc (nv a.1-nv b.1)/\r.2.1=true)->r.1=nc (nv x.1*x.2.1.toNat-nv x.2.2.1*x.2.2.2.1.toNat)
def C1u:∀k:Fin 256,HA Dt (k.val:Int)=(M5 k.val:Int):=by decide+kernel
def PL:sr Gu GF:=λx D _=>by
 obtain⟨(v:Int),_⟩:=x;have B:=(show u32.min<=v/\v<=u32.max from D.1);rw[UA,TZ]at B;simp only[GF,iB];have l:Int.fdiv v (2^Min.min (Int.toNat 16) u32.bits)=v/65536:=by
  rw[show Min.min (Int.toNat 16) u32.bits=16 from rfl,sJ _ δ];rfl
 rw[l];refine⟨λp=>0<=p.1/\p.1<65536/\0<=p.2.1/\p.2.1<=16/\(M5 v.toNat:Int)=M5 p.1.toNat+p.2.1,⟨λh=>?_,λh=>?_⟩,?_⟩
 . have h:=qA h;have e:=JQ (n:=v.toNat) (k:=16) ω;refine⟨δ,by show(0:Int)<=v/65536;omega,by show v/65536<65536;omega,by show(0:Int)<=16;omega,by show(16:Int)<=16;omega,?_⟩;show(M5 v.toNat:Int)=M5 (v/65536).toNat+16;rw[e,(ω:(v/65536).toNat=v.toNat/2^16)];omega
 . have h:=qB h;refine⟨by show(0:Int)<=v;omega,by show v<65536;omega,by show(0:Int)<=0;omega,by show(0:Int)<=16;omega,?_⟩;show(M5 v.toNat:Int)=M5 v.toNat+0;omega
 rintro⟨(w:Int),(n:Int),_⟩ _ ⟨i,t,j,y,c⟩;simp only at i t j y c|-;have o:Int.fdiv w (2^Min.min (Int.toNat 8) u32.bits)=w/256:=by
  rw[show Min.min (Int.toNat 8) u32.bits=8 from rfl,sJ _ δ];rfl
 rw[o,wv (a:=n+8) ω];refine⟨λp=>0<=p.1/\p.1<256/\0<=p.2.1/\p.2.1<=24/\(M5 v.toNat:Int)=M5 p.1.toNat+p.2.1,⟨λh=>?_,λh=>?_⟩,?_⟩
 . have h:=qA h;have e:=JQ (n:=w.toNat) (k:=8) ω;refine⟨δ,by show(0:Int)<=w/256;omega,by show w/256<256;omega,by show 0<=n+8;omega,by show n+8<=24;omega,?_⟩;show(M5 v.toNat:Int)=M5 (w/256).toNat+(n+8);rw[c,e,(ω:(w/256).toNat=w.toNat/2^8)];omega
 . have h:=qB h;exact⟨i,by show w<256;omega,j,by show n<=24;omega,c⟩
 rintro⟨(u:Int),(m:Int),_⟩ _ ⟨b,f,r,s,g⟩;simp only at b f r s g|-;have E:IntKind.u8.wrap u=u:=IntWalk.u8_in _ ⟨b,ω⟩;have A:(Dt.data.toList.length:Int)=256:=by decide+kernel
 have d:=C1u ⟨u.toNat,ω⟩;simp only at d;rw[(ω:((u.toNat:Nat):Int)=u)]at d;have H:M5 u.toNat<=8:=by
  rcases sH 8 (M5 u.toNat)with h|h
  . have z:u.toNat≠0:=λe=>by rw[e,CF]at h;omega
    have F:=(CE z).1;have G:2^8<=2^(M5 u.toNat-1):=rZ δ ω;omega
  exact h
 rw[E,d];refine⟨⟨b,by rw[A];exact f⟩,?_⟩;rw[wv (a:=(M5 u.toNat:Int)) ω,wv ω,g];omega
def UZ {v:Nat} (h:v<4294967296):M5 v<=32:=by
 rcases sH 32 (M5 v)with a|a
 . have b:v≠0:=λe=>by rw[e,CF]at a;omega
   have c:=(CE b).1;have b:2^32<=2^(M5 v-1):=rZ δ ω;omega
 exact a
def Nm:sr L9 Hd:=λx c _=>by
 obtain⟨(v:Int),_⟩:=x;have b:=(show u32.min<=v/\v<=u32.max from c.1);rw[UA,TZ]at b;simp only[Hd,Ef];refine⟨trivial,?_⟩;rintro⟨r,_⟩ _ a;simp only at a|-;have:=UZ (v:=v.toNat) ω;rw[a,wv ω]
def Vq:sr V3 Kb:=λx g f=>by
 obtain⟨i,l,_⟩:=x;have c:B4 l:=A5 g.2.1.2;change Int at i;change Wf at l;have a:0<=i:=f;simp only[Kb,iB];refine⟨λh=>?_,λh=>?_⟩
 . have h:=qA h;have b:=Uf c a h;rw[qT h, <-L3 (d:=(0:Int)) a h,X7 b.1 ω];exact⟨⟨a,h⟩,rfl⟩
 have h:=qB h;rw[qL h]
def B6b {l:Wf} (h:B4 l) {i:Int} (a:0<=i):(if i<(l.length:Int)then l.getD i.toNat 0 else 0)=(dg l i.toNat:Int):=by
 split
 . exact Y7 h
 rw[Pj ω];rfl
def BF:sr Ah Ou:=λx V T=>by
 obtain⟨l,n,s,_⟩:=x;have c:B4 l:=A5 V.1.2;change Wf at l;change Int at n s;obtain⟨a8,a7,a9,Z,a0,j⟩:3<=n/\(l.length:Int)<=n/\n<=17592186044416/\0<=s/\s<=31/\nv l*2^s.toNat<4294967296^n.toNat:=T;simp only[Ou,rT7];rw[wv (a:=n-1) ω,wv (a:=n-2) ω,wv (a:=n-3) ω,wv (a:=32-s) ω];refine⟨ω,?_⟩;rintro⟨a,_⟩ _ g;refine⟨δ,ω,?_⟩;rintro⟨b,_⟩ _ h;refine⟨Z,ω,?_⟩;rintro⟨a1,_⟩ _ i;simp only at g h i|-;rw[B6b c ω]at g h i;have y:=O0 c (n-1).toNat;have z:=O0 c (n-2).toNat;have D:=O0 c (n-3).toNat;obtain⟨m,rfl⟩:∃m:Nat,n=(m:Int)+3:=⟨(n-3).toNat,ω⟩;rw[(ω:((m:Int)+3-1).toNat=m+2)]at g y;rw[(ω:((m:Int)+3-2).toNat=m+1)]at h z;rw[(ω:((m:Int)+3-3).toNat=m)]at i D;rw[(ω:((m:Int)+3).toNat=m+3)]at j|-;rw[(ω:m+3-2=m+1)];have o:=A4e l (n:=m) ω;have O:=V2 c m;have J:0<4294967296^m:=tV δ;subst g h i;generalize a3:dg l (m+2)=A at*;generalize a4:dg l (m+1)=B at*;generalize a5:dg l m=C at*;have U:=B8e (a:=nv l) (low:=nv (l.take m)) (lo:=C) (H:=A*4294967296+B) (P:=4294967296^m) (s:=s.toNat) J (by rw[o];grind) O ω;rw[sB,U];have u:(A*4294967296+B)*2^s.toNat<18446744073709551616:=by
  have E:(A*4294967296+B)*2^s.toNat*(4294967296^m*4294967296)<=nv l*2^s.toNat:=by
   have:(A*4294967296+B)*(4294967296^m*4294967296)<=nv l:=by rw[o];grind
   have:=rM (2^s.toNat) this;rwa[zN]at this
  have d:4294967296^(m+3)=18446744073709551616*(4294967296^m*4294967296):=by
   rw[sB,sB,sB];grind
  rw[d]at j;exact xG (xX E j)
 have Q:Min.min (Int.toNat s) u64.bits=s.toNat:=by show Min.min (Int.toNat s) 64= _;omega
 have R:Min.min (Int.toNat (32-s)) u64.bits=32-s.toNat:=by show Min.min (Int.toNat (32-s)) 64= _;omega
 rw[Q,R,show Min.min (Int.toNat 32) u64.bits=32 from rfl];have a6:A*4294967296+B<18446744073709551616:=ω
 have W:(((BitVec.ofInt u64.bits (u64.wrap ((A:Int)*2^32)) |||BitVec.ofInt u64.bits (B:Int)).toNat:Nat):Int)=((A*4294967296+B:Nat):Int):=by
  rw[X7 (a:=(A:Int)*2^32) ω ω];have:=KQ (v:=(B:Int)) (b:=(A:Int)) (k:=32) ω ω ω ω ω;rw[show u64.bits=64 from rfl,this];omega
 rw[W,X7 (a:=((A*4294967296+B:Nat):Int)) ω ω];have w:((2:Int)^s.toNat)=((2^s.toNat:Nat):Int):=by rw[xJ];rfl
 have f:((A*4294967296+B:Nat):Int)*2^s.toNat=(((A*4294967296+B)*2^s.toNat:Nat):Int):=by rw[w,uU]
 have X:Int.fdiv (C:Int) (2^(32-s.toNat))=((C/2^(32-s.toNat):Nat):Int):=by
  have E:((2:Int)^(32-s.toNat))=((2^(32-s.toNat):Nat):Int):=by rw[xJ];rfl
  rw[E,sJ _ (qF _)];rfl
 have M:C/2^(32-s.toNat)<2^s.toNat:=by
  rw[tU (tV δ), <-DR ω];omega
 have I:(0:Int)<=(((A*4294967296+B)*2^s.toNat:Nat):Int):=qF _;rw[X,X7 (a:=((A*4294967296+B:Nat):Int)*2^s.toNat) (by rw[f];omega) (by rw[f];omega)];generalize C/2^(32-s.toNat)=L at*;have N:(L:Int)<2^s.toNat:=by rw[w];omega
 have a2:(2:Nat)^s.toNat<=2^31:=rZ δ ω;have Y:=KQ (v:=(L:Int)) (b:=((A*4294967296+B:Nat):Int)) (k:=s.toNat) ω N ω (by rw[f];omega) ω;rw[show u64.bits=64 from rfl,Y,f,X7 (a:=(L:Int)+(((A*4294967296+B)*2^s.toNat:Nat):Int)) (Int.add_nonneg (qF _) I) ?_]
 . constructor
   . exact Int.sub_nonneg.2 (g2h a0 δ)
   rw[wV];exact Int.add_comm _ _
 --the shifted number and the digits behind it are below 2^64
 have d:(18446744073709551616:Nat)=18446744073709551616/2^s.toNat*2^s.toNat:=by
  refine(Nat.div_mul_cancel ?_).symm;exact⟨2^(64-s.toNat),by rw[<-vA,(ω:s.toNat+(64-s.toNat)=64)]⟩
 have F:A*4294967296+B<18446744073709551616/2^s.toNat:=by
  rw[d]at u;exact xG u
 have r:(A*4294967296+B+1)*2^s.toNat<=18446744073709551616:=by
  rw[d];exact rM _ F
 rw[uX,xB]at r;have G:L+(A*4294967296+B)*2^s.toNat<18446744073709551616:=rH (by rw[vZ];exact Nat.add_lt_add_left M _) r;have t:((L+(A*4294967296+B)*2^s.toNat:Nat):Int)<18446744073709551616:=sU.2 G;rw[wV]at t;exact Int.le_of_lt_add_one t
def Xy:sr X4 Mz:=λx O aa=>by
 obtain⟨a,b,_⟩:=x;have k:B4 a:=A5 O.1.2;have ao:B4 b:=A5 O.2.1.2;change Wf at a b;obtain⟨b5,T,J,D,ar⟩:a.length<=17592186044416/\3<=a.length/\Mo a/\nv b<=nv a/\b.length<=a.length:=aa;simp only[Mz,iB,Ef,rT7];have W:i64.wrap ((a.length:Int)-1)=(a.length:Int)-1:=wv ω;rw[W,Fs k ω ω,(ω:((a.length:Int)-1).toNat=a.length-1)];refine⟨⟨ω,ω⟩,trivial,?_⟩;rintro⟨(s:Int),_⟩ _ H;simp only at H|-;rw[qO]at H;have E:=PF k J;have au:=O0 k (a.length-1);have aq:=UZ (v:=dg a (a.length-1)) ω;have ap:=(CE E).2;have t:=A3o k (n:=a.length-1) ω (s:=s.toNat) ω;rw[(ω:a.length-1+1=a.length)]at t;have a9:nv b*2^s.toNat<4294967296^a.length:=xX (rM _ D) t;have ay:=YS k J;rw[qO];refine⟨⟨ω,qH _,ω,ω,ω,t⟩,?_⟩;rintro⟨X,_⟩ ⟨B,_⟩ i;refine⟨⟨ω,ω,ω,ω,ω,a9⟩,?_⟩;rintro⟨Y,_⟩ ⟨a8,_⟩ j;change Int at X Y;simp only at i j B a8|-;have a4:s.toNat<=32*(a.length-2):=ω
 rw[La,A7d a4]at i j;have o:0<2^(32*(a.length-2)-s.toNat):=tV δ;have a5:0<X:=by
  rw[i];have ah:=Um a (n:=a.length-1) ω;have Z:2^(32*(a.length-2)-s.toNat)<=nv a:=by
   have ai:2^(32*(a.length-2)-s.toNat)<=4294967296^(a.length-1):=by
    rw[La];exact rZ δ ω
   have aj:=sQ (4294967296^(a.length-1)) (sZ E);omega
  have:=(vL o).2 (by rw[xB];exact Z);omega
 have a7:Y<=X:=by rw[i,j];exact Int.ofNat_le.2 (Nat.div_le_div_right D)
 have a6:0<=Y:=by rw[j];exact qF _
 have a0:=wX (nv a) (2^(32*(a.length-2)-s.toNat));have ak:=wH (nv a) o;have a2:=wX (nv b) (2^(32*(a.length-2)-s.toNat));have am:=wH (nv b) o;generalize 2^(32*(a.length-2)-s.toNat)=K at*;have an:X<=18446744073709551615:=by have:=B.2;rw[DW]at this;exact this
 refine⟨λp=>∃R,Leh X Y R p.1 p.2.1 p.2.2.1 p.2.2.2.1 p.2.2.2.2.1 p.2.2.2.2.2.1 p.2.2.2.2.2.2.1 p.2.2.2.2.2.2.2.1 p.2.2.2.2.2.2.2.2.1,λp=>p.2.1.toNat,⟨0,Leh.start a6 a7 a5⟩,?_⟩;rintro⟨(x:Int),(y:Int),(ad:Int),(l:Int),(f:Int),(Q:Int),(g:Int),(d:Int),(ev:Bool),_⟩ _ ⟨R,c⟩;simp only at c|-;have av:=c.idX;have aw:=c.idY;have b4:=c.yx;have w:=c.y0;have b3:=c.x0;have ab:=c.u10;have u:=c.u20;have N:=c.v10;have ac:=c.v20;have b9:x*1<=x*d:=uB ac ω;have bb:0<=y*g:=tT w N;have b8:0<=x*f:=tT ω u;have ba:0<=y*l:=tT w ab;have b7:1*d<=x*d:=sK ω ω;refine⟨λr=>?_,λ_=>?_⟩
 . rw[J4]at r;simp only[qC,rU]at r;obtain⟨c1,A⟩:=r;have z:1<=y:=ω
   have b6:1*g<=y*g:=sK z N;rw[X7 (a:=g+d) ω ω,X7 (a:=x-y) ω ω]at A;have h:=c.step c1 A;have b0:=h.idX;have b1:=h.idY;have I:=h.u20;have b2:=h.v20;have F:0<=x/y:=g0l ω w;have az:x/y<=x:=Int.ediv_le_self _ ω;have G:=h.y0;have ae:1*(g+x/y*d)<=y*(g+x/y*d):=sK z ω;have af:0<=x%y*d:=tT G ω;have T:1*(l+x/y*f)<=y*(l+x/y*f):=sK z I;have ag:0<=x%y*f:=tT G u;have U:0<=x/y*d:=tT F ω;have V:0<=x/y*f:=tT F u;rw[uL ω,IntWalk.u64_quo _ _ ⟨ω,ω,ω⟩];rw[X7 (a:=x/y*f) V ω,X7 (a:=x/y*d) U ω,X7 (a:=l+x/y*f) I ω,X7 (a:=g+x/y*d) ω ω];have ax:=zK x (b:=y) ω;exact⟨ω,ω,⟨x,h⟩,ω⟩
 by_cases M:Q=0
 . exact .inl M
 right;have a1:(nv a:Int)=X*(K:Int)+((nv a%K:Nat):Int):=by
  rw[i, <-uU, <-wV,sV,a0]
 have a3:(nv b:Int)=Y*(K:Int)+((nv b%K:Nat):Int):=by
  rw[j, <-uU, <-wV,sV,a2]
 exact c.apply M (P:=(K:Int)) ω (qF _) ω (qF _) ω a1 a3
def Xx:sr X3 Mx:=λx d l=>by
 obtain⟨a,x,b,y,_⟩:=x;have i:B4 a:=A5 d.1.2;have j:B4 b:=A5 d.2.2.1.2;change Wf at a b;change Int at x y;have n:=(show u64.min<=x/\x<=u64.max from d.2.1);have o:=(show u64.min<=y/\y<=u64.max from d.2.2.2.1);rw[jG,DW]at n o;obtain⟨s,t,k⟩:a.length<=8796093022208/\b.length<=8796093022208/\nv b*y.toNat<=nv a*x.toNat:=l;have u:=C9 i;have v:=C9 j;have w:(nc x.toNat).length<=2:=Fh ω;have z:(nc y.toNat).length<=2:=Fh ω;have A:=Pq (nv a) x.toNat;have B:=Pq (nv b) y.toNat;simp only[Mx,R0];refine⟨trivial,?_⟩;rintro⟨r,_⟩ _ c;simp only at c|-;subst c;refine⟨⟨ω,ω⟩,?_⟩;rintro⟨E,_⟩ _ g;refine⟨trivial,?_⟩;rintro⟨r,_⟩ _ c;simp only at c g|-;subst c;refine⟨⟨ω,ω⟩,?_⟩;rintro⟨F,_⟩ _ h;simp only at h|-;rw[F7]at g h;subst g h;refine⟨⟨ω,ω⟩,?_⟩;rintro⟨r,D,_⟩ _ ⟨_,f⟩;simp only at f|-;rw[F7,F7]at f;exact(f k).1
noncomputable def Qa:G2:= []
def Pe:An:= {join:= [(8,⟨[0,1,5],[0,1,2],[(7,false,vU)],[],[]⟩)],loop:= [(4,⟨[0,1,5],[0,1,2],[(7,false,vU),(8,false,vU)],[],[]⟩),(10,⟨[0,1,5,7,84,85],[0,2],[(9,false,vU),(86,false,vI)],[],[(1, .row qf 108)]⟩),(23,⟨[0,5,7,134,135],[0,2],[(9,false,vU),(136,false,vI)],[],[(1, .row qf 108)]⟩)],plan:= [(2,[3,10],[],true, .done),(3,[5,13],[],true, .done),(4,[9,18],[],true, .done)]}
def Wz:An:= {join:= [(12,⟨[4,6,7,8,9,10,35,36],[0],[],[],[(1, .row qf 108),(2, .row qf 108)]⟩)],loop:= [(8,⟨[4,6,7,8,9,10,35],[0],[(36,false,vI)],[],[(1, .row qf 108),(2, .row qf 108)]⟩)]}
noncomputable def Xn:G2:= [(196,Cf),(218,L9),(220,S5),(222,N5),(221,V7 (Lk ⟨prog,tys⟩ [(53,Qa,Pe)] f221.results.toList (f221.body.getD .skip) f221.ntmps))]
abbrev C4v:=Int×Wf×Wf×Unit
def Ht(x:Eh):Prop:=let P:=(63:Int);let G:=(2:Int);let F:=(32:Int);let K:=F.toNat;let D:=(1:Int);let s:=(0:Int);let o:=(x.2.1.length:Int);let c:Prop:=(s<=i64.wrap (o-s-D)/\i64.wrap (o-s-D)<o-s);(s<=i64.wrap (o-D)/\i64.wrap (o-D)<o)/\True/\∀(r:D8),let m:Prop:=(s<=r.1/\r.1<=31);N8 r.1/\True->r.1=F-(↑(M5 (gx s x.2.1 (i64.wrap (o-D))).toNat):Int)->(N9 x.2.1/\m)/\R0 λT=>let u:=(List.getD T.1 (s+i64.wrap (o-s-D)).toNat s);T.1.length=List.length x.2.1+1/\nv T.1=nv x.2.1*2^Int.toNat r.1->(s<=s/\s<=o/\o<=(T.1.length:Int))/\(N9 x.1/\m)/\R0 λV=>let A:=(V.1.length:Int);V.1.length=List.length x.1+1/\nv V.1=nv x.1*2^Int.toNat r.1->(s<=i64.wrap (A-o)/\i64.wrap (A-o)<=i64.wrap (A-o)/\(↑(4:Nat):Int)*i64.wrap (A-o)<=(281474976710656:Int)/\i64.wrap (A-o)<=(9223372036854775807:Int))/\∃(I:C4v->Prop),∃(a: _->Nat),I (s,V.1,List.replicate (i64.wrap (A-o)).toNat s,())/\∀(p:C4v),let M:=(p.2.1.length:Int);let n:=(i64.wrap (i64.wrap (A-o)-D)-p.1);let C:=(i64.wrap n+(o-s));let w:=(i64.wrap (i64.wrap n+o)+D);let v:=(u64.wrap (↑(BitVec.ofInt u64.bits (u64.wrap (u64.wrap (List.getD p.2.1 C.toNat s)*G^Min.min K u64.bits)) |||BitVec.ofInt u64.bits (u64.wrap (List.getD p.2.1 (i64.wrap n+i64.wrap (o-s-D)).toNat s))).toNat:Int));let l:Prop:=(p.1<i64.wrap (A-o));let h:Prop:=(s<=i64.wrap n/\i64.wrap n<(p.2.2.1.length:Int));let b:Prop:=(s<=o-s/\o-s<i64.wrap w-i64.wrap n);(Ty.int i64).wf p.1/\Hi p.2.1/\Hi p.2.2.1/\True->I p->(iB (decide l) (∃(J:Eh->Prop),((s<=i64.wrap n/\i64.wrap n<=i64.wrap w/\i64.wrap w<=M)/\b/\(0:(Ty.int u64).den)<=F/\(s<=i64.wrap (o-s-D)/\i64.wrap (o-s-D)<i64.wrap w-i64.wrap n)/\c/\u64.wrap u≠s/\c/\u64.wrap u≠s/\∃(J_1:D8->Prop),(∃(I:Cr->Prop),∃(a: _->Nat),I (u64.wrap (v.tdiv (u64.wrap u)),v.tmod (u64.wrap u),())/\∀(Q:Cr),let H:=(u64.wrap (Q.1-D),u64.wrap (Q.2.1+u64.wrap u),());let i:Prop:=((u64.wrap (Q.2.1+u64.wrap u)).fdiv (G^Min.min K u64.bits)≠s);let g:Prop:=(Int.fdiv Q.1 (G^Min.min K u64.bits)≠s);let d:Prop:=(u64.wrap (↑(BitVec.ofInt u64.bits (u64.wrap (Q.2.1*G^Min.min K u64.bits)) |||BitVec.ofInt u64.bits (u64.wrap (List.getD p.2.1 (i64.wrap n+i64.wrap (o-s-G)).toNat s))).toNat:Int)<u64.wrap (Q.1*u64.wrap (List.getD T.1 (s+i64.wrap (o-s-G)).toNat s)));(Ty.int u64).wf Q.1/\(Ty.int u64).wf Q.2.1/\True->I Q->(0:(Ty.int u64).den)<=F/\(decide g=false->s<=i64.wrap (o-s-G)/\i64.wrap (o-s-G)<o-s)/\(decide g=false->(0:(Ty.int u64).den)<=F)/\(decide g=false->s<=i64.wrap (o-s-G)/\i64.wrap (o-s-G)<i64.wrap w-i64.wrap n)/\(iB (M0 (decide g) true (decide d)) (c/\(0:(Ty.int u64).den)<=F/\(iB (decide i) (J_1 (u64.wrap (Q.1-D),())) (I H/\a H<a Q))) (J_1 (Q.1,()))))/\∀(Q:D8),(Ty.int u64).wf Q.1/\True->J_1 Q->∃(I:Sr->Prop),∃(a: _->Nat),I (s,s,p.2.1,())/\∀(R:Sr),let N:=(i64.wrap n+R.2.1);let E:=(u64.wrap (u64.wrap (Q.1*u64.wrap (List.getD T.1 (s+R.2.1).toNat s))+R.1));let z:=(u64.wrap (u64.wrap (List.getD R.2.2.1 C.toNat s)-R.1));let y:=(u64.wrap (u64.wrap (List.getD R.2.2.1 N.toNat s)-u64.wrap (u32.wrap E)));let q:=(u64.wrap (E.fdiv (G^Min.min K u64.bits)+y.fdiv (G^Min.min P.toNat u64.bits)),i64.wrap (R.2.1+D),List.set R.2.2.1 N.toNat (u32.wrap y),());let j:Prop:=(R.2.1<o-s);let f:Prop:=(z.fdiv (G^Min.min P.toNat u64.bits)=s);let d:Prop:=(s<=R.2.1/\R.2.1<i64.wrap w-i64.wrap n);(Ty.int u64).wf R.1/\(Ty.int i64).wf R.2.1/\Hi R.2.2.1/\True->I R->(iB (decide j) ((s<=R.2.1/\j)/\d/\d/\(0:(Ty.int u64).den)<=F/\(0:(Ty.int u64).den)<=P/\I q/\a q<a R) (b/\b/\(0:(Ty.int u64).den)<=P/\(iB (decide f) (h/\J (List.set R.2.2.1 C.toNat (u32.wrap z),List.set p.2.2.1 (i64.wrap n).toNat (u32.wrap Q.1),())) (∃(I:Sr->Prop),∃(a: _->Nat),I (s,s,List.set R.2.2.1 C.toNat (u32.wrap z),())/\∀(S:Sr),let O:=(i64.wrap n+S.2.1);let B:=(u64.wrap (S.1+u64.wrap (u64.wrap (List.getD S.2.2.1 O.toNat s)+u64.wrap (List.getD T.1 (s+S.2.1).toNat s))));let t:=(B.fdiv (G^Min.min K u64.bits),i64.wrap (S.2.1+D),List.set S.2.2.1 O.toNat (u32.wrap B),());let k:Prop:=(S.2.1<o-s);let e:Prop:=(s<=S.2.1/\S.2.1<i64.wrap w-i64.wrap n);(Ty.int u64).wf S.1/\(Ty.int i64).wf S.2.1/\Hi S.2.2.1/\True->I S->(iB (decide k) ((s<=S.2.1/\k)/\e/\e/\(0:(Ty.int u64).den)<=F/\I t/\a t<a S) (b/\b/\h/\J (List.set S.2.2.1 C.toNat (u32.wrap (List.getD S.2.2.1 C.toNat s+u32.wrap S.1)),List.set p.2.2.1 (i64.wrap n).toNat (u32.wrap (u64.wrap (Q.1-D))),()))))))))/\∀(Q:Eh),let L:=(i64.wrap (p.1+D),Q.1,Q.2.1,());Hi Q.1/\Hi Q.2.1/\True->J Q->I L/\a L<a p) ((s<=s/\s<=o/\o<=M)/\N9 (List.drop s.toNat (List.take o.toNat p.2.1))/\∀(U:A2h),Hi U.1/\True/\True->(r.1<s->U.1= []/\U.2.1=false)/\(s<=r.1->U.1=nc (nv (List.drop s.toNat (List.take o.toNat p.2.1))/(2:Nat)^Int.toNat r.1)/\U.2.1=true)->True/\R0 λr=>r.1=nc (nv p.2.2.1)->r.1=nc (nv x.1/nv x.2.1)/\U.1=nc (nv x.1%nv x.2.1)))
def A9r {a b:Wf} {N D S:Nat} (g:B4 a) (h:B4 b) (f:b.length=N+2) (c:dg b (N+1)≠0) (d:a.length+1=D+(N+2)):nv a*2^S<nv b*2^S*4294967296^D:=by
 have d:0<2^S:=tV δ;have f:=Um b (n:=N+1) ω;have f:4294967296^(N+1)<=nv b:=by
  have:=sQ (4294967296^(N+1)) (sZ c);omega
 have c:=Gi g;rw[(ω:a.length=(N+1)+D),vA]at c;have g:nv a<nv b*4294967296^D:=rH c (rM _ f);have c:=xA g d;rw[zN]at c;exact c
def B9x {A B S q r:Nat} (d:0<B) (c:A*2^S=q*(B*2^S)+r) (f:r<B*2^S):q=A/B/\r/2^S=A%B:=by
 have a:0<2^S:=tV δ;have b:q=A/B:=by
  rw[<-g0c A B a,c,sV q,g2t (g3n d a),uJ f,tJ]
 refine⟨b,?_⟩;have d:=wX A B;have f:r=(A%B)*2^S:=by
  have:A*2^S=(B*(A/B)+A%B)*2^S:=by rw[d]
  rw[this,b]at c;grind
 rw[f,g4d _ a]
def C1v {v:Wf} (d:B4 v) {n:Nat} (b:4294967296^n<=nv v) (c:nv v<4294967296^(n+1)):dg v n≠0:=by
 have a:0<4294967296^n:=tV δ;rw[NO d,tW (by rw[tU a,sV, <-sB];exact c)];have:=(vL a).2 (by rw[xB];exact b);omega
def A6b {u:Wf} (b:B4 u) {m i:Nat} (h:nv u<4294967296^m) (a:m<=i):dg u i=0:=by
 rw[NO b,uJ (rH h (rZ δ a))]
def eY {x y:Nat} (c:x<=4294967295) (d:y<=4294967295):u64.wrap (((BitVec.ofInt 64 (u64.wrap ((x:Int)*2^32)) |||BitVec.ofInt 64 (y:Int)).toNat:Nat):Int)=((x*4294967296+y:Nat):Int):=by
 rw[X7 (a:=(x:Int)*2^32) ω ω];have:=KQ (v:=(y:Int)) (b:=(x:Int)) (k:=32) ω ω ω ω ω;rw[this,X7 ω ω];omega
def B5k {v:Int} :Int.fdiv v (2^32)=v/4294967296:=by
 rw[sJ _ δ];rfl
def C2x {v:Int} :Int.fdiv v (2^63)=v/9223372036854775808:=by
 rw[sJ _ δ];rfl
def dI {d x:Nat} (a:d<=4294967295) (b:x<=4294967295):d*x<=18446744065119617025:=qZ (uZ a b) δ
def B3r {d v2 r a:Nat} (b:v2<=4294967295):M0 (decide ((d:Int)/4294967296≠0)) true (decide (((r*4294967296+a:Nat):Int)<u64.wrap ((d:Int)*(v2:Int))))=decide (4294967296<=d\/r*4294967296+a<d*v2):=by
 rw[H5];rcases sH d 4294967296 with h|h
 . have a:=dI (d:=d) (x:=v2) ω b;rw[<-uU,X7 ω ω];have a:decide ((d:Int)/4294967296≠0)=false:=rI ω;rw[a,wE,vT];omega
 have a:decide ((d:Int)/4294967296≠0)=true:=rF ω;rw[a,g2e];exact(rF (.inl h)).symm
def B3o {d x c y:Nat} (i:d<=4294967295) (j:x<=4294967295) (h:c<=d) (n:y<=4294967295):∃b f:Nat,
 u64.wrap (Int.fdiv (u64.wrap (u64.wrap ((d:Int)*(x:Int))+(c:Int))) (2^32)+Int.fdiv (u64.wrap ((y:Int)-u64.wrap (u32.wrap (u64.wrap (u64.wrap ((d:Int)*(x:Int))+(c:Int)))))) (2^63))=(b:Int)/\
 u32.wrap (u64.wrap ((y:Int)-u64.wrap (u32.wrap (u64.wrap (u64.wrap ((d:Int)*(x:Int))+(c:Int))))))=(f:Int)/\b<=d/\y+4294967296*b=f+(d*x+c):=by
 have l:=dI i j;obtain⟨k,g⟩:=A9b (D:=d) (v:=x) (c:=c) (t:=y) ω ω h;rw[<-uU,X7 (a:=((d*x:Nat):Int)) ω ω];generalize d*x=p at*;rw[X7 (a:=(p:Int)+(c:Int)) ω ω,Co,X7 (a:=((p:Int)+(c:Int))%4294967296) ω ω,B5k,C2x,Cp ((y:Int)-_),Co];refine⟨(p+c)/4294967296+(if y<(p+c)%4294967296 then 1 else 0),if y<(p+c)%4294967296 then y+4294967296-(p+c)%4294967296 else y-(p+c)%4294967296,?_,?_,g,?_⟩
 . rw[X7 ω ω];split<;>omega
 . split<;>omega
 split<;>omega
def B1j {U P V d:Nat} (a:0<P) (b:0<V) (h:P*(d*V)<=U):d<=U/P/V:=by
 rw[vL b,vL a,sV];exact h
def C1e {U P V d:Nat} (a:0<P) (b:0<V) (h:U<P*(d*V)):U/P/V<d:=by
 rw[tU b,tU a,sV];exact h
def cG {U0 U W V P d q a:Nat} (g:U0=q*V+U) (f:W+P*(d*V)=U) (i:a=q+P*d) (b:0<P) (c:0<V) (k:U/P/V=d):U0=a*V+W/\W<V*P:=by
 refine⟨by subst i;rw[g, <-f];grind,?_⟩;have j:¬(P*((d+1)*V)<=U):=λh=>by have:=B1j b c h;omega
 have e:P*((d+1)*V)=P*(d*V)+V*P:=by grind
 omega
def B8t {q:Wf} (f:B4 q) {Q j d:Nat} (a:nv q=Q*4294967296^(j+1)) (b:j<q.length):nv (q.set j (d:Int))=nv q+4294967296^j*d/\nv (q.set j (d:Int))=(Q*4294967296+d)*4294967296^j:=by
 have c:0<4294967296^j:=tV δ;have h:=Js (l:=q) (k:=j) (v:=(d:Int)) b;rw[qO]at h;have b:dg q j=0:=by
  rw[NO f,a,sB,sV (4294967296^j), <-sM,g4d _ c,Nat.mul_mod_left]
 rw[b,wP,tJ]at h;refine⟨h,?_⟩;rw[h,a,sB];grind
def A8o {x c y:Nat} (g:x<=4294967295) (f:c<=1) (h:y<=4294967295):∃b d:Nat,
 Int.fdiv (u64.wrap ((c:Int)+u64.wrap ((y:Int)+(x:Int)))) (2^32)=(b:Int)/\
 u32.wrap (u64.wrap ((c:Int)+u64.wrap ((y:Int)+(x:Int))))=(d:Int)/\b<=1/\d+4294967296*b=c+(y+x):=by
 rw[X7 (a:=(y:Int)+(x:Int)) ω ω,X7 (a:=(c:Int)+((y:Int)+(x:Int))) ω ω,B5k,Co];exact⟨(c+(y+x))/4294967296,(c+(y+x))%4294967296,ω,ω,ω,ω⟩
def Qg:sr R5 Ht:=λx bu cm=>by
 obtain⟨a,b,_⟩:=x;have cd:B4 a:=A5 bu.1.2;have I:B4 b:=A5 bu.2.1.2;change Wf at a b;obtain⟨ds,db,di,bp⟩:a.length<=17592186044416/\2<=b.length/\b.length<=a.length/\Mo b:=cm;obtain⟨N,bg⟩:∃N,b.length=N+2:=⟨b.length-2,ω⟩;have a9:=PF I bp;rw[(ω:b.length-1=N+1)]at a9;simp only[Ht,iB,R0,Int.sub_zero,Int.zero_add];rw[wv (a:=(b.length:Int)-1) ω,wv (a:=(b.length:Int)-2) ω,Fs I ω ω,(ω:((b.length:Int)-1).toNat=N+1),(ω:((b.length:Int)-2).toNat=N)];refine⟨⟨ω,ω⟩,trivial,?_⟩;rintro⟨(s:Int),_⟩ _ bn;simp only at bn|-;rw[qO]at bn;have dk:=O0 I (N+1);have dh:=UZ (v:=dg b (N+1)) ω;have df:=(CE a9).2;refine⟨⟨by show b.length<= _;omega,ω,ω⟩,?_⟩;rintro⟨v,_⟩ ⟨cu,_⟩ ⟨bt,R⟩;refine⟨⟨qH _,ω,by simp only at bt|-;omega⟩,⟨by show a.length<= _;omega,ω,ω⟩,?_⟩;rintro⟨f,_⟩ ⟨cs,_⟩ ⟨cp,ax⟩;have t:B4 v:=A5 cu.2;have dr:B4 f:=A5 cs.2;change Wf at v f;simp only at bt R cp ax|-;have Z:nv v<4294967296^(N+2):=by
  rw[R];exact A3o I (n:=N+1) ω (s:=s.toNat) ω
 have bh:4294967296^(N+1)<=nv v:=by
  have z:=Um b (n:=N+1) ω;have bf:4294967296^(N+1)<=nv b:=by
   have:=sQ (4294967296^(N+1)) (sZ a9);omega
  rw[R];exact qZ bf (zP _ (tV δ))
 have bq:=C1v t bh Z;have a0:0<nv v:=rH (tV δ) bh;obtain⟨D,dc⟩:∃D,f.length=D+(N+2):=⟨f.length-(N+2),ω⟩;have bo:=A9r (S:=s.toNat) cd I bg a9 (D:=D) ω;rw[<-ax, <-R]at bo;rw[wv (a:=(f.length:Int)-(b.length:Int)) ω,(ω:(f.length:Int)-(b.length:Int)=(D:Int))];have dd:1<=D:=ω
 refine⟨⟨ω,qH _,ω,ω⟩,?_⟩;refine⟨λp=>0<=p.1/\p.1<=(D:Int)/\p.2.1.length=f.length/\p.2.2.1.length=D/\nv f=nv p.2.2.1*nv v+nv p.2.1/\nv p.2.1<nv v*4294967296^((D:Int)-p.1).toNat/\∃Q,nv p.2.2.1=Q*4294967296^((D:Int)-p.1).toNat,λp=>((D:Int)-p.1).toNat,⟨qH _,qF _,rfl,by simp,?_,?_,0,?_⟩,?_⟩
 . show nv f=nv (List.replicate _ 0)*nv v+nv f;rw[Re];omega
 . show nv f<nv v*4294967296^((D:Int)-0).toNat;rw[(ω:((D:Int)-0).toNat=D)];exact bo
 . show nv (List.replicate _ 0)= _;rw[Re];omega
 rintro⟨(k:Int),u,q,_⟩ ⟨_,ct,cr,_⟩ ⟨d0,d1,c5,b4,aa,J,Q,a8⟩;have F:B4 u:=A5 ct.2;have bm:B4 q:=A5 cr.2;change Wf at u q;simp only at d0 d1 c5 b4 aa J a8|-;refine⟨λa1=>?_,λa1=>?_⟩
 . have a1:=qA a1;obtain⟨j,cg⟩:∃j:Nat,(D:Int)-1-k=(j:Int):=⟨((D:Int)-1-k).toNat,ω⟩;rw[(ω:((D:Int)-k).toNat=j+1)]at J a8;rw[wv (a:=(D:Int)-1) ω,cg,wv (a:=(j:Int)) ω,wv (a:=(j:Int)+(b.length:Int)) ω,wv (a:=(j:Int)+(b.length:Int)+1) ω,wv (a:=k+1) ω];rw[(ω:((j:Int)+(b.length:Int)).toNat=j+N+2),(ω:((j:Int)+((b.length:Int)-1)).toNat=j+N+1),(ω:((j:Int)+((b.length:Int)-2)).toNat=j+N)];have dp:j+1<=D:=ω
   have a4:=C2t F t (j:=j) (n:=N) ω Z bq ω J;have dw:=O0 t (N+1);have d5:=O0 t N;have d7:=O0 F (j+N+2);have d8:=O0 F (j+N+1);have d9:=O0 F (j+N);have Y:0<4294967296^j:=tV δ;refine⟨λp=>p.1.length=f.length/\p.2.1.length=D/\nv f=nv p.2.1*nv v+nv p.1/\nv p.1<nv v*4294967296^j/\∃Q,nv p.2.1=Q*4294967296^j,?_,?_⟩
   . rw[Y7 t,Y7 t,Y7 F,Y7 F,Y7 F];rw[X7 (a:=(dg v (N+1):Int)) ω ω,X7 (a:=(dg v N:Int)) ω ω,X7 (a:=(dg u (j+N+2):Int)) ω ω,X7 (a:=(dg u (j+N+1):Int)) ω ω,X7 (a:=(dg u (j+N):Int)) ω ω];rw[show Min.min (Int.toNat 32) u64.bits=32 from rfl,show Min.min (Int.toNat 63) u64.bits=63 from rfl,show u64.bits=64 from rfl,eY d7 d8];refine⟨⟨ω,ω,ω⟩,⟨ω,ω⟩,δ,⟨ω,ω⟩,⟨ω,ω⟩,ω,⟨ω,ω⟩,ω,?_⟩;have ao:=a4.est;have ab:= @aG.near _ _ _ _ _ _ _ a4;have an:= @aG.dec _ _ _ _ _ _ _ a4;have ar:= @aG.out _ _ _ _ _ _ _ a4;generalize ca:nv u/4294967296^j/nv v=QS at ao ab an ar|-;refine⟨λp=>QS<=p.1.toNat/\p.1.toNat<=QS+1/\0<=p.1/\p.1<4294967296,?_,?_⟩
     . refine⟨λp=>∃d r:Nat,p.1=(d:Int)/\p.2.1=(r:Int)/\dg u (j+N+2)*4294967296+dg u (j+N+1)=d*dg v (N+1)+r/\QS<=d/\r<4294967296,λp=>p.1.toNat,?_,?_⟩
       . have bs:0<dg v (N+1):=sZ bq;have ch:=(vL bs).2 ao;have o:=wH (dg u (j+N+2)*4294967296+dg u (j+N+1)) bs;have ce:=wX (dg u (j+N+2)*4294967296+dg u (j+N+1)) (dg v (N+1));have dm:=wY (dg u (j+N+2)*4294967296+dg u (j+N+1)) (dg v (N+1));have de:dg u (j+N+2)*4294967296+dg u (j+N+1)<=18446744073709551615:=ω
         refine⟨(dg u (j+N+2)*4294967296+dg u (j+N+1))/dg v (N+1),(dg u (j+N+2)*4294967296+dg u (j+N+1))%dg v (N+1),?_,rfl,?_,ch,ω⟩
         . show u64.wrap (Int.tdiv _ _)= _;have e:Int.tdiv ((dg u (j+N+2)*4294967296+dg u (j+N+1):Nat):Int) ((dg v (N+1):Nat):Int)=(((dg u (j+N+2)*4294967296+dg u (j+N+1))/dg v (N+1):Nat):Int):=rfl;rw[e];generalize (dg u (j+N+2)*4294967296+dg u (j+N+1))/dg v (N+1)=ba at*;exact X7 ω ω
         have:=ce.symm;rw[sV (dg v (N+1))]at this;exact this
       rintro⟨(aj:Int),(d4:Int),_⟩ ⟨bk,_⟩ ⟨d,r,z,G,au,cn,dq⟩;simp only at z G bk|-;subst z G;have dj:(d:Int)<=18446744073709551615:=by have:=bk.2;rw[DW]at this;exact this
       rw[B5k,B5k,eY (x:=r) ω d9,B3r d5];refine⟨δ,λ_=>⟨ω,ω⟩,λ_=>δ,λ_=>⟨ω,ω⟩,λE=>?_,λE=>?_⟩
       . have E:=qA E;have dn:=an au cn E;rw[X7 (a:=(r:Int)+(dg v (N+1):Int)) ω ω,X7 (a:=(d:Int)-1) ω ω];obtain⟨e,rfl⟩:∃e,d=e+1:=⟨d-1,ω⟩;have av:dg u (j+N+2)*4294967296+dg u (j+N+1)=e*dg v (N+1)+(r+dg v (N+1)):=by rw[au,uX,xB];omega
         refine⟨⟨ω,ω⟩,δ,λX=>?_,λX=>?_⟩
         . have X:=qA X;obtain⟨d2,d3⟩:=ar av ω ω;have c4:=ab av d2 d3;have be:(((e+1:Nat):Int)-1).toNat=e:=ω
           refine⟨?_,?_,?_,?_⟩
           . show _ <=(((e+1:Nat):Int)-1).toNat;rw[be];omega
           . show(((e+1:Nat):Int)-1).toNat<= _;rw[be];exact c4
           . show(0:Int)<=((e+1:Nat):Int)-1;omega
           show((e+1:Nat):Int)-1< _;omega
         have X:(((r:Int)+(dg v (N+1):Int))/4294967296)=0:=g3c (qB X);refine⟨⟨e,r+dg v (N+1),ω,ω,av,ω,ω⟩,ω⟩
       have E:=qB E;have c4:=ab au ω ω;exact⟨by show _ <=(d:Int).toNat;omega,by show(d:Int).toNat<= _;omega,qF _,by show(d:Int)< _;omega⟩
     rintro⟨(aj:Int),_⟩ _ ⟨bb,ai,bc,c6⟩;simp only at bb ai bc c6|-;obtain⟨d,rfl⟩:=uM bc;rw[qO]at bb ai;clear ao ab an ar;refine⟨λp=>∃c i:Nat,p.1=(c:Int)/\p.2.1=(i:Int)/\i<=N+2/\c<=d/\p.2.2.1.length=f.length/\nv p.2.2.1+4294967296^j*(d*nv (v.take i))=nv u+4294967296^(j+i)*c/\∀m,j+i<=m->dg p.2.2.1 m=dg u m,λp=>((N:Int)+2-p.2.1).toNat,⟨0,0,rfl,rfl,ω,ω,c5,by simp[nv],λ_ _=>rfl⟩,?_⟩;rintro⟨(ah:Int),(ay:Int),w,_⟩ ⟨_,_,cv,_⟩ ⟨c,i,z,G,ap,E,ae,a5,a7⟩;have ac:B4 w:=A5 cv.2;change Wf at w;simp only at z G ap E ae a5 a7|-;subst z G;refine⟨λg=>?_,λg=>?_⟩
     . have g:(i:Int)<(b.length:Int):=qA g;have b8:=O0 t i;have af:=O0 ac (j+i);rw[show((i:Int)).toNat=i from qO _,(ω:((j:Int)+(i:Int)).toNat=j+i),Y7 t,Y7 ac,X7 (a:=(dg v i:Int)) ω ω,X7 (a:=(dg w (j+i):Int)) ω ω,wv (a:=(i:Int)+1) ω];obtain⟨ag,b5,b0,b1,b2,b3⟩:=B3o (d:=d) (x:=dg v i) (c:=c) (y:=dg w (j+i)) ω b8 E af;rw[b0,b1];refine⟨⟨ω,g⟩,⟨ω,ω⟩,⟨ω,ω⟩,δ,δ,⟨ag,i+1,rfl,ω,ω,b2,by rw[qW];exact ae,?_,?_⟩,ω⟩
       . have O:=Js (l:=w) (k:=j+i) (v:=(b5:Int)) ω;rw[qO]at O;rw[J5,(ω:j+(i+1)=(j+i)+1),sB _ (j+i)];exact A7l a5 O b3 (vA ..)
       intro m o;rw[Yp ω,qL ω];exact a7 m ω
     have g:=qB g;have aq:i=N+2:=ω
     subst aq;rw[Ix t,tW Z]at a5;have aw:=a7 (j+N+2) ω;rw[Y7 ac,aw,X7 (a:=(dg u (j+N+2):Int)) ω ω,C2x,show((j:Int)).toNat=j from qO _];have cj:nv u<4294967296^(j+N+3):=by
      refine rH J ?_;have e:4294967296^(j+N+3)=4294967296^(N+2)*4294967296^(j+1):=by rw[<-vA];congr 1;omega
      rw[e];exact rM _ (wG Z)
     rw[(ω:j+(N+2)=j+N+2)]at a5;refine⟨⟨ω,ω⟩,⟨ω,ω⟩,δ,λH=>?_,λH=>?_⟩
     . have H:=qA H;have bj:c<=dg u (j+N+2):=by rw[Cp]at H;omega
       rw[X7 (a:=(dg u (j+N+2):Int)-(c:Int)) ω ω,w32 (a:=(dg u (j+N+2):Int)-(c:Int)) ω ω,w32 (a:=(d:Int)) ω ω];have O:=Js (l:=w) (k:=j+N+2) (v:=(dg u (j+N+2):Int)-(c:Int)) ω;rw[aw,(ω:((dg u (j+N+2):Int)-(c:Int)).toNat=dg u (j+N+2)-c),Nat.mul_sub]at O;have bi:=sQ (4294967296^(j+N+2)) bj;have am:nv (w.set (j+N+2) ((dg u (j+N+2):Int)-(c:Int)))+4294967296^j*(d*nv v)=nv u:=ω
       have cf:=B1j Y a0 (U:=nv u) (d:=d) ω;obtain⟨b6,b7⟩:=B8t bm (d:=d) a8 ω;obtain⟨T,W⟩:=cG aa am b6 Y a0 ω;exact⟨⟨ω,ω⟩,by show(List.set _ _ _).length= _;rw[qW];exact ae,by show(List.set _ _ _).length= _;rw[qW];exact b4,T,W,_,b7⟩
     have H:=qB H;have bj:dg u (j+N+2)<c:=by rw[Cp]at H;omega
     have c8:u32.wrap (u64.wrap ((dg u (j+N+2):Int)-(c:Int)))=((dg u (j+N+2)+4294967296-c:Nat):Int):=by
      rw[Cp,Co];omega
     rw[c8];have O:=Js (l:=w) (k:=j+N+2) (v:=((dg u (j+N+2)+4294967296-c:Nat):Int)) ω;rw[aw,qO,Nat.mul_sub,tC]at O;have bi:=sQ (4294967296^(j+N+2)) (ω:c<=dg u (j+N+2)+4294967296);rw[tC]at bi;have d6:B4 (w.set (j+N+2) ((dg u (j+N+2)+4294967296-c:Nat):Int)):=dC ac (by show 0<= _ /\ _ <= _;omega);have bw:∀m,j+N+3<=m->dg (w.set (j+N+2) ((dg u (j+N+2)+4294967296-c:Nat):Int)) m=0:=λm o=>by
      rw[Yp ω,qL ω,a7 m ω];exact A6b F cj o
     have ci:(w.set (j+N+2) ((dg u (j+N+2)+4294967296-c:Nat):Int)).length=f.length:=by rw[qW];exact ae
     generalize w.set (j+N+2) ((dg u (j+N+2)+4294967296-c:Nat):Int)=ad at*;have cc:nv ad+4294967296^j*(d*nv v)=nv u+4294967296^(j+N+2)*4294967296:=ω
     have cq:nv ad<4294967296^(j+N+2)*4294967296:=by
      have bf:=V2 d6 (j+N+3);rw[QE bw, <-C3s (j+N)]at bf;exact bf
     have cf:=C1e Y a0 (U:=nv u) (d:=d) ω;obtain⟨e,rfl⟩:∃e,d=e+1:=⟨d-1,ω⟩;refine⟨λp=>∃c i:Nat,p.1=(c:Int)/\p.2.1=(i:Int)/\i<=N+2/\c<=1/\p.2.2.1.length=f.length/\nv p.2.2.1+4294967296^(j+i)*c=nv ad+4294967296^j*nv (v.take i)/\∀m,j+i<=m->dg p.2.2.1 m=dg ad m,λp=>((N:Int)+2-p.2.1).toNat,⟨0,0,rfl,rfl,ω,ω,ci,by simp[nv],λ_ _=>rfl⟩,?_⟩;rintro⟨(ah:Int),(ay:Int),y,_⟩ ⟨_,_,cw,_⟩ ⟨h,i,z,G,ap,bl,b9,a6,ak⟩;have a3:B4 y:=A5 cw.2;change Wf at y;simp only at z G ap bl b9 a6 ak|-;subst z G;refine⟨λg=>?_,λg=>?_⟩
     . have g:(i:Int)<(b.length:Int):=qA g;have b8:=O0 t i;have af:=O0 a3 (j+i);rw[show((i:Int)).toNat=i from qO _,(ω:((j:Int)+(i:Int)).toNat=j+i),Y7 t,Y7 a3,X7 (a:=(dg v i:Int)) ω ω,X7 (a:=(dg y (j+i):Int)) ω ω,wv (a:=(i:Int)+1) ω];obtain⟨ag,b5,b0,b1,b2,b3⟩:=A8o (x:=dg v i) (c:=h) (y:=dg y (j+i)) b8 bl af;rw[b0,b1];refine⟨⟨ω,g⟩,⟨ω,ω⟩,⟨ω,ω⟩,δ,⟨ag,i+1,rfl,ω,ω,b2,by rw[qW];exact b9,?_,?_⟩,ω⟩
       . have a2:=Js (l:=y) (k:=j+i) (v:=(b5:Int)) ω;rw[qO]at a2;rw[J5,(ω:j+(i+1)=(j+i)+1),sB _ (j+i)];exact A5c a6 a2 b3 (vA ..)
       intro m o;rw[Yp ω,qL ω];exact ak m ω
     have g:=qB g;have aq:i=N+2:=ω
     subst aq;rw[Ix t,tW Z,(ω:j+(N+2)=j+N+2)]at a6;have af:=O0 a3 (j+N+2);have c9:u32.wrap ((dg y (j+N+2):Int)+u32.wrap (h:Int))=(((dg y (j+N+2)+h)%4294967296:Nat):Int):=by
      rw[w32 (a:=(h:Int)) ω ω,Co];omega
     have c7:u32.wrap (u64.wrap (((e+1:Nat):Int)-1))=(e:Int):=by
      rw[X7 ω ω,w32 ω ω];omega
     rw[Y7 a3,c9,c7];have a2:=Js (l:=y) (k:=j+N+2) (v:=(((dg y (j+N+2)+h)%4294967296:Nat):Int)) ω;rw[qO]at a2;obtain⟨az,ck,cl⟩:∃az,dg y (j+N+2)+h=(dg y (j+N+2)+h)%4294967296+4294967296*az/\az<=1:=⟨(dg y (j+N+2)+h)/4294967296,ω,ω⟩;have da:B4 (y.set (j+N+2) (((dg y (j+N+2)+h)%4294967296:Nat):Int)):=dC a3 (by show 0<= _ /\ _ <= _;omega);have cx:∀m,j+N+3<=m->dg (y.set (j+N+2) (((dg y (j+N+2)+h)%4294967296:Nat):Int)) m=0:=λm o=>by
      rw[Yp ω,qL ω,ak m ω];exact bw m o
     have cy:(y.set (j+N+2) (((dg y (j+N+2)+h)%4294967296:Nat):Int)).length=f.length:=by rw[qW];exact b9
     generalize y.set (j+N+2) (((dg y (j+N+2)+h)%4294967296:Nat):Int)=ba at*;have cz:nv ba<4294967296^(j+N+2)*4294967296:=by
      have bf:=V2 da (j+N+3);rw[QE cx, <-C3s (j+N)]at bf;exact bf
     obtain⟨cb,am⟩:=A8t (U:=nv u) (P:=4294967296^j) (V:=nv v) (e:=e) (M:=4294967296^(j+N+2)) Y a0 cc cq (by rw[ca];exact ai) a6 a2 ck cl cz;obtain⟨b6,b7⟩:=B8t bm (d:=e) a8 ω;obtain⟨T,W⟩:=cG aa am b6 Y a0 cb;exact⟨⟨ω,ω⟩,⟨ω,ω⟩,⟨ω,ω⟩,cy,by show(List.set _ _ _).length= _;rw[qW];exact b4,T,W,_,b7⟩
   rintro⟨dv,du,_⟩ _ ⟨bx,bz,c0,c2,Q',c3⟩;simp only at bx bz c0 c2 c3|-;rw[(ω:((D:Int)-(k+1)).toNat=j)];exact⟨⟨ω,ω,bx,bz,c0,c2,Q',c3⟩,ω⟩
 have a1:=qB a1;rw[(ω:((D:Int)-k).toNat=0),g2m,xP]at J;have co:0<=s:=ω
 obtain⟨T,W⟩:=B9x (A:=nv a) (B:=nv b) (S:=s.toNat) (q:=nv q) (r:=nv u) (sZ (YS I bp)) (by rw[<-ax, <-R];exact aa) (by rw[<-R];exact J);refine⟨⟨qH _,ω,ω⟩,?_,?_⟩
 . show(List.drop _ (List.take _ _)).length<= _;rw[sL,qY];omega
 rintro⟨m,dt,_⟩ _ o;refine⟨trivial,?_⟩;rintro⟨ba,_⟩ _ bv;simp only at o bv|-;have o:=(o.2 co).1;rw[show(Int.toNat 0)=0 from rfl,tO,show((b.length:Int)).toNat=b.length from qO _,Ix F,bg,tW ω,W]at o;exact⟨by rw[bv,T],o⟩
def JG:An:= {plan:= [(8,[],[],true, .done)]}
def UO:An:= {join:= [(4,⟨[],[],[(0,false,[.val qa]),(1,false,[.val qa])],[],[]⟩)],loop:= [(7,⟨[],[],[(5,false,vU),(6,false,vU)],[],[]⟩),(4,⟨[],[],[(0,false,[.val qa]),(1,false,[.val qa])],[],[]⟩)],plan:= [(8,[],[],true, .done),(15,[2,5,9,12],[],true, .done),(16,[2,5,9,12],[],true, .done)]}
def Oq(x:Eh):Prop:=let e:=(0:Nat);let d:=(nv x.1%nv x.2.1);let c:=(nv x.1/nv x.2.1);let b:=(0:Int);True/\R0 λr=>let f:Prop:=((r.1.length:Int)<=(2:Int));r.1=nc (nv x.1)->True/\R0 λh=>let a:=(h.1.length:Int);h.1=nc (nv x.2.1)->(iB (decide (a=b)) ((nv x.2.1=e->Ps Int= []/\Ps Int= []/\false=false)/\(nv x.2.1≠e->Ps Int=nc c/\Ps Int=nc d/\false=true)) (True/\Ef λk=>k.1=Da (nv r.1) (nv h.1)->(iB (decide (k.1<b)) (Hh r.1/\R0 λg=>g.1=nc (nv r.1)->(nv x.2.1=e->Ps Int= []/\g.1= []/\true=false)/\(nv x.2.1≠e->Ps Int=nc c/\g.1=nc d/\true=true)) ((iB (decide f) (List.length r.1<=2/\rT7 λg=>g.1=(↑(nv r.1):Int)->List.length h.1<=2/\rT7 λr=>r.1=(↑(nv h.1):Int)->r.1≠b/\r.1≠b/\True/\R0 λi=>i.1=nc (u64.wrap (Int.tdiv g.1 r.1)).toNat->True/\R0 λj=>j.1=nc (Int.tmod g.1 r.1).toNat->(nv x.2.1=e->i.1= []/\j.1= []/\true=false)/\(nv x.2.1≠e->i.1=nc c/\j.1=nc d/\true=true)) ((iB (decide (a=(1:Int))) ((b<=b/\b<a)/\(N9 r.1/\gx b h.1 b≠b)/\∀(g:Eh),Hi g.1/\Hi g.2.1/\True->g.1=nc (nv r.1/(gx b h.1 b).toNat)/\g.2.1=nc (nv r.1%(gx b h.1 b).toNat)->(nv x.2.1=e->g.1= []/\g.2.1= []/\true=false)/\(nv x.2.1≠e->g.1=nc c/\g.2.1=nc d/\true=true)) ((N9 r.1/\(2:Nat)<=List.length h.1/\List.length h.1<=List.length r.1/\Mo h.1)/\∀(g:Eh),Hi g.1/\Hi g.2.1/\True->g.1=nc (nv r.1/nv h.1)/\g.2.1=nc (nv r.1%nv h.1)->(nv x.2.1=e->g.1= []/\g.2.1= []/\true=false)/\(nv x.2.1≠e->g.1=nc c/\g.2.1=nc d/\true=true)))))))))
def BA(x:Eh):Prop:=let e:=(nv x.2.1);let c:=(0:Int);True/\R0 λr=>r.1=nc (nv x.1)->True/\R0 λj=>j.1=nc e->∃(J:Eh->Prop),(True/\Ef λh=>h.1=Da (nv r.1) (nv j.1)->(iB (decide (h.1<c)) (J (j.1,r)) (J (r.1,j))))/\∀(p:Eh),(Ty.int u32).sl.wf p.1/\(Ty.int u32).sl.wf p.2.1/\True->J p->∃(I:Eh->Prop),∃(a: _->Nat),I (p.1,p.2.1,())/\∀(p:Eh),let g:=(↑(nv p.2.1):Int);let d:Prop:=((p.1.length:Int)<=(2:Int));let b:Prop:=(c<(p.2.1.length:Int));(Ty.int u32).sl.wf p.1/\(Ty.int u32).sl.wf p.2.1/\True->I p->(iB (decide b) ((iB (decide d) (List.length p.1<=2/\rT7 λr=>r.1=(↑(nv p.1):Int)->List.length p.2.1<=2/\rT7 λh=>h.1=g->∃(I:Cr->Prop),∃(a: _->Nat),I (r.1,h)/\∀(p:Cr),let d:=(p.2.1,Int.tmod p.1 p.2.1,());(Ty.int u64).wf p.1/\(Ty.int u64).wf p.2.1/\True->I p->(iB (decide (p.2.1≠c)) (p.2.1≠c/\I d/\a d<a p) (True/\R0 λr=>r.1=nc p.1.toNat->r.1=nc ((nv x.1).gcd e)))) ((N9 p.1/\(3:Nat)<=List.length p.1/\Mo p.1/\nv p.2.1<=nv p.1/\List.length p.2.1<=List.length p.1)/\∀(r:(Int×Int×Int×Int×Bool)×Unit),(IW r.1.1/\IW r.1.2.1/\IW r.1.2.2.1/\IW r.1.2.2.2.1/\True)/\True->C0p (↑(nv p.1):Int) g r.1.1 r.1.2.1 r.1.2.2.1 r.1.2.2.2.1 r.1.2.2.2.2->(iB (decide (r.1.2.2.1=c)) (N9 p.1/\∀(r:B3w),let f:=(p.2.1,r.2.1,());Hi r.1/\Hi r.2.1/\True/\True->(nv p.2.1=0->r.1= []/\r.2.1= []/\r.2.2.1=false)/\(nv p.2.1≠0->r.1=nc (nv p.1/nv p.2.1)/\r.2.1=nc (nv p.1%nv p.2.1)/\r.2.2.1=true)->I f/\a f<a p) ((iB r.1.2.2.2.2 ((Ga p.1/\Ga p.2.1/\nv p.2.1*Int.toNat r.1.2.2.1<=nv p.1*Int.toNat r.1.1)/\R0 λh=>h.1=nc (nv p.1*Int.toNat r.1.1-nv p.2.1*Int.toNat r.1.2.2.1)->(Ga p.2.1/\Ga p.1/\nv p.1*Int.toNat r.1.2.1<=nv p.2.1*Int.toNat r.1.2.2.2.1)/\R0 λi=>i.1=nc (nv p.2.1*Int.toNat r.1.2.2.2.1-nv p.1*Int.toNat r.1.2.1)->I (h.1,i)/\a (h.1,i)<a p) ((Ga p.2.1/\Ga p.1/\nv p.1*Int.toNat r.1.1<=nv p.2.1*Int.toNat r.1.2.2.1)/\R0 λh=>h.1=nc (nv p.2.1*Int.toNat r.1.2.2.1-nv p.1*Int.toNat r.1.1)->(Ga p.1/\Ga p.2.1/\nv p.2.1*Int.toNat r.1.2.2.2.1<=nv p.1*Int.toNat r.1.2.1)/\R0 λi=>i.1=nc (nv p.1*Int.toNat r.1.2.1-nv p.2.1*Int.toNat r.1.2.2.2.1)->I (h.1,i)/\a (h.1,i)<a p))))))) (Hh p.1/\R0 λr=>r.1=nc (nv p.1)->r.1=nc ((nv x.1).gcd e)))
def AZ:sr Af Oq:=λx I R=>by
 obtain⟨a,b,_⟩:=x;have O:B4 a:=A5 I.1.2;have Y:B4 b:=A5 I.2.1.2;change Wf at a b;have B:a.length<=17592186044416:=R;have W:=C9 O;simp only[Oq,iB,Ef,R0,rT7];refine⟨trivial,?_⟩;rintro⟨y,_⟩ _ r;refine⟨trivial,?_⟩;rintro⟨s,_⟩ _ j;simp only at r j|-;have t:nv y=nv a:=by rw[r,F7]
 have u:nv s=nv b:=by rw[j,F7]
 have A:y.length<=a.length:=by rw[r];exact W
 have a1:B4 y:=r▸K8 _;have T:B4 s:=j▸K8 _;refine⟨λh=>?_,λh=>?_⟩
 . have h:=qA h;have c:nv b=0:=by rw[<-u,qM (l:=s) ω];rfl
   exact⟨λ_=>⟨by trivial,by trivial,by trivial⟩,λf=>absurd c f⟩
 have h:=qB h;have o:nv b≠0:=λc=>h (by rw[j,c,Q9];rfl)
 refine⟨trivial,?_⟩;rintro⟨X,_⟩ _ g;simp only at g|-;rw[t,u]at g;refine⟨λh=>?_,λh=>?_⟩
 . have h:=qA h;have E:nv a<nv b:=by
    rcases sH (nv a) (nv b)with f|f
    . exact f
    unfold Da at g;rw[qL ω]at g;split at g<;>omega
   refine⟨qZ A (qZ B δ),?_⟩;rintro⟨a3,_⟩ _ H;simp only at H|-;refine⟨λc=>absurd c o,λ_=>⟨?_,?_,by trivial⟩⟩
   . rw[uJ E,Q9]
   rw[tW E,H,t]
 have h:=qB h;have P:nv b<=nv a:=by
  rcases sH (nv a) (nv b)with f|f
  . rw[Nu f]at g;omega
  exact f
 have U:s.length<=y.length:=by rw[r,j];exact K4 P
 refine⟨λk=>?_,λk=>?_⟩
 . have k:=qA k;refine⟨ω,?_⟩;rintro⟨x,_⟩ ⟨J,_⟩ v;refine⟨ω,?_⟩;rintro⟨D,_⟩ ⟨V,_⟩ w;change Int at x D;simp only at J V v w|-;rw[t]at v;rw[u]at w;have a2:x<=18446744073709551615:=by have:=J.2;rw[DW]at this;exact this
   have M:Int.tdiv x D=((nv a/nv b:Nat):Int):=by rw[v,w];rfl
   have N:Int.tmod x D=((nv a%nv b:Nat):Int):=by rw[v,w];rfl
   have a0:nv a/nv b<=nv a:=wY _ _;refine⟨ω,ω,trivial,?_⟩;rintro⟨q,_⟩ _ G;refine⟨trivial,?_⟩;rintro⟨m,_⟩ _ F;simp only at G F|-;refine⟨λc=>absurd c o,λ_=>⟨?_,?_,by trivial⟩⟩
   . rw[G,M];generalize nv a/nv b=Q at*;rw[X7 ω ω];rfl
   rw[F,N];rfl
 have k:=qB k;refine⟨λn=>?_,λn=>?_⟩
 . have n:=qA n;have e:(gx (0:Int) s (0:Int)).toNat=nv b:=by
    rw[<-u];obtain⟨z,rfl⟩:∃z,s= [z]:=g2j.1 ω;show z.toNat=z.toNat+4294967296*0;omega
   have Z:=Uf T (i:=0) (qH _) ω;refine⟨⟨qH _,ω⟩,⟨qZ A B,ω⟩,?_⟩;rintro⟨q,m,_⟩ _ d;simp only at d|-;rw[e,t]at d;exact⟨λc=>absurd c o,λ_=>⟨d.1,d.2,by trivial⟩⟩
 have n:=qB n;refine⟨⟨qZ A B,ω,U,by rw[j];exact dJ o⟩,?_⟩;rintro⟨q,m,_⟩ _ d;simp only at d|-;rw[t,u]at d;exact⟨λc=>absurd c o,λ_=>⟨d.1,d.2,by trivial⟩⟩
structure jW (A B A' B':Nat):Prop where
 g:Nat.gcd A' B'=Nat.gcd A B
 le:B'<=A'
 lt:A'+B'<A+B
 top:A'<=A
def A5z {A B:Nat} (h:B<=A) (a:0<B):jW A B B (A%B) where
 g:=by rw[wZ A B,wZ B];exact(g3m B A).symm
 le:=wG (wH _ a)
 lt:=by have:=wH A a;omega
 top:=h
def A6h {A B:Nat} {u0 u1 v0 v1:Int} {ev:Bool} (I:0<B) (h:C0p A B u0 u1 v0 v1 ev) (r:v0≠0):
 (ev=true->B*v0.toNat<=A*u0.toNat/\A*u1.toNat<=B*v1.toNat/\jW A B (A*u0.toNat-B*v0.toNat) (B*v1.toNat-A*u1.toNat))/\
 (ev=false->A*u0.toNat<=B*v0.toNat/\B*v1.toNat<=A*u1.toNat/\jW A B (B*v0.toNat-A*u0.toNat) (A*u1.toNat-B*v1.toNat)):=by
 rcases h with h| ⟨A',B',d,f,k,n,u,iB,v,w,z,D⟩
 . exact absurd h r
 have o:=B0k (A:=A) (B:=B) (A':=A') (B':=B') (u0:=u0) (u1:=u1) (v0:=v0) (v1:=v1) (s:=if ev then u0 else -u0) (t:=if ev then -v0 else v0) (p:=if ev then -u1 else u1) (q:=if ev then v1 else -v1) u iB (by rw[d];cases ev<;>simp<;>grind) (by rw[f];cases ev<;>simp<;>grind);obtain⟨U0,rfl⟩:=uM z;obtain⟨U1,rfl⟩:=uM D;obtain⟨V0,rfl⟩:=uM (ω:(0:Int)<=v0);obtain⟨V1,rfl⟩:=uM (ω:(0:Int)<=v1);obtain⟨b,rfl⟩:=uM k;obtain⟨a,rfl⟩:=uM (g2h k n);simp only[qO];have J:(1:Int)*(a:Int)<=(V1:Int)*a:=sK w ω;have M:(1:Int)*(b:Int)<=(V0:Int)*b:=sK v ω;have c:∀x y:Nat,((x*y:Nat):Int)=(y:Int)*(x:Int):=λx y=>by rw[uU,g2i]
 have E:=c A U0;have F:=c B V0;have G:=c A U1;have H:=c B V1;have l:jW A B a b:=⟨o.symm,ω,ω,ω⟩;refine⟨λg=>?_,λg=>?_⟩
 . subst g;simp only[vW]at d f;have i:A*U0-B*V0=a:=ω
   have j:B*V1-A*U1=b:=ω
   refine⟨ω,ω,?_⟩;rw[i,j];exact l
 subst g;simp only[uK,wS]at d f;have i:B*V0-A*U0=a:=ω
 have j:A*U1-B*V1=b:=ω
 refine⟨ω,ω,?_⟩;rw[i,j];exact l
def B0l {x y:Int} (d:0<=x) (f:0<y):Nat.gcd y.toNat (Int.tmod x y).toNat=Nat.gcd x.toNat y.toNat/\(Int.tmod x y).toNat<y.toNat:=by
 obtain⟨a,rfl⟩:=uM d;obtain⟨b,rfl⟩:=uM (xL f);have e:Int.tmod (a:Int) (b:Int)=((a%b:Nat):Int):=rfl;simp only[e,qO];have c:0<b:=ω
 exact⟨by rw[wZ a b,wZ b];exact(g3m b a).symm,wH _ c⟩
structure A8h (G:Nat) (a b:Wf):Prop where
 ea:a=nc (nv a)
 eb:b=nc (nv b)
 le:nv b<=nv a
 g:Nat.gcd (nv a) (nv b)=G
 len:a.length<=8796093022208
def A8h.step {G:Nat} {a b c d:Wf} {A' B':Nat} (h:A8h G a b) (s:jW (nv a) (nv b) A' B') (i:c=nc A') (j:d=nc B'):A8h G c d/\nv c+nv d<nv a+nv b:=by
 have f:nv c=A':=by rw[i,F7]
 have c:nv d=B':=by rw[j,F7]
 refine⟨⟨by rw[f];exact i,by rw[c];exact j,by rw[f,c];exact s.le,by rw[f,c,s.g];exact h.g,?_⟩,by rw[f,c];exact s.lt⟩;have:=K4 s.top;rw[<-h.ea]at this;rw[i];exact qZ this h.len
def LS:sr Ev BA:=λx J k=>by
 obtain⟨c,d,_⟩:=x;have U:B4 c:=A5 J.1.2;have V:B4 d:=A5 J.2.1.2;change Wf at c d;obtain⟨ah,ai⟩:c.length<=8796093022208/\d.length<=8796093022208:=k;have aj:=C9 U;have ak:=C9 V;simp only[BA,iB,Ef,R0,rT7];refine⟨trivial,?_⟩;rintro⟨a3,_⟩ _ v;refine⟨trivial,?_⟩;rintro⟨a4,_⟩ _ w;simp only at v w|-;have n:nv a3=nv c:=by rw[v,F7]
 have o:nv a4=nv d:=by rw[w,F7]
 refine⟨λp=>A8h (Nat.gcd (nv c) (nv d)) p.1 p.2.1,⟨trivial,?_⟩,?_⟩
 . rintro⟨ad,_⟩ _ r;simp only at r|-;rw[n,o]at r;refine⟨λt=>?_,λt=>?_⟩
   . have t:=qA t;refine⟨by rw[o];exact w,by rw[n];exact v,?_,by rw[n,o,wZ],by rw[w];omega⟩;rw[n,o];rcases sH (nv c) (nv d)with f|f
     . omega
     unfold Da at r;rw[qL ω]at r;split at r<;>omega
   have t:=qB t;refine⟨by rw[n];exact v,by rw[o];exact w,?_,by rw[n,o],by rw[v];omega⟩;rw[n,o];rcases sH (nv c) (nv d)with f|f
   . rw[Nu f]at r;omega
   exact f
 rintro⟨ab,ac,_⟩ _ F;simp only at F|-;refine⟨λp=>A8h (Nat.gcd (nv c) (nv d)) p.1 p.2.1,λp=>nv p.1+nv p.2.1,F,?_⟩;rintro⟨s,h,_⟩ ⟨a1,a2,_⟩ a;have ae:B4 s:=A5 a1.2;have af:B4 h:=A5 a2.2;change Wf at s h;simp only at a|-;have ag:=a.len;have Z:h.length<=s.length:=by rw[a.ea,a.eb];exact K4 a.le
 refine⟨λj=>?_,λj=>?_⟩
 . have j:=qA j;have G:0<nv h:=by
    rcases vN (nv h)with f|f
    . have:=a.eb;rw[f,Q9]at this;rw[this]at j;exact absurd j (by simp)
    exact f
   have T:nv s≠0:=by have:=a.le;omega
   refine⟨λu=>?_,λu=>?_⟩
   . have u:=qA u;refine⟨ω,?_⟩;rintro⟨x,_⟩ _ M;refine⟨ω,?_⟩;rintro⟨O,_⟩ _ N;simp only at M N|-;refine⟨λp=>0<=p.1/\0<=p.2.1/\Nat.gcd p.1.toNat p.2.1.toNat=Nat.gcd (nv c) (nv d),λp=>p.2.1.toNat,⟨by show(0:Int)<=x;omega,by show(0:Int)<=O;omega,?_⟩,?_⟩
     . show Nat.gcd x.toNat O.toNat= _;rw[M,N,qO,qO];exact a.g
     rintro⟨(X:Int),(Y:Int),_⟩ _ ⟨E,P,z⟩;simp only at E P z|-;refine⟨λi=>?_,λi=>?_⟩
     . have i:=qA i;obtain⟨Q,R⟩:=B0l E (ω:0<Y);exact⟨i,⟨P,zH _ E,by rw[Q];exact z⟩,R⟩
     have i:Y=0:=g3c (qB i);refine⟨trivial,?_⟩;rintro⟨q,_⟩ _ b;simp only at b|-;rw[i]at z;rw[b, <-z];exact sD nc (g1g _).symm
   have u:=qB u;refine⟨⟨ω,ω,by rw[a.ea];exact dJ T,a.le,Z⟩,?_⟩;rintro⟨⟨(a5:Int),(a6:Int),(a7:Int),(a8:Int),(ev:Bool)⟩,_⟩ _ H;simp only at H|-;refine⟨λy=>?_,λy=>?_⟩
   . refine⟨ω,?_⟩;rintro⟨q,m,am,_⟩ _ I;simp only at I|-;obtain⟨_,a0,_⟩:=I.2 ω;exact a.step (A5z a.le G) a.eb a0
   have y:=qB y;obtain⟨a9,aa⟩:=A6h G H y;refine⟨λB=>?_,λB=>?_⟩
   . obtain⟨c1,A,D⟩:=a9 B;refine⟨⟨ω,ω,c1⟩,?_⟩;rintro⟨p,_⟩ _ k;refine⟨⟨ω,ω,A⟩,?_⟩;rintro⟨q,_⟩ _ b;simp only at k b|-;exact a.step D k b
   obtain⟨c1,A,D⟩:=aa B;refine⟨⟨ω,ω,c1⟩,?_⟩;rintro⟨p,_⟩ _ k;refine⟨⟨ω,ω,A⟩,?_⟩;rintro⟨q,_⟩ _ b;simp only at k b|-;exact a.step D k b
 have j:=qB j;refine⟨by show s.length<=35184372088832;omega,?_⟩;rintro⟨q,_⟩ _ b;simp only at b|-;have W:nv h=0:=by rw[qM (l:=h) ω];rfl
 have:=a.g;rw[W,g1g]at this;rw[b,this]
def AS:sr Ad Oj:=λx a _=>by
 obtain⟨(b:Bool),(l:Wf),_⟩:=x;simp only[Oj,J4];cases l<;>simp
def Xv:sr X1 Mv:=λx d _=>by
 obtain⟨(v:Int),_⟩:=x;have c:i64.min<=v/\v<=i64.max:=d.1;rw[Ub,CS]at c;simp only[Mv,iB,R0,Y6];refine⟨λh=>⟨trivial,?_⟩,λh=>⟨trivial,?_⟩⟩
 . rintro⟨r,_⟩ _ a;refine⟨trivial,?_⟩;rintro⟨s,_⟩ _ b;simp only at a b|-;have h:=qA h;have e:(u64.wrap (-u64.wrap v)).toNat=v.natAbs:=by rw[Cp,Cp];omega
   rw[e]at a;subst b a;unfold ic;rw[rF h,zE,rF (by rw[g4o,Za];omega)]
 rintro⟨r,_⟩ _ a;refine⟨trivial,?_⟩;rintro⟨s,_⟩ _ b;simp only at a b|-;have h:=qB h;have e:(u64.wrap v).toNat=v.natAbs:=by rw[Cp];omega
 rw[e]at a;subst b a;unfold ic;rw[rI h,zS]
def IE:sr De Wd:=λx f _=>by
 obtain⟨⟨(d:Bool),(l:Wf)⟩,_⟩:=x;simp only[Wd,iB,Ef];refine⟨trivial,?_⟩;rintro⟨r,_⟩ _ a;simp only at a|-;rw[iG]at a;refine⟨λh=>?_,λh=>⟨λc=>?_,λc=>?_⟩⟩
 . have h:=qA h;have b:nv l=0:=WY.1 (a▸h);unfold iv;simp only[b];split<;>rfl
 . have h:=qB h;have b:nv l≠0:=λe=>h (by rw[a,e];rfl)
   unfold iv;simp only[c,vW];rw[Int.sign_neg,uW ω]
 have h:=qB h;have b:nv l≠0:=λe=>h (by rw[a,e];rfl)
 unfold iv;simp only[c];exact(uW (by simp;omega)).symm
def YK {neg:Bool} {m:Nat} {v:Int} (h:v=if neg=true then -(m:Int)else(m:Int)):(neg&&decide (nc m≠ []),nc m)=ic v:=by
 have e:ic (iv (neg,nc m))=(neg&&decide (m≠0),nc m):=B0o;have a:iv (neg,nc m)=v:=by rw[h];unfold iv;simp only[F7]
 rw[a]at e;rw[e];have:decide (nc m≠ [])=decide (m≠0):=vT.2 (not_congr Za);rw[this]
def ID:sr Dd Wc:=λx f d=>by
 obtain⟨⟨(c:Bool),(l:Wf)⟩,_⟩:=x;simp only[Wc,R0,Y6];refine⟨d,?_⟩;rintro⟨r,_⟩ _ a;refine⟨trivial,?_⟩;rintro⟨z,_⟩ _ b;simp only at a b|-;subst a;rw[b];exact YK rfl
def LM:sr Eo AP:=λx s o=>by
 obtain⟨⟨(b:Bool),(l:Wf)⟩,⟨(g:Bool),(k:Wf)⟩,_⟩:=x;obtain⟨j,i⟩:N9 l/\N9 k:=o;simp only[AP,iB,R0,Y6];refine⟨λh=>?_,λh=>?_⟩
 . refine⟨⟨j,i⟩,?_⟩;rintro⟨r,_⟩ _ c;refine⟨trivial,?_⟩;rintro⟨z,_⟩ _ a;simp only at c a|-;have h:b=g:=by simpa using h
   subst c h;rw[a];refine YK ?_;unfold iv;cases b<;>simp<;>omega
 have h:g= !b:=by cases b<;>cases g<;>simp_all
 subst h;refine⟨⟨j,i⟩,?_⟩;rintro⟨r,t,_⟩ _ c;simp only at c|-;refine⟨λf=>⟨trivial,?_⟩,λf=>⟨⟨i,j⟩,?_⟩⟩
 . rintro⟨z,_⟩ _ a;simp only at a|-;rcases sH (nv l) (nv k)with d|d
   . rw[(c.1 d).2]at f;exact absurd f δ
   rw[(c.2 d).1]at a;rw[a];refine YK ?_;unfold iv;cases b<;>simp<;>omega
 rintro⟨v,u,_⟩ _ n;refine⟨trivial,?_⟩;rintro⟨z,_⟩ _ a;simp only at n a|-;rcases sH (nv l) (nv k)with d|d
 . rw[(n.2 ω).1]at a;rw[a];refine YK ?_;unfold iv;cases b<;>simp<;>omega
 rw[(c.2 d).2]at f;exact absurd f δ
def LN:sr Ep AQ:=λx i h=>by
 obtain⟨⟨(b:Bool),(l:Wf)⟩,⟨(c:Bool),(k:Wf)⟩,_⟩:=x;obtain⟨g,f⟩:N9 l/\N9 k:=h;simp only[AQ,R0,Y6];refine⟨⟨g,f⟩,?_⟩;rintro⟨r,_⟩ _ a;refine⟨trivial,?_⟩;rintro⟨z,_⟩ _ d;simp only at a d|-;subst a;rw[d];refine YK ?_;unfold iv;cases b<;>cases c<;>simp<;>grind
def kE:An:= {loop:= [(2,⟨[0],[],[(3,false,vI)],[],[]⟩)]}
def fE:An:= {loop:= [(4,⟨[0,1],[],[(5,false,vI)],[],[]⟩)],plan:= [(6,[3,7],[],true, .done)]}
def JJ:An:= {}
def pH:An:= {join:= [(8,⟨[0,1,5,7],[0],[(6,false,vU)],[],[]⟩),(10,⟨[0,1,5,7],[0],[(6,false,vU)],[],[]⟩)],loop:= [(4,⟨[0,1,5],[],[(6,false,vU),(7,false,vI)],[],[(0, .row qf 108)]⟩)]}
def pK:An:= {join:= [(12,⟨[0,1,6,8],[0],[(9,false,vU)],[],[]⟩),(17,⟨[0,1,6,8,9],[0],[(7,false,vU),(10,false,vU)],[],[]⟩)],loop:= [(7,⟨[0,1,6],[],[(7,false,vU),(8,false,vI)],[],[(0, .row qf 108)]⟩)]}
def US:An:= {loop:= [(7,⟨[0,1],[],[(5,false,vI)],[],[]⟩)],plan:= [(9,[3,7],[],true, .done),(11,[3,7],[],true, .done)]}
def pJ:An:= {loop:= [(7,⟨[0,1,5,6],[],[(7,false,vU),(8,false,vI)],[],[(0, .row qf 108)]⟩),(3,⟨[0,1,5],[],[(6,false,vI)],[],[(0, .row qf 108)]⟩)],plan:= [(9,[6,11,16],[],true, .done)]}
def aO:An:= {loop:= [(6,⟨[0],[],[(4,false,vU),(5,false,vI)],[],[]⟩)]}
def QT(x:Mp):Prop:=let f:=(1:Int);let c:=(x.1.length:Int);let a:=(0:Int);let g:=a.toNat;∃(I:D8->Prop),∃(b: _->Nat),I (c,())/\∀(p:D8),let e:=p.1.toNat;let d:=(i64.wrap (p.1-f),());let h:=(decide (gx a x.1 (i64.wrap (p.1-f))=a));(Ty.int i64).wf p.1/\True->I p->(decide (a<p.1)=true->a<=i64.wrap (p.1-f)/\i64.wrap (p.1-f)<c)/\(iB (M0 (decide (a<p.1)) h false) (I d/\b d<b p) ((a<=a/\a<=p.1/\p.1<=c)/\(((0:Nat)+(List.drop g (List.take e x.1)).length)*(4:Nat)<=(140737488355328:Nat)/\(0:Nat)+(List.drop g (List.take e x.1)).length<=9223372036854775807)/\List.drop g (List.take e x.1)=nc (nv x.1)))
def LY(x:Eh):Prop:=let f:Prop:=(x.1=x.2.1);let e:=(0:Int);let b:=(x.2.1.length:Int);let a:=(x.1.length:Int);(iB (decide (a≠b)) (false=decide f) (∃(I:D8->Prop),∃(c: _->Nat),I (e,())/\∀(p:D8),let d:=(i64.wrap (p.1+1),());let g:Prop:=(gx e x.1 p.1≠gx e x.2.1 p.1);(Ty.int i64).wf p.1/\True->I p->(iB (decide (p.1<a)) ((e<=p.1/\p.1<a)/\(e<=p.1/\p.1<b)/\(iB (decide g) (false=decide f) (I d/\c d<c p))) (true=decide f))))
def Ov(x:D8):Prop:=let a:=((32:Int).toNat);(0:(Ty.int u64).den)<=(32:Int)/\Hh [u32.wrap x.1,u32.wrap (Int.fdiv x.1 ((2:Int)^Min.min a u64.bits))]/\R0 λr=>r.1=nc (nv [u32.wrap x.1,u32.wrap (Int.fdiv x.1 ((2:Int)^Min.min a u64.bits))])->r.1=nc x.1.toNat
def ZB(x:Eh):Prop:=let f:=(1:Int);let e:=(0:Int);let b:=(x.1.length:Int);let a:=(x.2.1.length:Int);(e<=i64.wrap (Max.max b a+f)/\i64.wrap (Max.max b a+f)<=i64.wrap (Max.max b a+f)/\(↑(4:Nat):Int)*i64.wrap (Max.max b a+f)<=(281474976710656:Int)/\i64.wrap (Max.max b a+f)<=(9223372036854775807:Int))/\∃(I:Sr->Prop),∃(i: _->Nat),I (e,e,List.replicate (i64.wrap (Max.max b a+f)).toNat e,())/\∀(p:Sr),let d:=(p.2.2.1.length:Int);(Ty.int u64).wf p.1/\(Ty.int i64).wf p.2.1/\Hi p.2.2.1/\True->I p->(iB (decide (p.2.1<d)) (∃(J:D8->Prop),((iB (decide (p.2.1<b)) ((e<=p.2.1/\p.2.1<b)/\J (u64.wrap (p.1+u64.wrap (gx e x.1 p.2.1)),())) (J (p.1,()))))/\∀(g:D8),(Ty.int u64).wf g.1/\True->J g->∃(J:D8->Prop),((iB (decide (p.2.1<a)) ((e<=p.2.1/\p.2.1<a)/\J (u64.wrap (g.1+u64.wrap (gx e x.2.1 p.2.1)),())) (J g)))/\∀(h:D8),let c:=(Int.fdiv h.1 ((2:Int)^Min.min ((32:Int).toNat) u64.bits),i64.wrap (p.2.1+f),List.set p.2.2.1 p.2.1.toNat (u32.wrap h.1),());(Ty.int u64).wf h.1/\True->J h->(e<=p.2.1/\p.2.1<d)/\(0:(Ty.int u64).den)<=(32:Int)/\I c/\i c<i p) (Hh p.2.2.1/\R0 λr=>r.1=nc (nv p.2.2.1)->r.1=nc (nv x.1+nv x.2.1)))
def ZF(x:Eh):Prop:=let f:=(nv x.1-nv x.2.1);let c:=(0:Int);(N9 x.1/\N9 x.2.1)/\Ef λr=>r.1=Da (nv x.1) (nv x.2.1)->(iB (decide (r.1<c)) ((nv x.1<nv x.2.1->Ps Int= []/\false=false)/\(nv x.2.1<=nv x.1->Ps Int=nc f/\false=true)) (Hh x.1/\R0 λr=>let a:=(r.1.length:Int);r.1=nc (nv x.1)->Hh x.2.1/\R0 λj=>let e:=(j.1.length:Int);j.1=nc (nv x.2.1)->(c<=a/\a<=a/\(↑(4:Nat):Int)*a<=(281474976710656:Int)/\a<=(9223372036854775807:Int))/\∃(I:Sr->Prop),∃(g: _->Nat),I (c,c,List.replicate a.toNat c,())/\∀(p:Sr),let d:=(gx c r.1 p.2.1);(Ty.int u64).wf p.1/\(Ty.int i64).wf p.2.1/\Hi p.2.2.1/\True->I p->(iB (decide (p.2.1<a)) (∃(J:D8->Prop),((iB (decide (p.2.1<e)) ((c<=p.2.1/\p.2.1<e)/\J (u64.wrap (p.1+u64.wrap (gx c j.1 p.2.1)),())) (J (p.1,()))))/\∀(i:D8),let k:Prop:=(u64.wrap d<i.1);(Ty.int u64).wf i.1/\True->J i->(c<=p.2.1/\p.2.1<a)/\∃(J:Cr->Prop),((iB (decide k) (J ((1:Int),u64.wrap (u64.wrap d+(4294967296:Int)),())) (J (c,u64.wrap d,()))))/\∀(h:Cr),let b:=(h.1,i64.wrap (p.2.1+1),List.set p.2.2.1 p.2.1.toNat (u32.wrap (u64.wrap (h.2.1-i.1))),());(Ty.int u64).wf h.1/\(Ty.int u64).wf h.2.1/\True->J h->(c<=p.2.1/\p.2.1<(p.2.2.1.length:Int))/\I b/\g b<g p) (Hh p.2.2.1/\R0 λr=>r.1=nc (nv p.2.2.1)->(nv x.1<nv x.2.1->r.1= []/\true=false)/\(nv x.2.1<=nv x.1->r.1=nc f/\true=true)))))
def BG(x:Eh):Prop:=let i:=(1:Int);let e:=(nv x.1);let d:=(nv x.2.1);let c:=(0:Int);Hh x.1/\R0 λr=>let a:=(r.1.length:Int);r.1=nc e->Hh x.2.1/\R0 λj=>let b:=(j.1.length:Int);j.1=nc d->(iB (decide (a≠b)) ((iB (decide (a<b)) ((-1:Int)=Da e d) (i=Da e d))) (∃(I:D8->Prop),∃(g: _->Nat),I (i64.wrap (a-i),())/\∀(p:D8),let k:Prop:=(gx c j.1 p.1<gx c r.1 p.1);let h:Prop:=(gx c r.1 p.1<gx c j.1 p.1);let f:=(i64.wrap (p.1-i),());(Ty.int i64).wf p.1/\True->I p->(iB (decide (c<=p.1)) ((c<=p.1/\p.1<a)/\(c<=p.1/\p.1<b)/\(iB (decide h) ((-1:Int)=Da e d) ((c<=p.1/\p.1<a)/\(c<=p.1/\p.1<b)/\(iB (decide k) (i=Da e d) (I f/\g f<g p))))) (c=Da e d))))
def ZE(x:Eh):Prop:=let i:=(0:Int);let g:=(x.1.length:Int);let e:=(x.2.1.length:Int);(i<=i64.wrap (g+e)/\i64.wrap (g+e)<=i64.wrap (g+e)/\(↑(4:Nat):Int)*i64.wrap (g+e)<=(281474976710656:Int)/\i64.wrap (g+e)<=(9223372036854775807:Int))/\∃(I:A2g->Prop),∃(n: _->Nat),I (i,List.replicate (i64.wrap (g+e)).toNat i,())/\∀(p:A2g),let c:Prop:=(p.1<g);(Ty.int i64).wf p.1/\Hi p.2.1/\True->I p->(iB (decide c) (∃(I_1:Sr->Prop),∃(g: _->Nat),I_1 (i,i,p.2.1,())/\∀(l:Sr),let k:=(l.2.2.1.length:Int);let j:=(i64.wrap (p.1+l.2.1));let h:=(i64.wrap (p.1+1),List.set l.2.2.1 (i64.wrap (p.1+e)).toNat (u32.wrap l.1),());let d:=(u64.wrap (l.1+u64.wrap (u64.wrap (List.getD l.2.2.1 j.toNat i)+u64.wrap (u64.wrap (gx i x.1 p.1)*u64.wrap (gx i x.2.1 l.2.1)))));let f:=(d.fdiv ((2:Int)^Min.min ((32:Int).toNat) u64.bits),i64.wrap (l.2.1+1),List.set l.2.2.1 j.toNat (u32.wrap d),());let b:Prop:=(l.2.1<e);let a:Prop:=(i<=i64.wrap (p.1+l.2.1)/\i64.wrap (p.1+l.2.1)<k);(Ty.int u64).wf l.1/\(Ty.int i64).wf l.2.1/\Hi l.2.2.1/\True->I_1 l->(iB (decide b) (a/\(i<=p.1/\c)/\(i<=l.2.1/\b)/\a/\(0:(Ty.int u64).den)<=(32:Int)/\I_1 f/\g f<g l) ((i<=i64.wrap (p.1+e)/\i64.wrap (p.1+e)<k)/\I h/\n h<n p))) (Hh p.2.1/\R0 λr=>r.1=nc (nv p.2.1)->r.1=nc (nv x.1*nv x.2.1)))
def GK(x:Mp):Prop:=let d:=(0:Int);let c:=(18446744073709551616:Nat);Hh x.1/\R0 λr=>let b:=(r.1.length:Int);r.1=nc (nv x.1)->(iB (decide ((2:Int)<b)) ((nv x.1<c->d=(↑(nv x.1):Int)/\false=true)/\(c<=nv x.1->false=false)) (∃(I:Cr->Prop),∃(f: _->Nat),I (d,i64.wrap (b-(1:Int)),())/\∀(p:Cr),let a:=(u64.wrap (↑(BitVec.ofInt u64.bits (u64.wrap (p.1*2^Min.min ((32:Int).toNat) u64.bits)) |||BitVec.ofInt u64.bits (u64.wrap (gx d r.1 p.2.1))).toNat:Int),i64.wrap (p.2.1-1),());(Ty.int u64).wf p.1/\(Ty.int i64).wf p.2.1/\True->I p->(iB (decide (d<=p.2.1)) ((0:(Ty.int u64).den)<=(32:Int)/\(d<=p.2.1/\p.2.1<b)/\I a/\f a<f p) ((nv x.1<c->p.1=(↑(nv x.1):Int)/\true=true)/\(c<=nv x.1->true=false)))))
def ZG:sr Me QT:=λx s r=>by
 obtain⟨l,_⟩:=x;have u:l.length<=35184372088832:=r;have k:B4 l:=A5 s.1.2;change Wf at l;simp only[QT,iB];refine⟨λp=>0<=p.1/\p.1<=(l.length:Int)/\∀i x,p.1.toNat<=i->l[i]? =some x->x=0,λp=>p.1.toNat,⟨qF _,qH _,λi x j a=>?_⟩,?_⟩
 . rw[rT (by simpa using j)]at a;cases a
 rintro⟨(n:Int),_⟩ _ ⟨c,f,b⟩;simp only at c f b|-;refine⟨λh=>?_,λh=>?_,λh=>?_⟩
 . have h:=qA h;rw[wv ω];exact⟨ω,ω⟩
 . rw[J4]at h;simp only[qC,rU]at h;obtain⟨t,g⟩:=h;rw[wv ω]at g|-;refine⟨⟨ω,ω,λi x j a=>?_⟩,ω⟩;by_cases o:i=(n-1).toNat
   . subst o;rw[H3 (d:=(0:Int)) ω ω]at a;cases a;exact g
   exact b i x ω a
 refine⟨⟨qH _,c,f⟩,?_⟩;have e:(l.take n.toNat).drop (Int.toNat 0)=l.take n.toNat:=rfl;rw[e];have v:(l.take n.toNat).length<=l.length:=by rw[qY];omega
 refine⟨⟨ω,ω⟩,A3y k ω b ?_⟩;rw[J4]at h;simp only[wL,rO]at h;rcases h with h|h
 . exact .inl ω
 by_cases w:n=0
 . exact .inl ω
 rw[wv ω]at h;refine .inr ⟨gx 0 l (n-1),?_,h⟩;have:=H3 (d:=(0:Int)) (l:=l) (i:=n-1) ω ω;rw[<-this];congr 1;omega
def SU:sr Jd LY:=λx k _=>by
 obtain⟨a,f,_⟩:=x;have l:a.length<=9223372036854775807:=k.1.1;change Wf at a f;simp only[LY,iB];refine⟨λh=>?_,λh=>?_⟩
 . have h:=qA h;exact(rI λe=>h (by rw[e])).symm
 have n:a.length=f.length:=by have:=qB h;omega
 refine⟨λp=>0<=p.1/\p.1<=(a.length:Int)/\a.take p.1.toNat=f.take p.1.toNat,λp=>((a.length:Int)-p.1).toNat,⟨qH _,qF _,by simp⟩,?_⟩;rintro⟨(i:Int),_⟩ _ ⟨c,j,g⟩;simp only at c j g|-;refine⟨λh=>?_,λh=>?_⟩
 . have h:=qA h;refine⟨⟨c,h⟩,⟨c,ω⟩,λb=>?_,λb=>?_⟩
   . have b:=qA b;exact(rI λe=>b (by rw[e])).symm
   have b:gx 0 a i=gx 0 f i:=by simpa using b
   rw[wv ω];refine⟨⟨ω,ω,?_⟩,ω⟩;rw[(ω:(i+1).toNat=i.toNat+1),rP,rP,H3 (d:=(0:Int)) c h,H3 (d:=(0:Int)) c ω,g,b]
 have h:=qB h;rw[E9 ω,E9 ω]at g;exact(rF g).symm
def BH:sr Ai Ov:=λx c _=>by
 obtain⟨(v:Int),_⟩:=x;have b:u64.min<=v/\v<=u64.max:=c.1;rw[jG,DW]at b;simp only[Ov,R0];refine⟨δ,by simp,?_⟩;rintro⟨r,_⟩ _ a;simp only at a|-;rw[a];congr 1;rw[show Min.min (Int.toNat 32) u64.bits=32 from rfl];simp only[nv,Co];rw[sJ _ δ,show(2:Int)^32=4294967296 from rfl];omega
def B8y (v:Int) (_:0<=v):Int.fdiv v (2^Min.min (Int.toNat 32) u64.bits)=v/4294967296:=by
 rw[show Min.min (Int.toNat 32) u64.bits=32 from rfl,sJ _ δ];rfl
def bH:sr Rw ZB:=λx w F=>by
 obtain⟨a,b,_⟩:=x;have j:B4 a:=A5 w.1.2;have k:B4 b:=A5 w.2.1.2;change Wf at a b;obtain⟨N,O⟩:a.length<=17592186044416/\b.length<=17592186044416:=F;simp only[ZB,iB,R0];have y:i64.wrap (Max.max (a.length:Int) (b.length:Int)+1)=((max a.length b.length+1:Nat):Int):=by
  rw[wv ω];omega
 rw[y];have E:max a.length b.length+1<=17592186044417:=ω
 refine⟨⟨ω,qH _,by simp;omega,ω⟩,?_⟩;have t:a.length<=max a.length b.length+1:=ω
 have u:b.length<=max a.length b.length+1:=ω
 have s:=A6q j k;generalize max a.length b.length+1=n at E t u s;refine⟨λp=>0<=p.2.1/\p.2.1<=(n:Int)/\0<=p.1/\p.1<=1/\p.2.2.1.length=n/\nv (p.2.2.1.take p.2.1.toNat)+4294967296^p.2.1.toNat*p.1.toNat=nv (a.take p.2.1.toNat)+nv (b.take p.2.1.toNat),λp=>((n:Int)-p.2.1).toNat,⟨qH _,qF _,qH _,by show(0:Int)<=1;omega,by simp,by simp[nv]⟩,?_⟩;rintro⟨(g:Int),(i:Int),(out:Wf),_⟩ ⟨_,_,G,_⟩ ⟨d,z,A,B,l,f⟩;simp only at d z A B l f|-;have M:B4 out:=A5 G.2;have I:=O0 j i.toNat;have J:=O0 k i.toNat;refine⟨λh=>?_,λh=>?_⟩
 . have h:=qA h;refine⟨λp=>p.1=g+(dg a i.toNat:Int),⟨λc=>?_,λc=>?_⟩,?_⟩
   . have c:=qA c;refine⟨⟨d,c⟩,?_⟩;show u64.wrap _= _;rw[Fs j d c,X7 (a:=(dg a i.toNat:Int)) ω ω,X7 ω ω]
   . have c:=qB c;show g= _;rw[Pj ω];omega
   rintro⟨c1,_⟩ _ o;simp only at o|-;refine⟨λp=>p.1=c1+(dg b i.toNat:Int),⟨λc=>?_,λc=>?_⟩,?_⟩
   . have c:=qA c;refine⟨⟨d,c⟩,?_⟩;show u64.wrap _= _;rw[Fs k d c,X7 (a:=(dg b i.toNat:Int)) ω ω,X7 ω ω]
   . have c:=qB c;show c1= _;rw[Pj ω];omega
   rintro⟨H,_⟩ _ r;simp only at r|-;subst o r;refine⟨⟨d,h⟩,δ,?_⟩;rw[B8y _ ω,wv ω,Co];refine⟨⟨ω,ω,ω,ω,by rw[qW];exact l,?_⟩,ω⟩;rw[(ω:(i+1).toNat=i.toNat+1),T9 ω,J5 a,J5 b,sB];exact dO f ω
 have h:=qB h;refine⟨ω,?_⟩;rintro⟨Q,_⟩ _ v;simp only at v|-;rw[v];congr 1;rw[(ω:i.toNat=n),qQ ω,qQ t,qQ u]at f;have D:g.toNat=0:=HB (P:=4294967296^n) (x:=nv a+nv b) (by rw[<-f];exact Nat.le_add_left ..) s;rw[D,wP,tJ]at f;exact f
def LX:sr Ey BG:=λx B A=>by
 obtain⟨(a:Wf),(b:Wf),_⟩:=x;obtain⟨D,E⟩:a.length<=17592186044416/\b.length<=17592186044416:=A;simp only[BG,iB,R0];refine⟨ω,?_⟩;rintro⟨r,_⟩ ⟨⟨y,_⟩,_⟩ o;simp only at o y|-;subst o;refine⟨ω,?_⟩;rintro⟨s,_⟩ ⟨⟨z,_⟩,_⟩ t;simp only at t z|-;subst t;have k:=K8 (nv a);have l:=K8 (nv b);refine⟨λj=>⟨λh=>?_,λh=>?_⟩,λj=>?_⟩
 . have h:=qA h;exact(Nu (DF ω)).symm
 . have h:=qB h;have j:=qA j;exact(TP (DF ω)).symm
 have n:(nc (nv a)).length=(nc (nv b)).length:=by have:=qB j;omega
 have u:=F7 (nv a);have v:=F7 (nv b);generalize nc (nv a)=r at*;generalize nc (nv b)=s at*;rw[<-u, <-v];refine⟨λp=> -1<=p.1/\p.1<(r.length:Int)/\r.drop (p.1+1).toNat=s.drop (p.1+1).toNat,λp=>(p.1+1).toNat,?_,?_⟩
 . rw[wv ω];refine⟨ω,ω,?_⟩;rw[sG ω,sG ω]
 rintro⟨(i:Int),_⟩ _ ⟨w,d,c⟩;simp only at w d c|-;refine⟨λh=>?_,λh=>?_⟩
 . have h:=qA h;refine⟨⟨h,d⟩,⟨h,ω⟩,λg=>?_,λg=>⟨⟨h,d⟩,⟨h,ω⟩,λf=>?_,λf=>?_⟩⟩
   . exact(Nu (iH k l n h d c (qA g))).symm
   . exact(TP (iH l k n.symm h ω c.symm (qA f))).symm
   have g:=qB g;have f:=qB f;rw[wv ω];refine⟨⟨ω,ω,?_⟩,ω⟩;rw[(ω:i-1+1=i),W3 h d,W3 h ω,c,(ω:gx 0 r i=gx 0 s i)]
 have h:=qB h;rw[(ω:(i+1).toNat=0),tO,tO]at c;rw[c,dK]
def bK:sr Rz ZF:=λx B N=>by
 obtain⟨(a:Wf),(c:Wf),_⟩:=x;have J:B4 a:=A5 B.1.2;have a2:B4 c:=A5 B.2.1.2;obtain⟨X,Y⟩:a.length<=17592186044416/\c.length<=17592186044416:=N;simp only[ZF,iB,Ef,R0];refine⟨⟨X,Y⟩,?_⟩;rintro⟨Z,_⟩ _ t;simp only at t|-;subst t;refine⟨λh=>?_,λh=>?_⟩
 . have h:=qA h;refine⟨λ_=>⟨by trivial,by trivial⟩,λo=>?_⟩;unfold Da at h;rw[qL ω]at h;split at h<;>omega
 have h:=qB h;have o:nv c<=nv a:=by
  rcases sH (nv a) (nv c)with g|g
  . rw[Nu g]at h;omega
  exact g
 refine⟨ω,?_⟩;rintro⟨r,_⟩ _ f;simp only at f|-;refine⟨ω,?_⟩;rintro⟨s,_⟩ _ j;simp only at j|-;have w:B4 r:=f▸K8 _;have z:B4 s:=j▸K8 _;have y:nv r=nv a:=by rw[f,F7]
 have A:nv s=nv c:=by rw[j,F7]
 have a4:r.length<=a.length:=by rw[f];exact C9 J
 have O:s.length<=r.length:=by rw[f,j];exact K4 o
 rw[<-y, <-A]at o|-;clear f j y A;refine⟨⟨ω,qH _,by simp;omega,ω⟩,?_⟩;refine⟨λp=>0<=p.2.1/\p.2.1<=(r.length:Int)/\0<=p.1/\p.1<=1/\p.2.2.1.length=r.length/\nv (r.take p.2.1.toNat)+4294967296^p.2.1.toNat*p.1.toNat=nv (p.2.2.1.take p.2.1.toNat)+nv (s.take p.2.1.toNat),λp=>((r.length:Int)-p.2.1).toNat,⟨qH _,qF _,qH _,by show(0:Int)<=1;omega,by simp,by simp[nv]⟩,?_⟩;rintro⟨(k:Int),(i:Int),(out:Wf),_⟩ ⟨_,_,Q,_⟩ ⟨d,g,F,G,n,l⟩;simp only at d g F G n l|-;have M:B4 out:=A5 Q.2;have a0:=O0 w i.toNat;have a1:=O0 z i.toNat;refine⟨λh=>?_,λh=>?_⟩
 . have h:=qA h;refine⟨λp=>p.1=k+(dg s i.toNat:Int),⟨λb=>?_,λb=>?_⟩,?_⟩
   . have b:=qA b;refine⟨⟨d,b⟩,?_⟩;show u64.wrap _= _;rw[Fs z d b,X7 (a:=(dg s i.toNat:Int)) ω ω,X7 ω ω]
   . have b:=qB b;show k= _;rw[Pj ω];omega
   rintro⟨(c1:Int),_⟩ _ I;simp only at I|-;refine⟨⟨d,h⟩,?_⟩;rw[Fs w d h,X7 (a:=(dg r i.toNat:Int)) ω ω];refine⟨λp=>0<=p.1/\p.1<=1/\p.2.1=(dg r i.toNat:Int)+4294967296*p.1/\c1<=p.2.1/\p.2.1-c1<=4294967295,⟨λb=>?_,λb=>?_⟩,?_⟩
   . have b:=qA b;show(0:Int)<=1/\(1:Int)<=1/\u64.wrap _=(dg r i.toNat:Int)+4294967296*1/\c1<=u64.wrap _ /\u64.wrap _-c1<= _;rw[X7 ω ω];omega
   . have b:=qB b;show(0:Int)<=0/\(0:Int)<=1/\(dg r i.toNat:Int)=(dg r i.toNat:Int)+4294967296*0/\c1<=(dg r i.toNat:Int)/\(dg r i.toNat:Int)-c1<= _;omega
   rintro⟨(E:Int),(D:Int),_⟩ _ ⟨R,T,U,V,W⟩;simp only at R T U V W|-;refine⟨⟨d,ω⟩,?_⟩;rw[wv ω,X7 (a:=D-c1) ω ω,w32 ω ω];refine⟨⟨ω,ω,ω,ω,by rw[qW];exact n,?_⟩,ω⟩;rw[(ω:(i+1).toNat=i.toNat+1),T9 ω,J5 r,J5 s,sB];exact WZ l ω
 have h:=qB h;refine⟨ω,?_⟩;rintro⟨q,_⟩ _ v;simp only at v|-;refine⟨λa3=>ω,λ_=>⟨?_,by trivial⟩⟩;rw[v];congr 1;rw[(ω:i.toNat=r.length),qQ (qU _),qQ ω,qQ O]at l;have u:nv out<4294967296^out.length:=Gi M;rw[n]at u;have H:k.toNat=0:=HB (P:=4294967296^r.length) (x:=nv out) ω u;rw[H,wP,tJ]at l;omega
def bJ:sr Ry ZE:=λx H Y=>by
 obtain⟨a,b,_⟩:=x;have B:B4 a:=A5 H.1.2;have D:B4 b:=A5 H.2.1.2;change Wf at a b;obtain⟨a4,a5⟩:a.length<=17592186044416/\b.length<=17592186044416:=Y;simp only[ZE,iB,R0];have O:i64.wrap ((a.length:Int)+(b.length:Int))=((a.length+b.length:Nat):Int):=by
  rw[wv ω];omega
 rw[O];refine⟨⟨ω,qH _,by simp;omega,ω⟩,?_⟩;refine⟨λp=>0<=p.1/\p.1<=(a.length:Int)/\p.2.1.length=a.length+b.length/\nv p.2.1=nv (a.take p.1.toNat)*nv b/\∀j,p.1.toNat+b.length<=j->dg p.2.1 j=0,λp=>((a.length:Int)-p.1).toNat,⟨qH _,qF _,by rw[rK,qO],by simp[nv,Re],λj _=>JS _ _⟩,?_⟩;rintro⟨(i:Int),(out:Wf),_⟩ ⟨_,Z,_⟩ ⟨s,R,z,t,A⟩;simp only at s R z t A|-;have a3:B4 out:=A5 Z.2;refine⟨λh=>?_,λh=>?_⟩
 . have h:=qA h;have I:=O0 B i.toNat;refine⟨λp=>0<=p.2.1/\p.2.1<=(b.length:Int)/\0<=p.1/\p.1<=4294967295/\p.2.2.1.length=a.length+b.length/\nv p.2.2.1+4294967296^(i.toNat+p.2.1.toNat)*p.1.toNat=nv out+4294967296^i.toNat*(dg a i.toNat*nv (b.take p.2.1.toNat))/\∀j,i.toNat+b.length<=j->dg p.2.2.1 j=0,λp=>((b.length:Int)-p.2.1).toNat,⟨qH _,qF _,qH _,by show(0:Int)<=4294967295;omega,z,by simp[nv],A⟩,?_⟩;rintro⟨(d:Int),(j:Int),(o:Wf),_⟩ ⟨_,_,a0,_⟩ ⟨n,Q,w,y,r,f,g⟩;simp only at n Q w y r f g|-;have E:B4 o:=A5 a0.2;refine⟨λc=>?_,λc=>?_⟩
   . have c:=qA c;have J:=O0 D j.toNat;rw[wv (a:=i+j) ω];refine⟨⟨ω,ω⟩,⟨s,h⟩,⟨n,c⟩,⟨ω,ω⟩,δ,?_⟩;rw[Fs B s h,Fs D n c,Y7 E,(ω:(i+j).toNat=i.toNat+j.toNat)];have a1:=O0 E (i.toNat+j.toNat);have W:dg a i.toNat*dg b j.toNat<=4294967295*4294967295:=uZ I J;have X:(dg a i.toNat:Int)*(dg b j.toNat:Int)=((dg a i.toNat*dg b j.toNat:Nat):Int):=(uU _ _).symm;rw[X7 (a:=(dg a i.toNat:Int)) ω ω,X7 (a:=(dg b j.toNat:Int)) ω ω,X7 (a:=(dg o (i.toNat+j.toNat):Int)) ω ω,X];have a2:=f;generalize T:dg a i.toNat*dg b j.toNat=M at W;rw[X7 (a:=(M:Int)) ω ω,X7 (a:=(dg o (i.toNat+j.toNat):Int)+(M:Int)) ω ω,X7 ω ω,B8y _ ω,wv ω,Co];refine⟨⟨ω,ω,ω,ω,by rw[qW];exact r,?_,λq F=>?_⟩,ω⟩
     . have u:=Js (l:=o) (k:=i.toNat+j.toNat) (v:=(d+((dg o (i.toNat+j.toNat):Int)+(M:Int)))%4294967296) ω;rw[(ω:(j+1).toNat=j.toNat+1),J5 b, <-uQ i.toNat,sB,tC (dg a i.toNat)];have N:dg a i.toNat*(4294967296^j.toNat*dg b j.toNat)=4294967296^j.toNat*M:=by rw[<-T,g0a]
       rw[N,tC (4294967296^i.toNat), <-sM (4294967296^i.toNat) (4294967296^j.toNat), <-vA, <-uQ (nv out), <-f];generalize 4294967296^(i.toNat+j.toNat)=P at*;have U:((d+((dg o (i.toNat+j.toNat):Int)+(M:Int)))%4294967296).toNat+4294967296*((d+((dg o (i.toNat+j.toNat):Int)+(M:Int)))/4294967296).toNat=d.toNat+dg o (i.toNat+j.toNat)+M:=ω
       have V:=sD (P* ·) U;simp only[tC, <-sM]at V;omega
     rw[Yp ω,qL ω];exact g q F
   have c:=qB c;rw[wv (a:=i+(b.length:Int)) ω,wv ω,w32 w y];refine⟨⟨ω,ω⟩,⟨ω,ω,by rw[qW];exact r,?_,λq F=>?_⟩,ω⟩
   . have u:=Js (l:=o) (k:=(i+(b.length:Int)).toNat) (v:=d) ω;rw[g _ ω,wP,tJ]at u;rw[u,(ω:(i+(b.length:Int)).toNat=i.toNat+b.length)];rw[(ω:j.toNat=b.length),qQ (qU b.length)]at f;rw[f,(ω:(i+1).toNat=i.toNat+1),J5,uX,t,sM]
   rw[Yp ω,qL ω];exact g q ω
 have h:=qB h;refine⟨ω,?_⟩;rintro⟨a6,_⟩ _ G;simp only at G|-;rw[G,t,qQ ω]
def PR:sr Ha GK:=λx A o=>by
 obtain⟨a,_⟩:=x;have t:B4 a:=A5 A.1.2;change Wf at a;have G:a.length<=35184372088832:=o;have H:=C9 t;simp only[GK,iB,R0];refine⟨o,?_⟩;rintro⟨r,_⟩ _ d;simp only at d|-;have z:nv r=nv a:=by rw[d,F7]
 have g:B4 r:=d▸K8 _;refine⟨λh=>?_,λh=>?_⟩
 . have h:=qA h;have c:4294967296^2<=nv a:=B1w (by rw[<-d];omega);exact⟨λn=>ω,λ_=>by trivial⟩
 have h:=qB h;have w:r.length<=2:=ω
 rw[wv (a:=(r.length:Int)-1) ω];refine⟨λp=> -1<=p.2.1/\p.2.1<(r.length:Int)/\p.1=(nv (r.drop (p.2.1+1).toNat):Int),λp=>(p.2.1+1).toNat,⟨by show(-1:Int)<=(r.length:Int)-1;omega,by show(r.length:Int)-1< _;omega,?_⟩,?_⟩
 . show(0:Int)= _;rw[sG (by show r.length<=((r.length:Int)-1+1).toNat;omega)];rfl
 rintro⟨(v:Int),(i:Int),_⟩ _ ⟨B,f,j⟩;simp only at B f j|-;refine⟨λc=>?_,λc=>?_⟩
 . have c:=qA c;have E:=Uf g c f;have F:nv (r.drop (i+1).toNat)<4294967296:=by
    have n:=Gi (l:=r.drop (i+1).toNat) λy hy=>g y (vM hy)
    have s:4294967296^(r.drop (i+1).toNat).length<=4294967296^1:=rZ δ (by rw[sL];omega);omega
   rw[wv (a:=i-1) ω,show Min.min (Int.toNat 32) u64.bits=32 from rfl,X7 (a:=v*2^32) ω ω,X7 (a:=gx 0 r i) ω ω];have u:=KQ (v:=gx 0 r i) (b:=v) (k:=32) ω ω ω ω ω;rw[show u64.bits=64 from rfl,u,X7 ω ω];refine⟨δ,⟨c,f⟩,⟨ω,ω,?_⟩,ω⟩;rw[(ω:i-1+1=i),W3 c f];show _=(((gx 0 r i).toNat+4294967296*nv (r.drop (i+1).toNat):Nat):Int);omega
 have c:=qB c;rw[(ω:(i+1).toNat=0),tO,z]at j;refine⟨λ_=>⟨j,by trivial⟩,λn=>?_⟩;have s:=Gi g;have D:4294967296^r.length<=4294967296^2:=rZ δ w;omega
def kD:An:= {loop:= [(6,⟨[],[],[(3,false,vI),(4,false,[.val qf])],[],[]⟩)]}
def pL:An:= {}
def aN:An:= {join:= [(15,⟨[0,1,4,11],[0],[(5,false,[.val qa])],[],[]⟩),(11,⟨[0,1,4,11],[],[(5,false,[.val qa])],[],[(0, .row qf 108)]⟩)],loop:= [(10,⟨[0,1,4],[],[(5,false,[.val qa]),(11,false,vI)],[],[(0, .row qf 108)]⟩)],plan:= [(7,[],[],true, .done)]}
def pI:An:= {loop:= [(2,⟨[],[],[(0,false,[.val qa]),(1,false,[.val qa])],[],[]⟩)]}
def QR(x:Mp):Prop:=let e:=(↑(M5 (nv x.1)):Int);let d:=(1:Int);let c:=(0:Int);Hh x.1/\R0 λr=>let a:=(r.1.length:Int);r.1=nc (nv x.1)->(iB (decide (a=c)) (c=e) ((c<=i64.wrap (a-d)/\i64.wrap (a-d)<a)/\∃(I:Cr->Prop),∃(f: _->Nat),I (i64.wrap ((32:Int)*i64.wrap (a-d)),gx c r.1 (i64.wrap (a-d)),())/\∀(p:Cr),let b:=(i64.wrap (p.1+d),Int.fdiv p.2.1 ((2:Int)^Min.min d.toNat u32.bits),());(Ty.int i64).wf p.1/\(Ty.int u32).wf p.2.1/\True->I p->(iB (decide (c<p.2.1)) ((0:(Ty.int u64).den)<=d/\I b/\f b<f p) (p.1=e))))
def ZH(x:HZ):Prop:=let e:=(x.1.length:Int);let d:=(0:Int);let c:=(↑(nv x.1/(2:Nat)^x.2.1.toNat%(2:Nat)):Int);let a:=(32:Int);let b:Prop:=(e<=i64.wrap (Int.tdiv x.2.1 a));a≠d/\(iB (decide b) (d=c) (a≠d/\(d<=i64.wrap (Int.tdiv x.2.1 a)/\i64.wrap (Int.tdiv x.2.1 a)<e)/\a≠d/\(0:(Ty.int u64).den)<=u64.wrap (Int.tmod x.2.1 a)/\u32.wrap (↑(BitVec.ofInt u32.bits ((gx d x.1 (i64.wrap (Int.tdiv x.2.1 a))).fdiv ((2:Int)^Min.min (u64.wrap (Int.tmod x.2.1 a)).toNat u32.bits))&&&BitVec.ofInt u32.bits (1:Int)).toNat:Int)=c))
abbrev C5h:=Wf×Int×Wf×Unit
def GJ(x:Eh):Prop:=let m:=(0:Nat);let k:=(1:Int);let j:=(nv x.1%nv x.2.1);let i:=(nv x.1/nv x.2.1);let h:=(32:Int);let f:=(18446744073709551616:Nat);let e:=(0:Int);let d:=(x.1.length:Int);let c:Prop:=(nv x.2.1=m->true=false);Hh x.2.1/\∀(r:Mp),let b:Prop:=((r.1.length:Int)=e);Hi r.1/\True->r.1=nc (nv x.2.1)->(iB (decide b) ((nv x.2.1=m->false=false)/\(nv x.2.1≠m->Ps Int=nc i/\Ps Int=nc j/\false=true)) (Hh x.1/\∀(q:A7s),IW q.1/\True/\True->(nv x.1<f->q.1=(↑(nv x.1):Int)/\q.2.1=true)/\(f<=nv x.1->q.2.1=false)->Hh r.1/\∀(o:A7s),IW o.1/\True/\True->(nv r.1<f->o.1=(↑(nv r.1):Int)/\o.2.1=true)/\(f<=nv r.1->o.2.1=false)->(iB (M0 q.2.1 o.2.1 false) (o.1≠e/\o.1≠e/\True/\R0 λr=>r.1=nc (u64.wrap (Int.tdiv q.1 o.1)).toNat->True/\R0 λu=>u.1=nc (Int.tmod q.1 o.1).toNat->c/\(nv x.2.1≠m->r.1=nc i/\u.1=nc j/\true=true)) ((e<=d/\d<=d/\(↑(4:Nat):Int)*d<=(281474976710656:Int)/\d<=(9223372036854775807:Int))/\N9 x.1/\Ef λu=>u.1=(↑(M5 (nv x.1)):Int)->∃(I:C5h->Prop),∃(b: _->Nat),I ([],i64.wrap (u.1-k),List.replicate d.toNat e,())/\∀(p:C5h),let l:=(i64.wrap (Int.tdiv p.2.1 h));let a:Prop:=(e<=i64.wrap (Int.tdiv p.2.1 h)/\i64.wrap (Int.tdiv p.2.1 h)<(p.2.2.1.length:Int));(Ty.int u32).sl.wf p.1/\(Ty.int i64).wf p.2.1/\Hi p.2.2.1/\True->I p->(iB (decide (e<=p.2.1)) (∃(J:Eh->Prop),((N9 p.1/\N9 p.1)/\R0 λs=>s.1=nc (nv p.1+nv p.1)->∃(J_1:Mp->Prop),(e<=p.2.1/\∀(r:D8),(u32.min<=r.1/\r.1<=u32.max)/\True->r.1=(↑(nv x.1/(2:Nat)^Int.toNat p.2.1%(2:Nat)):Int)->(iB (decide (r.1=k)) ((N9 s.1/\N9 [k])/\R0 λr=>r.1=nc (nv s.1+nv [k])->J_1 r) (J_1 s)))/\∀(n:Mp),(Ty.int u32).sl.wf n.1/\True->J_1 n->(N9 n.1/\N9 r.1)/\∀(t:A2h),Hi t.1/\True/\True->(nv n.1<nv r.1->t.1= []/\t.2.1=false)/\(nv r.1<=nv n.1->t.1=nc (nv n.1-nv r.1)/\t.2.1=true)->(iB t.2.1 (h≠e/\a/\h≠e/\(0:(Ty.int u64).den)<=u64.wrap (Int.tmod p.2.1 h)/\a/\J (t.1,List.set p.2.2.1 l.toNat (u32.wrap (↑(BitVec.ofInt u32.bits (List.getD p.2.2.1 l.toNat e) |||BitVec.ofInt u32.bits (u32.wrap (k*(2:Int)^Min.min (u64.wrap (Int.tmod p.2.1 h)).toNat u32.bits))).toNat:Int)),())) (J (n.1,p.2.2.1,()))))/\∀(n:Eh),let g:=(n.1,i64.wrap (p.2.1-k),n.2.1,());(Ty.int u32).sl.wf n.1/\Hi n.2.1/\True->J n->I g/\b g<b p) (Hh p.2.2.1/\R0 λr=>r.1=nc (nv p.2.2.1)->Hh p.1/\R0 λs=>s.1=nc (nv p.1)->c/\(nv x.2.1≠m->r.1=nc i/\s.1=nc j/\true=true)))))))
def ZD(x:Eh):Prop:=Hh x.1/\R0 λr=>r.1=nc (nv x.1)->Hh x.2.1/\R0 λc=>c.1=nc (nv x.2.1)->∃(I:Eh->Prop),∃(a: _->Nat),I (r.1,c)/\∀(p:Eh),let d:Prop:=((0:Int)<(p.2.1.length:Int));(Ty.int u32).sl.wf p.1/\(Ty.int u32).sl.wf p.2.1/\True->I p->(iB (decide d) ((Ga p.1/\Ga p.2.1)/\∀(r:B3w),let b:=(p.2.1,r.2.1,());Hi r.1/\Hi r.2.1/\True/\True->(nv p.2.1=0->r.2.2.1=false)/\(nv p.2.1≠0->r.1=nc (nv p.1/nv p.2.1)/\r.2.1=nc (nv p.1%nv p.2.1)/\r.2.2.1=true)->I b/\a b<a p) (p.1=nc ((nv x.1).gcd (nv x.2.1))))
def ZC:sr Md QR:=λx u s=>by
 obtain⟨a,_⟩:=x;have g:B4 a:=A5 u.1.2;change Wf at a;have D:a.length<=17592186044416:=s;have w:=C9 g;have y:=A2u g;simp only[QR,iB,R0];refine⟨by show a.length<=35184372088832;omega,?_⟩;rintro⟨r,_⟩ _ b;simp only at b|-;have t:nv r=nv a:=by rw[b,F7]
 have i:B4 r:=b▸K8 _;refine⟨λh=>?_,λh=>?_⟩
 . have h:=qA h;have d:nv a=0:=by rw[<-t,qM (l:=r) ω];rfl
   rw[d];rfl
 have h:=qB h;have B:r.length<=a.length:=by rw[b];exact w
 have d:nv a≠0:=λe=>h (by rw[b,e,Q9];rfl)
 have j:=A8x d;rw[<-b]at j;rw[wv (a:=(r.length:Int)-1) ω,wv (a:=32*((r.length:Int)-1)) ω,Fs i ω ω,(ω:((r.length:Int)-1).toNat=r.length-1)];have z:=O0 i (r.length-1);refine⟨⟨ω,ω⟩,λp=>0<=p.1/\0<=p.2.1/\p.1+(M5 p.2.1.toNat:Int)=(M5 (nv a):Int),λp=>p.2.1.toNat,⟨by show(0:Int)<=32*((r.length:Int)-1);omega,qF _,?_⟩,?_⟩
 . show 32*((r.length:Int)-1)+(M5 ((dg r (r.length-1):Nat):Int).toNat:Int)= _;rw[qO,j];omega
 rintro⟨(n:Int),(v:Int),_⟩ _ ⟨k,o,f⟩;simp only at k o f|-;refine⟨λc=>?_,λc=>?_⟩
 . have c:=qA c;have A:=A5j (n:=v.toNat) ω;have e:Int.fdiv v (2^Min.min (Int.toNat 1) u32.bits)=v/2:=by
    show Int.fdiv v (2^1)= _;rw[sJ _ δ];rfl
   rw[e,wv (a:=n+1) ω];refine⟨δ,⟨ω,ω,?_⟩,ω⟩;rw[(ω:(v/2).toNat=v.toNat/2)];omega
 have c:=qB c;rw[(ω:v.toNat=0),CF]at f;omega
def bL:sr Sa ZH:=λx f l=>by
 obtain⟨a,n,_⟩:=x;have b:B4 a:=A5 f.1.2;have d:=(show i64.min<=n/\n<=i64.max from f.2.1);rw[Ub,CS]at d;change Wf at a;change Int at n;have t: -9223372036854775808<=n/\n<=9223372036854775807:=d;have g:0<=n:=l;simp only[ZH,iB];have i:i64.wrap (Int.tdiv n 32)=((n.toNat/32:Nat):Int):=by
  rw[yL g,wv ω];omega
 have j:u64.wrap (Int.tmod n 32)=((n.toNat%32:Nat):Int):=by
  rw[uL g,X7 ω ω];omega
 rw[i,j];have c:=B4u b n.toNat;refine⟨δ,λh=>?_,λh=>?_⟩
 . have h:=qA h;rw[Pj ω,g4n]at c;rw[<-c];rfl
 have h:=qB h;have o:n.toNat%32<=31:=ω
 refine⟨δ,⟨ω,ω⟩,δ,qF _,?_⟩;rw[qO,show Min.min (n.toNat%32) u32.bits=n.toNat%32 from by show Min.min (n.toNat%32) 32= _;omega];rw[Fs b ω ω,qO, <-c];have r:=O0 b (n.toNat/32);have k:Int.fdiv (dg a (n.toNat/32):Int) (2^(n.toNat%32))=((dg a (n.toNat/32)/2^(n.toNat%32):Nat):Int):=by
  rw[show((2:Int)^(n.toNat%32))=((2^(n.toNat%32):Nat):Int)from by rw[xJ];rfl,sJ _ (qF _)];rfl
 have s:dg a (n.toNat/32)/2^(n.toNat%32)<=dg a (n.toNat/32):=wY _ _;rw[k];generalize dg a (n.toNat/32)/2^(n.toNat%32)=Z at*;rw[show u32.bits=32 from rfl,A5h (qF _) ω,w32 ω ω,qO]
def PQ:sr Gz GJ:=λx aa ai=>by
 obtain⟨a,b,_⟩:=x;have af:B4 a:=A5 aa.1.2;have ag:B4 b:=A5 aa.2.1.2;change Wf at a b;obtain⟨bf,bg⟩:a.length<=8796093022208/\b.length<=8796093022208:=ai;have ar:=C9 ag;simp only[GJ,iB,Ef,R0];refine⟨by show b.length<=35184372088832;omega,?_⟩;rintro⟨d,_⟩ _ F;simp only at F|-;have R:nv d=nv b:=by rw[F,F7]
 have b8:d.length<=b.length:=by rw[F];exact ar
 refine⟨λh=>?_,λh=>?_⟩
 . have h:=qA h;have P:nv b=0:=by rw[<-R,qM (l:=d) ω];rfl
   exact⟨λ_=>by trivial,λc=>absurd P c⟩
 have h:=qB h;have v:nv b≠0:=λe=>h (by rw[F,e,Q9];rfl)
 refine⟨by show a.length<=35184372088832;omega,?_⟩;rintro⟨X,b1,_⟩ ⟨a8,_⟩ ⟨Y,Z⟩;refine⟨by show d.length<=35184372088832;omega,?_⟩;rintro⟨a0,sv,_⟩ _ ⟨H,I⟩;change Int at X a0;change Bool at b1 sv;simp only at Y Z H I a8|-;rw[R]at H I;refine⟨λB=>?_,λ_=>?_⟩
 . rw[J4,qC]at B;have E:nv a<18446744073709551616:=by
    rcases sH (nv a) 18446744073709551616 with c|c
    . exact c
    rw[Z c]at B;exact absurd B.1 δ
   have J:nv b<18446744073709551616:=by
    rcases sH (nv b) 18446744073709551616 with c|c
    . exact c
    rw[I c]at B;exact absurd B.2 δ
   have a7:=(Y E).1;have a9:=(H J).1;have N:Int.tdiv X a0=((nv a/nv b:Nat):Int):=by rw[a7,a9];rfl
   have O:Int.tmod X a0=((nv a%nv b:Nat):Int):=by rw[a7,a9];rfl
   have k:nv a/nv b<=nv a:=wY _ _;refine⟨ω,ω,trivial,?_⟩;rintro⟨q,_⟩ _ y;refine⟨trivial,?_⟩;rintro⟨m,_⟩ _ a4;simp only at y a4|-;refine⟨λP=>absurd P v,λ_=>⟨?_,?_,by trivial⟩⟩
   . rw[y,N];generalize nv a/nv b=Q at*;rw[X7 ω ω];rfl
   rw[a4,O];rfl
 refine⟨⟨ω,qH _,ω,ω⟩,by show a.length<=17592186044416;omega,?_⟩;rintro⟨(n:Int),_⟩ _ T;simp only at T|-;have b5:=A2u af;have a2:=fL (nv a);rw[T,wv (a:=(M5 (nv a):Int)-1) ω];clear T Y Z H I a8;refine⟨λp=> -1<=p.2.1/\p.2.1<=(M5 (nv a):Int)-1/\p.1=nc (nv a/2^(p.2.1+1).toNat%nv b)/\nv p.2.2.1=nv a/2^(p.2.1+1).toNat/nv b*2^(p.2.1+1).toNat/\p.2.2.1.length=a.length,λp=>(p.2.1+1).toNat,⟨by show(-1:Int)<=(M5 (nv a):Int)-1;omega,qH _,?_,?_,?_⟩,?_⟩
 . show []= _;rw[(ω:(((M5 (nv a):Int)-1)+1).toNat=M5 (nv a)),uJ a2,Nat.zero_mod,Q9]
 . show nv (List.replicate _ 0)= _;rw[Re,(ω:(((M5 (nv a):Int)-1)+1).toNat=M5 (nv a)),uJ a2,g4n,xQ]
 . show(List.replicate _ 0).length= _;simp
 rintro⟨(r:Wf),(i:Int),(q:Wf),_⟩ ⟨_,_,an,_⟩ ⟨ap,aq,f,k,V⟩;have U:B4 q:=A5 an.2;simp only at ap aq f k V|-;refine⟨λj=>?_,λj=>?_⟩
 . have j:=qA j;obtain⟨b2,t,u⟩:=A8w (a:=nv a) (b:=nv b) (i:=i.toNat) v;rw[(ω:(i+1).toNat=i.toNat+1)]at f k;have a6:nv a/2^(i.toNat+1)%nv b<nv b:=wH _ (sZ v);have b4:nv a/2^i.toNat%2<2:=wH _ δ;have G:nv r=nv a/2^(i.toNat+1)%nv b:=by rw[f,F7]
   rw[<-G]at t u a6;have ak:r.length<=8796093022208:=by
    have:=K4 (wG a6);rw[G, <-f]at this;omega
   have am:r=nc (nv r):=by rw[G];exact f
   clear f G;generalize b3:nv a/2^(i.toNat+1)/nv b=M at*;generalize b6:nv a/2^i.toNat%2=g at*;have N:i64.wrap (Int.tdiv i 32)=((i.toNat/32:Nat):Int):=by
    rw[yL j,wv ω];omega
   have O:u64.wrap (Int.tmod i 32)=((i.toNat%32:Nat):Int):=by
    rw[uL j,X7 ω ω];omega
   have a1:i.toNat%32<=31:=ω
   have ah:i.toNat/32<q.length:=ω
   rw[N,O,wv (a:=i-1) ω];refine⟨λp=>p.1=nc (nv a/2^i.toNat%nv b)/\nv p.2.1=nv a/2^i.toNat/nv b*2^i.toNat/\p.2.1.length=a.length,⟨⟨by show r.length<= _;omega,by show r.length<= _;omega⟩,?_⟩,?_⟩
   . rintro⟨W,_⟩ _ z;simp only at z|-;have bc:W.length<=8796093022209:=by
      have:=OF (nv r) (nv r);rw[z];rw[<-am]at this;omega
     refine⟨λp=>p.1=nc (2*nv r+g),⟨j,?_⟩,?_⟩
     . rintro⟨bi,_⟩ _ ao;simp only at ao|-;refine⟨λc=>?_,λc=>?_⟩
       . have c:=qA c;refine⟨⟨by show W.length<= _;omega,by show([1]:Wf).length<= _;decide⟩,?_⟩;rintro⟨D,_⟩ _ o;simp only at o|-;rw[o,z,F7,C0x];congr 1;omega
       have c:=qB c;show W= _;rw[z];congr 1;omega
     rintro⟨D,_⟩ _ o;simp only at o|-;have aj:nv D=2*nv r+g:=by rw[o,F7]
     have be:D.length<=8796093022210:=by
      have e:2*nv r+g<=(nv r+nv r)+(nv r+nv r)\/nv r=0:=ω
      rw[o];rcases e with e|e
      . have E:=K4 e;have J:=OF (nv r+nv r) (nv r+nv r);rw[<-z]at J;omega
      have E:=K4 (m:=2*nv r+g) (n:=1) ω;rw[Uj]at E;have:([1]:Wf).length=1:=rfl;omega
     refine⟨⟨by show D.length<= _;omega,by show d.length<= _;omega⟩,?_⟩;rintro⟨ay,(av:Bool),_⟩ _ A;simp only at A|-;rw[aj,R]at A;refine⟨λw=>?_,λw=>?_⟩
     . have a3:nv b<=2*nv r+g:=by
        rcases sH (2*nv r+g) (nv b)with c|c
        . rw[(A.1 c).2]at w;exact absurd w δ
        exact c
       rw[qT a3]at t u;obtain⟨ae,az,b0⟩:=B7i (q:=q) U (M:=M) (i:=i.toNat) k ah;have b7:=O0 U (i.toNat/32);obtain⟨au,bh⟩:=B2i (d:=dg q (i.toNat/32)) (b:=ae) (s:=i.toNat%32) az ω a1;refine⟨δ,⟨ω,ω⟩,δ,qF _,⟨ω,ω⟩,?_,?_,?_⟩
       . show ay= _;rw[(A.2 a3).1,u]
       . show nv (q.set _ _)= _;rw[qO,qO,show Min.min (i.toNat%32) u32.bits=i.toNat%32 from by show Min.min (i.toNat%32) 32= _;omega];rw[Y7 U,Int.one_mul,show((2:Int)^(i.toNat%32))=((2^(i.toNat%32):Nat):Int)from by rw[xJ];rfl];have bb:2^(i.toNat%32)<=2^31:=rZ δ a1;have ba:(0:Int)<=((2^(i.toNat%32):Nat):Int):=qF _;rw[w32 (a:=((2^(i.toNat%32):Nat):Int)) ω ω,show u32.bits=32 from rfl,au,w32 ω ω,b0,t]
       show(q.set _ _).length= _;rw[qW];exact V
     have b9:2*nv r+g<nv b:=by
      rcases sH (2*nv r+g) (nv b)with c|c
      . exact c
      rw[(A.2 c).2]at w;exact absurd w δ
     rw[qL ω]at t u;refine⟨?_,?_,V⟩
     . show D= _;rw[o,u,g2n]
     show nv q= _;rw[k,t,tJ,sB];grind
   rintro⟨ax,aw,_⟩ _ ⟨ab,ac,ad⟩;simp only at ab ac ad|-;refine⟨⟨ω,ω,?_,?_,ad⟩,ω⟩
   . rw[(ω:i-1+1=i)];exact ab
   rw[(ω:i-1+1=i)];exact ac
 have j:=qB j;rw[(ω:(i+1).toNat=0),g2m,g3l]at f k;rw[xP]at k;have ak:r.length<=8796093022208:=by
  have:=K4 (wG (wH (nv a) (sZ v)));rw[<-f]at this;omega
 refine⟨by show q.length<= _;omega,?_⟩;rintro⟨aw,_⟩ _ y;refine⟨by show r.length<= _;omega,?_⟩;rintro⟨ax,_⟩ _ a5;simp only at y a5|-;refine⟨λh=>absurd h v,λ_=>⟨by rw[y,k],by rw[a5,f,F7],by trivial⟩⟩
def bI:sr Rx ZD:=λx y E=>by
 obtain⟨a,b,_⟩:=x;have B:B4 a:=A5 y.1.2;have D:B4 b:=A5 y.2.1.2;change Wf at a b;obtain⟨G,H⟩:a.length<=8796093022208/\b.length<=8796093022208:=E;have I:=C9 B;have J:=C9 D;simp only[ZD,iB,R0];refine⟨by show a.length<=35184372088832;omega,?_⟩;rintro⟨r,_⟩ _ f;refine⟨by show b.length<=35184372088832;omega,?_⟩;rintro⟨s,_⟩ _ g;simp only at f g|-;refine⟨λp=>p.1=nc (nv p.1)/\p.2.1=nc (nv p.2.1)/\Nat.gcd (nv p.1) (nv p.2.1)=Nat.gcd (nv a) (nv b)/\p.1.length<=8796093022208/\p.2.1.length<=8796093022208,λp=>nv p.2.1,⟨by show r=nc (nv r);rw[f,F7],by show s=nc (nv s);rw[g,F7],by show Nat.gcd (nv r) (nv s)= _;rw[f,g,F7,F7],by show r.length<= _;rw[f];omega,by show s.length<= _;rw[g];omega⟩,?_⟩;rintro⟨(u:Wf),(v:Wf),_⟩ _ ⟨o,c,d,z,n⟩;simp only at o c d z n|-;refine⟨λh=>?_,λh=>?_⟩
 . have h:=qA h;have F:0<nv v:=by
    rcases vN (nv v)with i|i
    . rw[i,Q9]at c;rw[c]at h;exact absurd h (by simp)
    exact i
   refine⟨⟨z,n⟩,?_⟩;rintro⟨q,m,M,_⟩ _ w;simp only at w|-;obtain⟨_,j,_⟩:=w.2 ω;have k:nv m=nv u%nv v:=by rw[j,F7]
   have t:=wH (nv u) F;refine⟨⟨c,by rw[k];exact j,?_,n,?_⟩,by rw[k];exact t⟩
   . rw[k, <-d,wZ (nv u),wZ (nv v)];exact(g3m (nv v) (nv u)).symm
   have:=K4 (wG t);rw[<-j, <-c]at this;omega
 have h:=qB h;have A:nv v=0:=by rw[qM (l:=v) ω];rfl
 rw[A,g1g]at d;rw[o,d]
def kF:An:= {}
def kG:An:= {}
def fF:An:= {}
def UT:An:= {}
def kH:An:= {}
def pQ:An:= {}
def pM:An:= {}
def pN:An:= {plan:= [(2,[1,3,5],[8],true, .done)]}
def pR:An:= {plan:= [(1,[0,1],[4],true, .done)]}
def pP:An:= {plan:= [(1,[1,3,6,8],[11],true, .done)]}
def pO:An:= {}
def aP:An:= {join:= [(10,⟨[4,5],[],[],[(2,56,[.val .bool, .val qa]),(3,56,[.val .bool, .val qa])],[]⟩)],plan:= [(4,[1,3,8],[11,12],true, .done),(6,[0,1],[4],true, .done),(8,[0],[3],true, .done),(9,[0],[3],true, .done),(10,[0],[2,3],false, .done)]}
def QU(x:Bool×Wf×Unit):Prop:=Hh x.2.1/\R0 λr=>r.1=nc (nv x.2.1)->(M0 x.1 (decide ((0:Int)<(r.1.length:Int))) false,r.1)=ic (iv (x.1,x.2.1))
def QV(x:Xq):Prop:=Hh x.1.2/\Y6 λr=>r.1=ic (iv x.1)->r.1=ic (iv x.1)
def LZ(x:ty9):Prop:=((x.1.1==x.2.1.1)=true->True)/\∀(r:Ax),((x.1.1==x.2.1.1)=true->(True/\True)/\r.1=decide (x.1.2=x.2.1.2))->M0 (x.1.1==x.2.1.1) r.1 false=decide (x.1=x.2.1)
def BJ(x:D8):Prop:=(iB (decide (x.1<0)) (True/\R0 λr=>r.1=nc (u64.wrap (u64.wrap (i64.wrap (-i64.wrap (x.1+1)))+(1:Int))).toNat->Hh r.1/\Y6 λa=>a.1=ic (iv (true,r.1))->a.1=ic x.1) (True/\R0 λr=>r.1=nc (u64.wrap x.1).toNat->Hh r.1/\Y6 λa=>a.1=ic (iv (false,r.1))->a.1=ic x.1))
def QW(x:Xq):Prop:=let b:=(iv x.1);Hh x.1.2/\Y6 λr=>let a:Prop:=((r.1.2.length:Int)=(0:Int));r.1=ic b->(iB r.1.1 ((-1:Int)=b.sign) ((iB (decide a) ((0:Int)=b.sign) ((1:Int)=b.sign))))
def ZN(x:Xq):Prop:=Hh x.1.2/\Y6 λr=>r.1=ic (iv (!x.1.1,x.1.2))->r.1=ic (-iv x.1)
def ZI(x:Xq):Prop:=Hh x.1.2/\Y6 λr=>r.1=ic (iv (false,x.1.2))->r.1=ic (↑(iv x.1).natAbs:Int)
def ZJ(x:ty9):Prop:=let b:Prop:=(N9 x.1.2/\N9 x.2.1.2);let a:=(iv x.1+iv x.2.1);(iB ((x.1.1==x.2.1.1)) (b/\R0 λr=>r.1=nc (nv x.1.2+nv x.2.1.2)->Hh r.1/\Y6 λc=>c.1=ic (iv (x.1.1,r.1))->c.1=ic a) (b/\∀(r:A2h),Hi r.1/\True/\True->(nv x.1.2<nv x.2.1.2->r.1= []/\r.2.1=false)/\(nv x.2.1.2<=nv x.1.2->r.1=nc (nv x.1.2-nv x.2.1.2)/\r.2.1=true)->(iB r.2.1 (Hh r.1/\Y6 λc=>c.1=ic (iv (x.1.1,r.1))->c.1=ic a) ((N9 x.2.1.2/\N9 x.1.2)/\∀(r:A2h),Hi r.1/\True/\True->(nv x.2.1.2<nv x.1.2->r.1= []/\r.2.1=false)/\(nv x.1.2<=nv x.2.1.2->r.1=nc (nv x.2.1.2-nv x.1.2)/\r.2.1=true)->Hh r.1/\Y6 λc=>c.1=ic (iv (x.2.1.1,r.1))->c.1=ic a))))
def ZQ(x:ty9):Prop:=Hh x.2.1.2/\Y6 λr=>r.1=ic (-iv x.2.1)->(N9 x.1.2/\N9 r.1.2)/\Y6 λa=>a.1=ic (iv x.1+iv r.1)->a.1=ic (iv x.1-iv x.2.1)
def ZM(x:ty9):Prop:=(N9 x.1.2/\N9 x.2.1.2)/\R0 λr=>r.1=nc (nv x.1.2*nv x.2.1.2)->Hh r.1/\Y6 λa=>a.1=ic (iv (x.1.1 !=x.2.1.1,r.1))->a.1=ic (iv x.1*iv x.2.1)
def ZK(x:ty9):Prop:=(Ga x.1.2/\Ga x.2.1.2)/\R0 λr=>r.1=nc ((nv x.1.2).gcd (nv x.2.1.2))->Hh r.1/\Y6 λa=>a.1=ic (iv (false,r.1))->a.1=ic (↑((nv x.1.2).gcd (nv x.2.1.2)):Int)
def GL(x:ty9):Prop:=let c:=(iv x.1%iv x.2.1);let b:=(iv x.1/iv x.2.1);(Ga x.1.2/\Ga x.2.1.2)/\∀(r:B3w),Hi r.1/\Hi r.2.1/\True/\True->(nv x.2.1.2=0->r.2.2.1=false)/\(nv x.2.1.2≠0->r.1=nc (nv x.1.2/nv x.2.1.2)/\r.2.1=nc (nv x.1.2%nv x.2.1.2)/\r.2.2.1=true)->(iB ((!r.2.2.1)) (iv x.2.1≠0->(false,[])=ic b/\(false,[])=ic c/\false=true) (Hh r.1/\Y6 λd=>d.1=ic (iv (x.1.1 !=x.2.1.1,r.1))->Hh r.2.1/\Y6 λf=>f.1=ic (iv (x.1.1,r.2.1))->∃(J:B7y->Prop),((iB f.1.1 (Hh x.2.1.2/\Y6 λr=>r.1=ic (↑(iv x.2.1).natAbs:Int)->(N9 f.1.2/\N9 r.1.2)/\Y6 λg=>g.1=ic (iv f.1+iv r.1)->(iB x.2.1.1 (True/\Y6 λr=>r.1=ic (1:Int)->(N9 d.1.2/\N9 r.1.2)/\Y6 λe=>e.1=ic (iv d.1+iv r.1)->J (e.1.1,e.1.2,g.1.1,g.1.2,())) (True/\Y6 λr=>r.1=ic (1:Int)->(N9 d.1.2/\N9 r.1.2)/\Y6 λe=>e.1=ic (iv d.1-iv r.1)->J (e.1.1,e.1.2,g.1.1,g.1.2,())))) (J (d.1.1,d.1.2,f.1.1,f.1.2,()))))/\∀(p:B7y),let a:Prop:=(iv x.2.1≠0->(p.1,p.2.1)=ic b/\(p.2.2.1,p.2.2.2.1)=ic c/\true=true);Ty.bool.wf p.1/\(Ty.int u32).sl.wf p.2.1/\Ty.bool.wf p.2.2.1/\(Ty.int u32).sl.wf p.2.2.2.1/\True->J p->a/\a))
def ZL:sr Mf QU:=λx g d=>by
 obtain⟨(b:Bool),(l:Wf),_⟩:=x;have f:l.length<=35184372088832:=d;simp only[QU,R0];refine⟨ω,?_⟩;rintro⟨r,_⟩ _ a;simp only at a|-;rw[C3c,a,J4];have e:decide ((0:Int)<((nc (nv l)).length:Int))=decide (nv l≠0):=by
  rw[vT];constructor
  . intro h c;rw[c,Q9]at h;simp at h
  intro h;have:(nc (nv l)).length≠0:=λh1=>h (Za.1 (qM h1))
  omega
 rw[e]
def ZO:sr Mg QV:=λx b a=>by
 simp only[QV,Y6];exact⟨a,λr _ h=>h⟩
def SX:sr Je LZ:=λx f d=>by
 obtain⟨⟨(a:Bool),(l:Wf)⟩,⟨(b:Bool),(m:Wf)⟩,_⟩:=x;simp only[LZ];refine⟨λ_=>trivial,?_⟩;rintro⟨r,_⟩ c;simp only at c|-;by_cases h:a=b
 . subst h;have:=(c (by simp)).2;rw[this];simp[M0]
 have:(a==b)=false:=by simpa using h
 rw[this];simp[M0,h]
def MA:sr Ez BJ:=λx f _=>by
 obtain⟨(v:Int),_⟩:=x;have d:i64.min<=v/\v<=i64.max:=f.1;rw[Ub,CS]at d;have b:∀n:Nat,n<=9223372036854775808->Hh (nc n):=λn hn=>by
  have:(nc n).length<=2:=Fh ω;show _ <=35184372088832;omega
 simp only[BJ,iB,R0,Y6];refine⟨λh=>⟨trivial,?_⟩,λh=>⟨trivial,?_⟩⟩
 . have h:=qA h;rintro⟨r,_⟩ _ c;simp only at c|-;have e:(u64.wrap (u64.wrap (i64.wrap (-i64.wrap (v+1)))+1)).toNat=v.natAbs:=by
    rw[wv (a:=v+1) ω,wv ω,X7 (a:= -(v+1)) ω ω,X7 ω ω];omega
   rw[e]at c;subst c;refine⟨b _ ω,?_⟩;rintro⟨s,_⟩ _ b;simp only at b|-;rw[b,WG,F7];congr 1;omega
 have h:=qB h;rintro⟨r,_⟩ _ c;simp only at c|-;have e:(u64.wrap v).toNat=v.natAbs:=by rw[Cp];omega
 rw[e]at c;subst c;refine⟨b _ ω,?_⟩;rintro⟨s,_⟩ _ b;simp only at b|-;rw[b,Jq,F7];congr 1;omega
def ZP:sr Mh QW:=λx f d=>by
 obtain⟨c,_⟩:=x;simp only[QW,iB,Y6];refine⟨d,?_⟩;rintro⟨r,_⟩ _ b;simp only at b|-;subst b;generalize iv c=v;refine⟨λh=>?_,λh=>⟨λa=>?_,λa=>?_⟩⟩
 . have h:v<0:=qA h;exact(xE h).symm
 . have a:=qA a;have:nc v.natAbs= []:=qM (by show(ic v).2.length=0;omega);rw[Za]at this;rw[(ω:v=0)];rfl
 have h:¬v<0:=qB h;have a:=qB a;have:v≠0:=λh0=>a (by rw[h0,gG];rfl)
 exact(uW ω).symm
def bQ:sr Sf ZN:=λx d b=>by
 obtain⟨⟨c,l⟩,_⟩:=x;simp only[ZN,Y6];refine⟨b,?_⟩;rintro⟨r,_⟩ _ a;simp only at a|-;rw[a,B1b]
def bN:sr Sc ZJ:=λx r w=>by
 obtain⟨⟨b,l⟩,⟨c,m⟩,_⟩:=x;have u:B4 l:=A5 r.1.2.2;have v:B4 m:=A5 r.2.1.2.2;change Bool at b c;change Wf at l m;obtain⟨G,H⟩:l.length<=17592186044416/\m.length<=17592186044416:=w;have i:N9 l:=ω
 have j:N9 m:=ω
 have B:=C9 u;have D:=C9 v;have E:=OF (nv l) (nv m);simp only[ZJ,iB,R0,Y6];refine⟨λh=>⟨⟨i,j⟩,?_⟩,λh=>⟨⟨i,j⟩,?_⟩⟩
 . have h:b=c:=by simpa using h
   subst h;rintro⟨z,_⟩ _ o;simp only at o|-;subst o;refine⟨ω,?_⟩;rintro⟨s,_⟩ _ a;simp only at a|-;rw[a];congr 1;cases b
   . simp only[Jq,F7];omega
   simp only[WG,F7];omega
 have h:b≠c:=by simpa using h
 rintro⟨z,(y:Bool),_⟩ _ ⟨k,f⟩;simp only at k f|-;refine⟨λd=>?_,λd=>⟨⟨j,i⟩,?_⟩⟩
 . have t:nv m<=nv l:=by
    rcases sH (nv l) (nv m)with g|g
    . rw[(k g).2]at d;cases d
    exact g
   rw[(f t).1];have:=K4 (ω:nv l-nv m<=nv l);refine⟨ω,?_⟩;rintro⟨s,_⟩ _ a;simp only at a|-;rw[a];congr 1;cases b<;>cases c<;>simp only[WG,Jq,F7]<;>first|omega|exact absurd rfl h
 have A:nv l<nv m:=by
  rcases sH (nv l) (nv m)with g|g
  . exact g
  rw[(f g).2]at d;cases d
 rintro⟨I,F,_⟩ _ ⟨_,n⟩;simp only at n|-;rw[(n ω).1];have:=K4 (ω:nv m-nv l<=nv m);refine⟨ω,?_⟩;rintro⟨s,_⟩ _ a;simp only at a|-;rw[a];congr 1;cases b<;>cases c<;>simp only[WG,Jq,F7]<;>first|omega|exact absurd rfl h
def bP:sr Se ZM:=λx f i=>by
 obtain⟨⟨a,l⟩,⟨b,m⟩,_⟩:=x;have g:B4 l:=A5 f.1.2.2;have h:B4 m:=A5 f.2.1.2.2;change Bool at a b;change Wf at l m;obtain⟨o,r⟩:l.length<=17592186044416/\m.length<=17592186044416:=i;have j:=C9 g;have k:=C9 h;have n:=Pq (nv l) (nv m);simp only[ZM,R0,Y6];refine⟨⟨ω,ω⟩,?_⟩;rintro⟨s,_⟩ _ c;simp only at c|-;subst c;refine⟨ω,?_⟩;rintro⟨t,_⟩ _ d;simp only at d|-;rw[d];congr 1;cases a<;>cases b<;>simp[WG,Jq,F7,uU,Int.neg_mul,Int.mul_neg]
def bM:sr Sb ZI:=λx d b=>by
 obtain⟨⟨c,l⟩,_⟩:=x;simp only[ZI,Y6];refine⟨b,?_⟩;rintro⟨r,_⟩ _ a;simp only at a|-;rw[a,K3,Jq]
def bR:sr Sg ZQ:=λx h g=>by
 obtain⟨c,b,_⟩:=x;have f:B4 b.2:=A5 h.2.1.2.2;change Ki at c b;obtain⟨i,k⟩:c.2.length<=17592186044416/\b.2.length<=17592186044416:=g;have j:=C9 f;simp only[ZQ,Y6];refine⟨by show b.2.length<=35184372088832;omega,?_⟩;rintro⟨r,_⟩ _ a;simp only at a|-;refine⟨⟨i,by show r.2.length<= _;rw[a,Cw,yK,K3];omega⟩,?_⟩;rintro⟨s,_⟩ _ d;simp only at d|-;rw[d,a,T7, <-Int.sub_eq_add_neg]
def bO:sr Sd ZK:=λx f j=>by
 obtain⟨a,b,_⟩:=x;have g:B4 a.2:=A5 f.1.2.2;have i:B4 b.2:=A5 f.2.1.2.2;change Ki at a b;obtain⟨k,l⟩:a.2.length<=8796093022208/\b.2.length<=8796093022208:=j;have o:=C9 g;have s:=C9 i;simp only[ZK,R0,Y6];refine⟨⟨k,l⟩,?_⟩;rintro⟨r,_⟩ _ c;simp only at c|-;have n:r.length<=8796093022209:=by
  rw[c];rcases vN (nv a.2)with h|h
  . rw[h,Nat.gcd_zero_left];omega
  have:=K4 (g3x h (g4t (nv a.2) (nv b.2)));omega
 refine⟨by show r.length<=35184372088832;omega,?_⟩;rintro⟨t,_⟩ _ d;simp only at d|-;rw[d,Jq,c,F7]
def PS:sr Hb GL:=λx y P=>by
 obtain⟨⟨sa,a⟩,⟨sb,b⟩,_⟩:=x;have J:B4 a:=A5 y.1.2.2;have N:B4 b:=A5 y.2.1.2.2;change Bool at sa sb;change Wf at a b;obtain⟨V,W⟩:a.length<=8796093022208/\b.length<=8796093022208:=P;have a2:=C9 J;have a3:=C9 N;simp only[GL,iB,Y6];refine⟨⟨V,W⟩,?_⟩;rintro⟨q,m,(U:Bool),_⟩ _ ⟨G,u⟩;simp only at G u|-;refine⟨λh O=>?_,λh=>?_⟩
 . have j:nv b≠0:=λe=>O (by unfold iv;simp[e])
   rw[(u j).2.2]at h;exact absurd h δ
 have j:nv b≠0:=λe=>by rw[G e]at h;exact absurd h δ
 obtain⟨s,r,_⟩:=u j;have a1:q.length<=8796093022208:=by
  have:=K4 (wY (nv a) (nv b));rw[s];omega
 have a0:m.length<=8796093022208:=by
  have:=K4 (wG (wH (nv a) (sZ j)));rw[r];omega
 have F:nv q=nv a/nv b:=by rw[s,F7]
 have E:nv m=nv a%nv b:=by rw[r,F7]
 obtain⟨c1,H⟩:=C0b (sa:=sa) (sb:=sb) (A:=nv a) (B:=nv b) j (a:=iv (sa,a)) (b:=iv (sb,b)) (q:=iv (sa !=sb,q)) (m:=iv (sa,m)) rfl rfl (by rw[<-F];rfl) (by rw[<-E];rfl);refine⟨by show q.length<=35184372088832;omega,?_⟩;rintro⟨Q,_⟩ _ g;refine⟨by show m.length<=35184372088832;omega,?_⟩;rintro⟨M,_⟩ _ f;simp only at g f|-;have Z:Q.2.length<=8796093022208:=by
  have:(nc (nv q)).length=q.length:=by rw[F, <-s]
  rw[g,Cw,K3];show(nc (nv q)).length<= _;omega
 have Y:M.2.length<=8796093022208:=by
  have:(nc (nv m)).length=m.length:=by rw[E, <-r]
  rw[f,Cw,K3];show(nc (nv m)).length<= _;omega
 refine⟨λp=>(p.1,p.2.1)=ic (iv (sa,a)/iv (sb,b))/\(p.2.2.1,p.2.2.2.1)=ic (iv (sa,a)%iv (sb,b)),⟨λc=>?_,λc=>?_⟩,?_⟩
 . have c:iv (sa,m)<0:=by rw[f]at c;exact qA c
   obtain⟨l,n,I⟩:=c1 c;refine⟨by show b.length<=35184372088832;omega,?_⟩;rintro⟨B,_⟩ _ k;simp only at k|-;rw[K3]at k;have X:B.2.length<=8796093022208:=by
    rw[k,Cw,vC];show(nc (nv b)).length<= _;omega
   refine⟨⟨by show M.2.length<= _;omega,by show B.2.length<= _;omega⟩,?_⟩;rintro⟨R,_⟩ _ w;simp only at w|-;have v:R=ic (iv (sa,a)%iv (sb,b)):=by rw[w,f,k,T7,T7,l]
   refine⟨λo=>⟨trivial,?_⟩,λo=>⟨trivial,?_⟩⟩
   . rintro⟨t,_⟩ _ d;simp only at d|-;refine⟨⟨by show Q.2.length<= _;omega,by show t.2.length<= _;rw[d,A0l];show 1<= _;decide⟩,?_⟩;rintro⟨T,_⟩ _ i;simp only at i|-;exact⟨by show T= _;rw[i,g,d,T7,T7,n o],v⟩
   rintro⟨t,_⟩ _ d;simp only at d|-;refine⟨⟨by show Q.2.length<= _;omega,by show t.2.length<= _;rw[d,A0l];show 1<= _;decide⟩,?_⟩;rintro⟨T,_⟩ _ i;simp only at i|-;exact⟨by show T= _;rw[i,g,d,T7,T7,I o],v⟩
 . have c:¬iv (sa,m)<0:=by rw[f]at c;exact qB c
   obtain⟨l,n⟩:=H c;exact⟨by show Q= _;rw[g,n],by show M= _;rw[f,l]⟩
 rintro⟨a4,a5,a6,a7,_⟩ _ ⟨z,D⟩;exact⟨λ_=>⟨z,D,by trivial⟩,λ_=>⟨z,D,by trivial⟩⟩
def ZW:sr Ml RA:=λx a _=>by
 simp only[RA];exact A4i.symm
def SY:sr Jf MB:=λx g f=>by
 obtain⟨⟨c,l⟩,⟨d,m⟩,_⟩:=x;simp only[MB,Od];refine⟨trivial,?_⟩;rintro⟨r,_⟩ _ a;refine⟨λ_=>trivial,?_⟩;rintro⟨s,_⟩ b;simp only at a b|-;by_cases h:c=d
 . subst h;have a:r=true:=by rw[a];simp
   have:=(b a).2;rw[this,a];simp[M0]
 have a:r=false:=by rw[a];simp[h]
 rw[a];simp[M0,h]
def FJ:sr Bt Sy:=λx f c=>by
 obtain⟨d,_⟩:=x;simp only[Sy,P6,Od];refine⟨c,?_⟩;rintro⟨r,_⟩ _ a;refine⟨trivial,?_⟩;rintro⟨s,_⟩ _ b;simp only at a b|-;rw[b,a]
def bU:sr Sj ZX:=λx d b=>by
 obtain⟨c,_⟩:=x;simp only[ZX,P6];refine⟨b,?_⟩;rintro⟨r,_⟩ _ a;simp only at a|-;rw[a];unfold rc ic;simp
def MC:sr Cg BK:=λx f _=>by
 obtain⟨(v:Int),_⟩:=x;have d:i64.min<=v/\v<=i64.max:=f.1;rw[Ub,CS]at d;simp only[BK,P6,Y6];refine⟨trivial,?_⟩;rintro⟨r,_⟩ _ a;refine⟨trivial,?_⟩;rintro⟨s,_⟩ _ b;simp only at a b|-;subst a b;have g:(ic v).2.length<=2:=by rw[Cw];exact Fh ω
 refine⟨⟨ω,by rw[A0l];show 1<= _;decide⟩,?_⟩;rintro⟨t,_⟩ _ c;simp only at c|-;rw[c,lE (T7 1),T7,YA]
def ZU:sr Mj QY:=λx f b=>by
 obtain⟨(q:D4),_⟩:=x;obtain⟨c,d⟩:q.1.2.length<=2199023255552/\q.2.length<=2199023255552:=b;simp only[QY,P6];refine⟨⟨by show q.1.2.length<= _;omega,by show q.2.length<= _;omega⟩,?_⟩;rintro⟨r,_⟩ _ a;simp only at a|-;rw[a,B7e]
def ZV:sr Mk QZ:=λx f g=>by
 obtain⟨q,_⟩:=x;have h:B4 q.1.2:=A5 f.1.1.2.2;have i:B4 q.2:=A5 f.1.2.2;change D4 at q;obtain⟨a,b⟩:q.1.2.length<=2199023255552/\q.2.length<=2199023255552:=g;obtain⟨j,k⟩:=Lz h i a b δ;simp only[QZ,P6,Ef];refine⟨⟨a,b⟩,?_⟩;rintro⟨r,_⟩ _ c;simp only at c|-;have e:r.1=ic (rv q).num:=by rw[c];rfl
 refine⟨by show r.1.2.length<= _;rw[e];omega,?_⟩;rintro⟨s,_⟩ _ d;simp only at d|-;rw[d,e,T7]
def bT:sr Si ZT:=λx h j=>by
 obtain⟨q,_⟩:=x;have k:B4 q.1.2:=A5 h.1.1.2.2;have l:B4 q.2:=A5 h.1.2.2;change D4 at q;obtain⟨b,c⟩:q.1.2.length<=2199023255552/\q.2.length<=2199023255552:=j;obtain⟨n,o⟩:=Lz k l b c δ;simp only[ZT,P6,Y6];refine⟨⟨b,c⟩,?_⟩;rintro⟨r,_⟩ _ f;simp only at f|-;have e:r.1=ic (rv q).num:=by rw[f];rfl
 refine⟨by show r.1.2.length<= _;rw[e];omega,?_⟩;rintro⟨s,_⟩ _ a;refine⟨⟨b,c⟩,?_⟩;rintro⟨i,_⟩ _ d;simp only at a d|-;rw[e,T7]at a;refine⟨⟨by show s.2.length<= _;rw[a,Cw,yK, <-Cw];omega,by show i.2.length<= _;rw[d,Cw,vC];omega⟩,?_⟩;rintro⟨t,_⟩ _ g;simp only at g|-;rw[g];unfold Qu;rw[a,d,T7,T7,lG]
def ZS:sr Mi QX:=λx D O=>by
 obtain⟨c,b,_⟩:=x;have Q:B4 c.2:=A5 D.1.2.2;have R:B4 b.2:=A5 D.2.1.2.2;change Ki at c b;obtain⟨E,F⟩:c.2.length<=8796093022208/\b.2.length<=8796093022208:=O;have a1:=C9 Q;have a2:=C9 R;simp only[QX,iB,P6,Ef,Y6];refine⟨by show b.2.length<=35184372088832;omega,?_⟩;rintro⟨a5,_⟩ _ n;simp only at n|-;refine⟨λh=>⟨trivial,?_⟩,λh=>⟨by show b.2.length<=35184372088832;omega,?_⟩⟩
 . have h:=qA h;rw[n]at h;rintro⟨T,_⟩ _ i;simp only at i|-;rw[i,A5x (yU.1 h)]
 have h:=qB h;have M:iv b≠0:=λe=>h (by rw[n,e];rfl)
 rintro⟨m,_⟩ _ z;simp only at z|-;refine⟨λ_=>trivial,?_⟩;rintro⟨e,_⟩ v;simp only at v|-;refine⟨λa=>⟨by show c.2.length<=35184372088832;omega,?_⟩,λ_=>⟨⟨E,F⟩,?_⟩⟩
 . rw[J4,qC]at a;have k:=(v a.1).2;rw[a.2]at k;have t:m.2= [1]:=qA k.symm;have I:m.1=false:=by simpa using a.1
   have J:iv b=1:=by
    have H:m=(false,[1]):=Prod.ext I t;rw[<-T7 (iv b), <-z,H];rfl
   rintro⟨T,_⟩ _ i;simp only at i|-;rw[i,t,lE J,YA];rfl
 rintro⟨g,_⟩ _ l;simp only at l|-;have N:iv g=((Nat.gcd (nv c.2) (nv b.2):Nat):Int):=by rw[l,T7]
 obtain⟨G0,Gs,Gn,Gp⟩:=B1n (A:=iv c) (B:=iv b) M (G:=Nat.gcd (nv c.2) (nv b.2)) (by rw[K3,K3]);have X:nv b.2≠0:=by rw[<-K3];omega
 have y:g.2.length<=8796093022208:=by
  rw[l,Cw,vC];have:=K4 (g3x ω (yJ (nv c.2) (nv b.2)));omega
 rw[<-N]at Gs Gn Gp;have w:iv g≠0:=ω
 refine⟨⟨E,y⟩,?_⟩;rintro⟨s,a0,a4,_⟩ _ f;refine⟨⟨F,y⟩,?_⟩;rintro⟨j,W,a3,_⟩ _ d;simp only at f d|-;have f:=(f w).1;have d:=(d w).1;have Z:s.2.length<=8796093022208:=by
  rw[f,Cw];have a:=K4 (xH (iv c) (iv g));rw[K3 c]at a;omega
 have Y:j.2.length<=8796093022208:=by
  rw[d,Cw];have a:=K4 (xH (iv b) (iv g));rw[K3 b]at a;omega
 have u:j.1=decide (iv b/iv g<0):=by rw[d];rfl
 refine⟨λp=>((p.1,p.2.1),p.2.2.2.1)=rc (Qu c b),⟨λa=>⟨by show s.2.length<=35184372088832;omega,?_⟩,λa=>?_⟩,?_⟩
 . rw[u]at a;have a:=Gs.1 (qA a);rintro⟨U,_⟩ _ o;refine⟨by show j.2.length<=35184372088832;omega,?_⟩;rintro⟨V,_⟩ _ r;simp only at o r|-;show(U,V.2)= _;rw[f,T7]at o;rw[d,T7]at r;rw[o,r];exact Gn a
 . rw[u]at a;have a:¬iv b<0:=λk=>(qB a) (Gs.2 k)
   show(s,j.2)= _;rw[f,d];exact Gp a
 rintro⟨a6,a7,a8,a9,_⟩ _ P;exact P
def GO:An:= {}
def MQ:An:= {}
def Yf:An:= {}
def GP:An:= {}
def Mr(x:Cr):Prop:=True/\Od λr=>r.1=false->True/\Od λa=>a.1=false->(iB r.1 ((iB a.1 ((0:Int)=M7 x.1 x.2.1) ((-1:Int)=M7 x.1 x.2.1))) ((iB a.1 ((1:Int)=M7 x.1 x.2.1) ((iB (decide (x.1<x.2.1)) ((-1:Int)=M7 x.1 x.2.1) ((iB (decide (x.2.1<x.1)) ((1:Int)=M7 x.1 x.2.1) ((0:Int)=M7 x.1 x.2.1))))))))
def PM(x:D8):Prop:=decide (x.1≠x.1)=false
def Jj(x:Cr):Prop:=True/\Od λr=>r.1=false->True/\Od λa=>a.1=false->(iB r.1 ((iB a.1 ((0:Int)=M7 x.1 x.2.1) ((-1:Int)=M7 x.1 x.2.1))) ((iB a.1 ((1:Int)=M7 x.1 x.2.1) ((iB (decide (x.1<x.2.1)) ((-1:Int)=M7 x.1 x.2.1) ((iB (decide (x.2.1<x.1)) ((1:Int)=M7 x.1 x.2.1) ((0:Int)=M7 x.1 x.2.1))))))))
def IB(x:D8):Prop:=decide (x.1≠x.1)=false
def Xs:sr W8 Mr:=λx f _=>by
 obtain⟨(c:Int),(d:Int),_⟩:=x;simp only[Mr,iB,Od];refine⟨trivial,?_⟩;rintro⟨r,_⟩ _ a;refine⟨trivial,?_⟩;rintro⟨s,_⟩ _ b;change Bool at r s;simp only at a b;rw[a,b];refine⟨λh=>(by cases h),λ_=>⟨λh=>(by cases h),λ_=>⟨λh=>?_,λh=>⟨λh2=>?_,λh2=>?_⟩⟩⟩⟩
 . simp[M7,qA h]
 . simp[M7,qB h,qA h2]
 simp[M7,qB h,qB h2]
def FD (x:A3 Bp.args) (a:awf Bp.args x) (_:Bp.pre x):PM x:=rI λh=>h rfl
def Xt (x:A3 W9.args) (a:awf W9.args x) (_:W9.pre x):IB x:=rI λh=>h rfl
def Ss:sr T3 Jj:=λx f _=>by
 obtain⟨(c:Int),(d:Int),_⟩:=x;simp only[Jj,iB,Od];refine⟨trivial,?_⟩;rintro⟨r,_⟩ _ a;refine⟨trivial,?_⟩;rintro⟨s,_⟩ _ b;change Bool at r s;simp only at a b;rw[a,b];refine⟨λh=>(by cases h),λ_=>⟨λh=>(by cases h),λ_=>⟨λh=>?_,λh=>⟨λh2=>?_,λh2=>?_⟩⟩⟩⟩
 . simp[M7,qA h]
 . simp[M7,qB h,qA h2]
 simp[M7,qB h,qB h2]
def Oe (z:Int):(z<0/\z.sign= -1)\/(z=0/\z.sign=0)\/(0<z/\z.sign=1):=by
 rcases zU z 0 with h|h|h
 . exact .inl ⟨h,xE h⟩
 . exact .inr (.inl ⟨h,by rw[h];rfl⟩)
 exact .inr (.inr ⟨h,uW h⟩)
def Xu:sr X0 Mu:=λx o _=>by
 obtain⟨(p:Ki),(q:Ki),_⟩:=x;simp only[Mu,iB,Ef];refine⟨trivial,?_⟩;rintro⟨r,_⟩ _ l;refine⟨trivial,?_⟩;rintro⟨s,_⟩ _ n;change Int at r s;simp only at l n|-;have np:=K3 p;have t:=K3 q;refine⟨λh=>?_,λh=>⟨λc=>?_,λc=>⟨λg=>⟨trivial,?_⟩,λg=>⟨trivial,?_⟩⟩⟩⟩
 . have h:=qA h;have:iv p<iv q:=by rcases Oe (iv p)with⟨a,b⟩ | ⟨a,b⟩ | ⟨a,b⟩<;>rcases Oe (iv q)with⟨d,f⟩ | ⟨d,f⟩ | ⟨d,f⟩<;>omega
   unfold M7;rw[qT this]
 . have c:=qA c;have:iv q<iv p:=by rcases Oe (iv p)with⟨a,b⟩ | ⟨a,b⟩ | ⟨a,b⟩<;>rcases Oe (iv q)with⟨d,f⟩ | ⟨d,f⟩ | ⟨d,f⟩<;>omega
   unfold M7;rw[qL ω,qT this]
 . have h:=qB h;have c:=qB c;have g:=qA g;rintro⟨u,_⟩ _ i;simp only at i|-;rw[i];have j:iv p<0:=by rcases Oe (iv p)with⟨a,b⟩ | ⟨a,b⟩ | ⟨a,b⟩<;>omega
   have k:iv q<0:=by rcases Oe (iv q)with⟨a,b⟩ | ⟨a,b⟩ | ⟨a,b⟩<;>omega
   unfold Da M7
   (repeat' split)<;>first|rfl|omega
 have h:=qB h;have c:=qB c;have g:=qB g;rintro⟨u,_⟩ _ i;simp only at i|-;rw[i];have j:0<=iv p:=by rcases Oe (iv p)with⟨a,b⟩ | ⟨a,b⟩ | ⟨a,b⟩<;>omega
 have k:0<=iv q:=by rcases Oe (iv q)with⟨a,b⟩ | ⟨a,b⟩ | ⟨a,b⟩<;>omega
 unfold Da M7
 (repeat' split)<;>first|rfl|omega
def Vr:sr V4 Kc:=λx i P=>by
 obtain⟨p,q,_⟩:=x;have a9:B4 p.1.2:=A5 i.1.1.2.2;have aa:B4 p.2:=A5 i.1.2.2;have ab:B4 q.1.2:=A5 i.2.1.1.2.2;have ac:B4 q.2:=A5 i.2.1.2.2;change D4 at p q;obtain⟨T,W⟩:N6 p/\N6 q:=P;obtain⟨Q,R⟩:=T;obtain⟨U,V⟩:=W;simp only[Kc,iB,Ef,Y6];refine⟨trivial,?_⟩;rintro⟨Y,_⟩ _ v;refine⟨trivial,?_⟩;rintro⟨Z,_⟩ _ w;change Int at Y Z;simp only at v w|-;refine⟨λh=>⟨trivial,?_⟩,λh=>⟨trivial,?_⟩⟩
 . have h:=qA h;rintro⟨a0,_⟩ _ d;simp only at d|-;rw[v,w]at h d;rw[d,A5n h]
 rintro⟨o,n,a1,_⟩ _ ⟨j,l⟩;refine⟨trivial,?_⟩;rintro⟨t,bd,a2,_⟩ _ ⟨r,s⟩;change Int at o n t bd;simp only at j l r s|-;refine⟨λh=>⟨trivial,?_⟩,λ_=>⟨trivial,?_⟩⟩
 . rw[J4,qC]at h;have A:K6 p:=rA λhn=>by have:=l hn;rw[this]at h;exact absurd h.1 δ
   have B:K6 q:=rA λhn=>by have:=s hn;rw[this]at h;exact absurd h.2 δ
   obtain⟨F,H,_⟩:=j A;obtain⟨G,I,_⟩:=r B;obtain⟨ag,ah,ai,aj⟩:=Kw A;obtain⟨ak,am,an,ao⟩:=Kw B;have f:=Qz (a:=o) (b:=bd) (M:=2147483647) (N:=2147483647) ω ω ω ω;have g:=Qz (a:=t) (b:=n) (M:=2147483647) (N:=2147483647) ω ω ω ω;rintro⟨X,_⟩ _ c;simp only at c|-;rw[wv ω,wv ω]at c;rw[c, <-Ul p, <-Ul q, <-F, <-H, <-G, <-I,VE ω ω,tL ω,tL ω]
 rintro⟨z,u,_⟩ ⟨a8,a5,_⟩ f;refine⟨trivial,?_⟩;rintro⟨m,e,_⟩ ⟨a7,a6,_⟩ g;change Ki at z m;change Wf at u e;simp only at f g|-;obtain⟨D,J⟩:=Lx f;obtain⟨E,O⟩:=Lx g;obtain⟨ae,a3⟩:=Ia (k:=2199023255552) f Q R δ;obtain⟨ad,a4⟩:=Ia (k:=2199023255552) g U V δ;rw[J,O];refine⟨⟨by show z.2.length<= _;omega,by show e.length<= _;omega⟩,?_⟩;rintro⟨a0,_⟩ _ d;refine⟨⟨by show m.2.length<= _;omega,by show u.length<= _;omega⟩,?_⟩;rintro⟨af,_⟩ _ y;simp only at d y|-;refine⟨trivial,?_⟩;rintro⟨X,_⟩ _ c;simp only at c|-;rw[c,d,y,T7,T7,Jq,Jq,VE D E]
def B7f (q:D4):rv ((!q.1.1,q.1.2),q.2)= -rv q:=by
 unfold rv;rw[Rat.neg_mkRat];congr 1;unfold iv;cases h:q.1.1<;>simp
def IN:sr Di Wn:=λx c b=>by
 obtain⟨(p:D4),(q:D4),_⟩:=x;simp only[Wn,P6];refine⟨b,?_⟩;rintro⟨r,_⟩ _ a;simp only at a|-;rw[a,B7f,tK]
def B6h {n:Nat} (h:n≠0):mkRat (n:Int) n=1:=by
 rw[yQ];rw[uO];exact wO _ (λe=>h (Rat.natCast_eq_zero_iff.1 e))
def B7g {q:D4} (h:rv q≠0):rv ((q.1.1,q.2),q.1.2)=(rv q)⁻¹:=by
 have b:nv q.2≠0:=λe=>h (by unfold rv;rw[e,yM])
 have a:nv q.1.2≠0:=λe=>h (by unfold rv iv;rw[e];split<;>simp)
 have c:rv ((q.1.1,q.2),q.1.2)*rv q=1:=by
  unfold rv;have e:iv (q.1.1,q.2)*iv q.1=((nv q.1.2*nv q.2:Nat):Int):=by
   unfold iv;rw[uU,g2i (nv q.1.2:Int)];cases q.1.1<;>simp[Int.neg_mul_neg]
  rw[g0w,e];exact B6h (zJ a b)
 rw[<-uH (rv ((q.1.1,q.2),q.1.2)), <-wO _ h, <-uD,c,uP]
def IJ:sr Dh Wj:=λx j g=>by
 obtain⟨(p:D4),(q:D4),_⟩:=x;obtain⟨i,c⟩:N6 p/\N6 q:=g;simp only[Wj,iB,P6,Ef];refine⟨trivial,?_⟩;rintro⟨(s:Int),_⟩ _ b;simp only at b|-;refine⟨λh=>?_,λh=>⟨⟨i,c.2,c.1⟩,?_⟩⟩
 . have f:=AE (b▸qA h);exact⟨λ_=>by trivial,λa=>absurd f a⟩
 have h:=qB h;have a:rv q≠0:=λe=>h (by rw[b,e];rfl)
 rintro⟨r,_⟩ _ d;simp only at d|-;refine⟨λe=>absurd e a,λ_=>⟨?_,by trivial⟩⟩;rw[d,B7g a, <-uO]
def Yg:An:= {loop:= [(8,⟨[2,6,36],[0,2],[(37,false,vI)],[],[]⟩)],plan:= [(10,[2,5,8,11],[],true, .done),(11,[10,21,22],[],true, .done)]}
abbrev C4f:=(Wf×Wf×MM×Int×Int×List (List EE))×Int×Unit
def Jk(x:C4f):Prop:=let q:=(1:Int);let j:=(0:Int);let g:Prop:=(j<=x.2.1/\x.2.1<=16384);let e:Prop:=(false=true↔Bi x.1 x.2.1);g/\Od λr=>r.1=decide (K2 x.1.1 x.2.1)->((!r.1)=false->g)/\∀(v:Ax),((!r.1)=false->(True/\True)/\v.1=decide (K2 x.1.2.1 x.2.1))->(iB ((M0 (!r.1) true !v.1)) (e) (True/\Od λt=>t.1=decide (sqr x.1.2.2.1 x.2.1)->((!t.1)=false->True)/\∀(w:Ax),((!t.1)=false->(True/\True)/\w.1=decide (sqr x.1.2.2.2 x.2.1))->(iB ((M0 (!t.1) true !w.1)) (e) (True/\P6 λr=>r.1=ri q->∃(I:D8->Prop),∃(a: _->Nat),I (j,())/\∀(p:D8),let m:=(i64.wrap (p.1+q),());let k:=(gx [] x.1.2.2.2.2.2 p.1);let h:=(gx [] x.1.2.2.1.2.2 p.1);let l:=(↑h.length:Int);let i:=(gx D7 h (i64.wrap (l-q)));let g:Prop:=((gx D7 k j).1≠p.1);let d:Prop:=((↑k.length:Int)=j);let c:Prop:=(j<=i64.wrap (l-q)/\i64.wrap (l-q)<l);let b:Prop:=(l=j);let n:=(decide b);let f:Prop:=(i.1≠p.1);let o:=(decide f);(Ty.int i64).wf p.1/\True->I p->(iB (decide (p.1<x.2.1)) ((j<=p.1/\p.1<(x.1.2.2.1.2.2.length:Int))/\(j<=p.1/\p.1<(x.1.2.2.2.2.2.length:Int))/\(decide b=false->c)/\(M0 n true o=false->c)/\(M0 n true o=false->N6 i.2/\N6 r.1)/\∀(u:D8),let s:=(decide (u.1≠j));(M0 n true o=false->(N8 u.1/\True)/\u.1=VD (rv i.2) (rv r.1))->(iB (M0 (M0 n true o) true s) (e) ((decide d=false->j<=j/\j<(↑k.length:Int))/\(iB (M0 (decide d) true (decide g)) (e) (I m/\a m<a p))))) ((true=true↔Bi x.1 x.2.1)))))))
def Nn:sr P8 He:=λx d _=>by
 obtain⟨(m:J1),(n:Int),_⟩:=x;simp only[He,J4];refine⟨λ_=>trivial,?_⟩;rintro⟨(r:Bool),_⟩ c;simp only at c|-;by_cases a:m.1=n
 . by_cases b:m.2.1=n
   . rw[(c (by rw[rF a,rF b];rfl)).2,rF a,rF b,zE,zE];exact vT.2 ⟨λh=>⟨a,b,h⟩,λh=>h.2.2⟩
   rw[rI b,Bool.and_false,zS];exact(rI λh=>b h.2.1).symm
 rw[rI a,zS,zS];exact(rI λh=>a h.1).symm
def mZ {v:List C8} (h:asc v) (g:v≠ []):gx D7 v ((v.length:Int)-1)∈v/\∀x∈v,x.1<=(gx D7 v ((v.length:Int)-1)).1:=by
 have n:0<v.length:=vK.2 g;have a:=H3 (d:=D7) (l:=v) (i:=(v.length:Int)-1) ω ω;refine⟨G4 ω ω,λx j=>?_⟩;obtain⟨k,c,rfl⟩:=vG.1 j;rw[(ω:((v.length:Int)-1).toNat=v.length-1)]at a;have b:v[v.length-1]' ω=gx D7 v ((v.length:Int)-1):=by
  rw[qN ω]at a;exact xK a
 rw[<-b];by_cases f:k=v.length-1
 . subst f;exact qH _
 exact xL (uF.1 h k (v.length-1) c ω ω)
def A3t {v:List C8} {n:Int} (h:F1 v n) {i:Nat} (u:(i:Int)<n):(v≠ []/\(gx D7 v ((v.length:Int)-1)).1=(i:Int)/\rv (gx D7 v ((v.length:Int)-1)).2=1)↔(∀j:Nat,(j:Int)<n->i<j->A4 v (j:Int)=0)/\A4 v (i:Int)=1:=by
 constructor
 . rintro⟨c,f,a⟩;obtain⟨b,g⟩:=mZ h.1 c;refine⟨λj _ w=>C7 λe d t=>?_,?_⟩
   . have:=g e d;omega
   rw[<-f,N2 h.1 b,a]
 rintro⟨f,a⟩;have c:v≠ []:=λe=>by subst e;rw[Qt]at a;exact absurd a δ
 obtain⟨b,g⟩:=mZ h.1 c;obtain⟨x,l,z⟩:=CJ (show A4 v (i:Int)≠0 from by rw[a];decide);have s:=g x l;obtain⟨o,r,k⟩:=h.2 _ b;have d:(gx D7 v ((v.length:Int)-1)).1=(i:Int):=by
  refine rA λy=>k ?_
  have:=f (gx D7 v ((v.length:Int)-1)).1.toNat ω ω;rw[(ω:(((gx D7 v ((v.length:Int)-1)).1.toNat:Nat):Int)=(gx D7 v ((v.length:Int)-1)).1),N2 h.1 b]at this;exact this
 refine⟨c,d,?_⟩;rw[<-N2 h.1 b,d,a]
def B4a {v:List C8} {n:Int} (h:F1 v n) {i:Nat} :(v≠ []/\(gx D7 v 0).1=(i:Int))↔(∀j:Nat,j<i->A4 v (j:Int)=0)/\A4 v (i:Int)≠0:=by
 cases v with
 |nil=>exact⟨λa=>absurd rfl a.1,λa=>absurd (Qt _) a.2⟩
 |cons e r=>
  have g:gx D7 (e::r) 0=e:=rfl;rw[g];have c:=(h.2 e rB);constructor
  . rintro⟨_,a⟩;exact⟨λj k=>CH h.1 ω,by rw[<-a,N1 h.1];exact c.2.2⟩
  rintro⟨a,d⟩;refine⟨by simp,rA λf=>?_⟩;rcases Int.lt_or_gt_of_ne f with b|b
  . refine c.2.2 ?_;rw[<-N1 h.1];have:=a e.1.toNat ω;rwa[(ω:((e.1.toNat:Nat):Int)=e.1)]at this
  exact d (CH h.1 b)
def nX (L U:J1) (n:Int) (i:Nat):Prop:=(∀j:Nat,(j:Int)<n->i<j->el L i j=0)/\el L i i=1/\(∀j:Nat,j<i->el U i j=0)/\el U i i≠0
def A6j {P Q:Wf} {L U:J1} {n:Int} (d:K2 P n) (f:K2 Q n) (g:sqr L n) (k:sqr U n):Bi (P,Q,L,U) n↔∀i:Nat,(i:Int)<n->nX L U n i:=by
 constructor
 . rintro⟨_,_,_,_,h⟩ i a;exact⟨λj b c=>(h i j a b).1 c,(h i i a a).2.1,λj b=>(h i j a ω).2.2.1 b,(h i i a a).2.2.2⟩
 intro h;exact⟨d,f,g,k,λi j a b=>⟨λc=>(h i a).1 j b c,(h i a).2.1,λb=>(h i a).2.2.1 j b,(h i a).2.2.2⟩⟩
def A2w {p q:Rat} :VD p q=0↔p=q:=by
 unfold VD;by_cases a:p<q
 . rw[qT a];exact⟨λh=>ω,λh=>by subst h;exact absurd a (Rat.lt_irrefl)⟩
 rw[qL a];by_cases b:q<p
 . rw[qT b];exact⟨λh=>ω,λh=>by subst h;exact absurd b (Rat.lt_irrefl)⟩
 rw[qL b];exact⟨λ_=>Rat.le_antisymm (Rat.not_lt.1 b) (Rat.not_lt.1 a),λ_=>rfl⟩
def OH {p:Prop} (h:¬p):(false=true↔p):=⟨λa=>(by cases a),λhp=>absurd hp h⟩
def Su:sr T4 Jk:=λx ar a9=>by
 obtain⟨⟨P,Q,(L:J1),(U:J1)⟩,(n:Int),_⟩:=x;obtain⟨J,V,a7,am⟩:0<=n/\n<=16384/\S4 K1 L/\S4 K1 U:=a9;simp only[Jk,iB,P6,Od,H5];refine⟨⟨J,V⟩,?_⟩;rintro⟨(af:Bool),_⟩ _ D;simp only at D|-;refine⟨λ_=>⟨J,V⟩,?_⟩;rintro⟨(ag:Bool),_⟩ k;simp only at k|-;by_cases w:K2 P n
 case neg=>
  rw[D,rI w];exact⟨λ_=>OH λh=>w h.1,λh=>by simp at h⟩
 have k:=(k (by rw[D,rF w];rfl)).2;by_cases G:K2 Q n
 case neg=>
  rw[k,rI G];exact⟨λ_=>OH λh=>G h.2.1,λh=>by simp at h⟩
 rw[D,k,rF w,rF G];refine⟨λh=>by simp at h,λ_=>⟨trivial,?_⟩⟩;rintro⟨(ah:Bool),_⟩ _ E;simp only at E|-;refine⟨λ_=>trivial,?_⟩;rintro⟨(ai:Bool),_⟩ l;simp only at l|-;by_cases g:sqr L n
 case neg=>
  rw[E,rI g];exact⟨λ_=>OH λh=>g h.2.2.1,λh=>by simp at h⟩
 have l:=(l (by rw[E,rF g];rfl)).2;by_cases y:sqr U n
 case neg=>
  rw[l,rI y];exact⟨λ_=>OH λh=>y h.2.2.2.1,λh=>by simp at h⟩
 rw[E,l,rF g,rF y];refine⟨λh=>by simp at h,λ_=>⟨trivial,?_⟩⟩;rintro⟨(one:D4),_⟩ _ M;simp only at M|-;have T:=A6j w G g y;obtain⟨ad,ae,Y⟩:=g;obtain⟨aj,ak,a0⟩:=y;have ao:(L.2.2.length:Int)=n:=Y.2.2.2.2.1.trans ad;have aq:(U.2.2.length:Int)=n:=a0.2.2.2.2.1.trans aj;have W:rv one=1:=by rw[M];exact KY 1
 have aa:N6 one:=by rw[M, <-YA];exact Ik (HV δ) δ
 refine⟨λp=>0<=p.1/\p.1<=n/\∀i:Nat,(i:Int)<p.1->nX L U n i,λp=>(n-p.1).toNat,⟨qH _,J,λi R=>ω⟩,?_⟩;rintro⟨(t:Int),_⟩ _ o;simp only at o|-;obtain⟨z,au,o⟩:=o;refine⟨λs=>?_,λs=>?_⟩
 . have s:=qA s;have X:F1 (gx [] L.2.2 t) n:=by have:=Y.2.2.2.2.2 _ (G4 (d:= []) z (ω:t<(L.2.2.length:Int)));rwa[ae]at this
   have ac:F1 (gx [] U.2.2 t) n:=by have:=a0.2.2.2.2.2 _ (G4 (d:= []) z (ω:t<(U.2.2.length:Int)));rwa[ak]at this
   have ab:=a7 _ (G4 (d:= []) z (ω:t<(L.2.2.length:Int)));have O:((t.toNat:Nat):Int)=t:=ω
   have Z:=A3t X (i:=t.toNat) ω;have a1:=B4a ac (i:=t.toNat);rw[O]at Z a1;have F:nX L U n t.toNat↔((∀j:Nat,(j:Int)<n->t.toNat<j->A4 (gx [] L.2.2 t) (j:Int)=0)/\A4 (gx [] L.2.2 t) t=1)/\(∀j:Nat,j<t.toNat->A4 (gx [] U.2.2 t) (j:Int)=0)/\A4 (gx [] U.2.2 t) t≠0:=by
    unfold nX el;rw[O];exact(and_assoc (a:=∀j:Nat,(j:Int)<n->t.toNat<j->A4 (L.2.2.getD t.toNat []) (j:Int)=0)).symm
   rw[<-Z, <-a1]at F;have N:¬nX L U n t.toNat->¬Bi (P,Q,L,U) n:=λh hh=>h (T.1 hh t.toNat ω)
   have c:∀ {v:List C8},((v.length:Int)=0)↔v= []:=λ{v} =>⟨λh=>qM ω,λh=>by rw[h];rfl⟩
   have an:=Fc X;have u:(gx [] L.2.2 t)≠ []->i64.wrap (((gx [] L.2.2 t).length:Int)-1)=((gx [] L.2.2 t).length:Int)-1:=λh=>by
    have:=vK.2 h;exact wv ω
   refine⟨⟨z,ω⟩,⟨z,ω⟩,λh=>?_,λh=>?_,λh=>?_,?_⟩
   . have h:=mt c.2 (qB h);have:=vK.2 h;rw[u h];omega
   . simp only[rE]at h;have h:=mt c.2 (qB h.1);have:=vK.2 h;rw[u h];omega
   . simp only[rE]at h;have h:=mt c.2 (qB h.1);have ap:=vK.2 h;rw[u h];exact⟨R8 (ab _ (G4 ω ω)) δ,aa⟩
   rintro⟨(a2:Int),_⟩ b;simp only at b|-;refine⟨λh=>OH (N λr=>?_),λh=>⟨λf=>⟨qH _,?_⟩,λf=>OH (N λr=>?_),λf=>?_⟩⟩
   . obtain⟨⟨B,I,a6⟩,_⟩:=F.1 r;rw[u B]at b h;have A:decide (((gx [] L.2.2 t).length:Int)=0)=false:=rI (mt c.1 B);have H:decide ((gx D7 (gx [] L.2.2 t) (((gx [] L.2.2 t).length:Int)-1)).1≠t)=false:=rI (by rw[tS];exact I);rw[A,H]at b h;have b:=(b rfl).2;rw[W,a6]at b;rw[b,A2w.2 rfl]at h;simp at h
   . have:=mt c.2 (qB f);have:=vK.2 this;omega
   . obtain⟨_,B,I⟩:=F.1 r;rw[rI (mt c.1 B),rI (by rw[tS];exact I)]at f;simp at f
   simp only[rE]at h f;have A:=mt c.2 (qB h.1.1);rw[u A]at b h;have H:=tS.1 (qB h.1.2);have a3:=tS.1 (qB h.2);have b:=(b (by rw[h.1.1,h.1.2];rfl)).2;rw[a3,W]at b;have a4:=mt c.2 (qB f.1);have a5:=tS.1 (qB f.2);have r:=F.2 ⟨⟨A,H,A2w.1 b.symm⟩,a4,a5⟩;rw[wv ω];refine⟨⟨ω,ω,λi R=>?_⟩,ω⟩;by_cases a8:i=t.toNat
   . subst a8;exact r
   exact o i ω
 have s:=qB s;exact⟨λ_=>T.2 λi R=>o i ω,λ_=>trivial⟩
end Go.Proofs.YtdbnghliccifcaaGreat
