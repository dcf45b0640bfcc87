/- Part. -/
import Derived.Test.YtknoakmaeleclaaGreatKWH
set_option linter.all false
namespace Go.Proofs.YtknoakmaeleclaaGreat
open Go.Proofs.Tryz
open Go.Vc Go.Gw
open Go.IntKind (i64 u64 u32)
def YA:An:= {join:= [(4,⟨[],[],[(0,false,[.val qa]),(1,false,[.val qa])],[],[]⟩),(12,⟨[0,1,5,7,24,25,26],[0],[(6,false,vU)],[],[]⟩)],loop:= [(7,⟨[0,1,5,24,25],[],[(6,false,vU),(26,false,vI)],[],[(0, .row qh 131)]⟩)]}
def YD:An:= {join:= [(12,⟨[1,6,8,22,23,24],[0],[(10,false,vU)],[],[]⟩)],loop:= [(7,⟨[1,6,22,23],[],[(7,false,vU),(24,false,vI)],[],[(0, .row qh 131)]⟩)]}
def YC:An:= {join:= [(18,⟨[1,5,29,30,31],[],[],[],[(0, .row qh 131)]⟩)],loop:= [(11,⟨[1,5,6,7,29,30,31,38,39],[],[(8,false,vU),(40,false,vI)],[],[(0, .row qh 131)]⟩),(6,⟨[1,5,29,30],[],[(31,false,vI)],[],[(0, .row qh 131)]⟩)]}
def Ry:An:= {loop:= [(4,⟨[0,1,4],[],[(6,false,vU),(7,false,vI)],[],[(0, .row qh 131)]⟩)]}
def Yh:An:= {join:= [(15,⟨[0,6,7,8,29,30,31],[0],[(10,false,vU)],[],[]⟩)],loop:= [(10,⟨[0,6,7,29,30],[],[(31,false,vI)],[],[(0, .row qh 131)]⟩)]}
def HZ:An:= {loop:= [(4,⟨[0,1,5,13,14],[],[(6,false,vU),(15,false,vI)],[],[(0, .row qh 131)]⟩)]}
abbrev Tz:=Int×Int×Wf×Unit
def CC(x:Hl):Prop:=let f:=(1:Int);let c:=(0:Int);True/\Q4 λr=>r.1=nc (nv x.1)->True/\Q4 λj=>let e:Prop:=((r.1.length:Int)<(j.1.length:Int));j.1=nc (nv x.2.1)->∃(J:Hl->Prop),((iB (decide e) (J (j.1,r)) (J (r.1,j))))/\∀(p:Hl),let d:=(p.2.1.length:Int);let a:=(p.1.length:Int);(Ty.int u32).sl.wf p.1/\(Ty.int u32).sl.wf p.2.1/\True->J p->(c<=i64.wrap (a+f)/\i64.wrap (a+f)<=i64.wrap (a+f)/\(↑(4:Nat):Int)*i64.wrap (a+f)<=(281474976710656:Int)/\i64.wrap (a+f)<=(9223372036854775807:Int))/\∃(I:Tz->Prop),∃(j: _->Nat),I (c,c,List.replicate (i64.wrap (a+f)).toNat c,())/\∀(i:Tz),let h:=(gx c p.1 i.2.1);let g:=(i.2.2.1.length:Int);(Ty.int u64).wf i.1/\(Ty.int i64).wf i.2.1/\Ir i.2.2.1/\True->I i->(iB (decide (i.2.1<a)) ((c<=i.2.1/\i.2.1<a)/\∃(J:C8->Prop),((iB (decide (i.2.1<d)) ((c<=i.2.1/\i.2.1<d)/\J (u64.wrap (u64.wrap (i.1+u64.wrap h)+u64.wrap (gx c p.2.1 i.2.1)),())) (J (u64.wrap (i.1+u64.wrap h),()))))/\∀(p:C8),let b:=(Int.fdiv p.1 ((2:Int)^Min.min ((32:Int).toNat) u64.bits),i64.wrap (i.2.1+f),List.set i.2.2.1 i.2.1.toNat (u32.wrap p.1),());(Ty.int u64).wf p.1/\True->J p->(c<=i.2.1/\i.2.1<g)/\(0:(Ty.int u64).den)<=(32:Int)/\I b/\j b<j i) ((c<=a/\a<g)/\True/\Q4 λr=>r.1=nc (nv (List.set i.2.2.1 a.toNat (u32.wrap i.1)))->r.1=nc (nv x.1+nv x.2.1)))
def CH(x:Hl):Prop:=let f:=(nv x.1-nv x.2.1);let c:=(0:Int);True/\Q4 λr=>let a:=(r.1.length:Int);r.1=nc (nv x.1)->True/\Q4 λg=>let d:=(g.1.length:Int);g.1=nc (nv x.2.1)->True/\Fg λi=>i.1=Dt (nv r.1) (nv g.1)->(iB (decide (i.1<c)) ((nv x.1<nv x.2.1->Bh Int= []/\false=false)/\(nv x.2.1<=nv x.1->Bh Int=nc f/\false=true)) ((c<=a/\a<=a/\(↑(4:Nat):Int)*a<=(281474976710656:Int)/\a<=(9223372036854775807:Int))/\∃(I:Tz->Prop),∃(j: _->Nat),I (c,c,List.replicate a.toNat c,())/\∀(p:Tz),let e:=(u64.wrap (gx c r.1 p.2.1)-p.1);(Ty.int u64).wf p.1/\(Ty.int i64).wf p.2.1/\Ir p.2.2.1/\True->I p->(iB (decide (p.2.1<a)) ((c<=p.2.1/\p.2.1<a)/\∃(J:C8->Prop),((iB (decide (p.2.1<d)) ((c<=p.2.1/\p.2.1<d)/\J (u64.wrap (u64.wrap e-u64.wrap (gx c g.1 p.2.1)),())) (J (u64.wrap e,()))))/\∀(h:C8),let b:=(Int.fdiv h.1 ((2:Int)^Min.min ((63:Int).toNat) u64.bits),i64.wrap (p.2.1+1),List.set p.2.2.1 p.2.1.toNat (u32.wrap h.1),());(Ty.int u64).wf h.1/\True->J h->(c<=p.2.1/\p.2.1<(p.2.2.1.length:Int))/\(0:(Ty.int u64).den)<=(63:Int)/\I b/\j b<j p) (True/\Q4 λr=>r.1=nc (nv p.2.2.1)->(nv x.1<nv x.2.1->r.1= []/\true=false)/\(nv x.2.1<=nv x.1->r.1=nc f/\true=true)))))
def CG(x:Hl):Prop:=let o:=(nv x.1*nv x.2.1);let k:=(0:Int);True/\∀(r:Ua),let j:=(r.1.length:Int);let e:Prop:=(j=k);Ir r.1/\True->r.1=nc (nv x.1)->True/\∀(s:Ua),let h:=(s.1.length:Int);let d:Prop:=(h=k);Ir s.1/\True->s.1=nc (nv x.2.1)->(iB (G9 (decide e) true (decide d)) (Bh Int=nc o) ((k<=i64.wrap (j+h)/\i64.wrap (j+h)<=i64.wrap (j+h)/\(↑(4:Nat):Int)*i64.wrap (j+h)<=(281474976710656:Int)/\i64.wrap (j+h)<=(9223372036854775807:Int))/\∃(I:oZ->Prop),∃(a: _->Nat),I (k,List.replicate (i64.wrap (j+h)).toNat k,())/\∀(p:oZ),let f:Prop:=(gx k r.1 p.1=k);let c:Prop:=(p.1<j);(Ty.int i64).wf p.1/\Ir p.2.1/\True->I p->(iB (decide c) (∃(J:Ua->Prop),((k<=p.1/\c)/\(iB (decide f) (J (p.2.1,())) (∃(I:Tz->Prop),∃(a: _->Nat),I (k,k,p.2.1,())/\∀(q:Tz),let n:=(q.2.2.1.length:Int);let m:=(i64.wrap (p.1+q.2.1));let g:=(u64.wrap (q.1+u64.wrap (u64.wrap (u64.wrap (gx k r.1 p.1)*u64.wrap (gx k s.1 q.2.1))+u64.wrap (List.getD q.2.2.1 m.toNat k))));let i:=(g.fdiv ((2:Int)^Min.min ((32:Int).toNat) u64.bits),i64.wrap (q.2.1+1),List.set q.2.2.1 m.toNat (u32.wrap g),());let c:Prop:=(q.2.1<h);let b:Prop:=(k<=i64.wrap (p.1+q.2.1)/\i64.wrap (p.1+q.2.1)<n);(Ty.int u64).wf q.1/\(Ty.int i64).wf q.2.1/\Ir q.2.2.1/\True->I q->(iB (decide c) ((k<=q.2.1/\c)/\b/\b/\(0:(Ty.int u64).den)<=(32:Int)/\I i/\a i<a q) ((k<=i64.wrap (p.1+h)/\i64.wrap (p.1+h)<n)/\J (List.set q.2.2.1 (i64.wrap (p.1+h)).toNat (u32.wrap q.1),()))))))/\Q4 λq=>let l:=(i64.wrap (p.1+1),q);J q->I l/\a l<a p) (True/\Q4 λr=>r.1=nc (nv p.2.1)->r.1=nc o))))
def Hg(x:fS):Prop:=let e:=(u64.wrap x.2.1);let d:=(0:Int);let c:=(x.1.length:Int);(d<=c/\c<=c/\(↑(4:Nat):Int)*c<=(281474976710656:Int)/\c<=(9223372036854775807:Int))/\∃(I:Tz->Prop),∃(f: _->Nat),I (d,i64.wrap (c-(1:Int)),List.replicate c.toNat d,())/\∀(p:Tz),let a:=(u64.wrap (↑(BitVec.ofInt u64.bits (u64.wrap (p.1*2^Min.min ((32:Int).toNat) u64.bits)) |||BitVec.ofInt u64.bits (u64.wrap (gx d x.1 p.2.1))).toNat:Int));let b:=(a.tmod e,i64.wrap (p.2.1-1),List.set p.2.2.1 p.2.1.toNat (u32.wrap (u64.wrap (a.tdiv e))),());(Ty.int u64).wf p.1/\(Ty.int i64).wf p.2.1/\Ir p.2.2.1/\True->I p->(iB (decide (d<=p.2.1)) ((0:(Ty.int u64).den)<=(32:Int)/\(d<=p.2.1/\p.2.1<c)/\u64.wrap x.2.1≠d/\(d<=p.2.1/\p.2.1<(p.2.2.1.length:Int))/\u64.wrap x.2.1≠d/\I b/\f b<f p) (True/\Q4 λr=>r.1=nc (nv p.2.2.1)->True/\Q4 λf=>f.1=nc p.1.toNat->r.1=nc (nv x.1/x.2.1.toNat)/\f.1=nc (nv x.1%x.2.1.toNat)))
def Jc(x:fS):Prop:=let l:=(1:Int);let j:=(nv x.1/(2:Nat)^x.2.1.toNat);let i:=(32:Int);let h:=(i64.wrap (Int.tdiv x.2.1 i));let g:=(0:Int);(iB (decide (x.2.1<g)) ((x.2.1<g->Bh Int= []/\false=false)/\(g<=x.2.1->Bh Int=nc j/\false=true)) (True/\∀(r:Ua),let e:=(r.1.length:Int);let d:=(↑(List.drop h.toNat (List.take e.toNat r.1)).length:Int);let a:Prop:=(e<=i64.wrap (Int.tdiv x.2.1 i));Ir r.1/\True->r.1=nc (nv x.1)->i≠g/\(iB (decide a) ((x.2.1<g->Bh Int= []/\true=false)/\(g<=x.2.1->Bh Int=nc j/\true=true)) (i≠g/\(g<=i64.wrap (Int.tdiv x.2.1 i)/\i64.wrap (Int.tdiv x.2.1 i)<=e/\e<=e)/\i≠g/\(g<=d/\d<=d/\(↑(4:Nat):Int)*d<=(281474976710656:Int)/\d<=(9223372036854775807:Int))/\∃(I:oZ->Prop),∃(c: _->Nat),I (g,List.replicate d.toNat g,())/\∀(p:oZ),let k:=(gx g (List.drop h.toNat (List.take e.toNat r.1)) p.1);let b:Prop:=(p.1<d);let a:Prop:=(i64.wrap (p.1+l)<d);(Ty.int i64).wf p.1/\Ir p.2.1/\True->I p->(iB (decide b) ((g<=p.1/\b)/\∃(J:C8->Prop),((iB (decide a) ((g<=i64.wrap (p.1+l)/\a)/\(0:(Ty.int u64).den)<=i/\J (u64.wrap (↑(BitVec.ofInt u64.bits (u64.wrap k) |||BitVec.ofInt u64.bits (u64.wrap (u64.wrap (gx g (List.drop h.toNat (List.take e.toNat r.1)) (i64.wrap (p.1+l)))*(2:Int)^Min.min i.toNat u64.bits))).toNat:Int),())) (J (u64.wrap k,()))))/\∀(m:C8),let f:=(i64.wrap (p.1+l),List.set p.2.1 p.1.toNat (u32.wrap (Int.fdiv m.1 ((2:Int)^Min.min (Int.tmod x.2.1 i).toNat u64.bits))),());(Ty.int u64).wf m.1/\True->J m->(0:(Ty.int i64).den)<=Int.tmod x.2.1 i/\(g<=p.1/\p.1<(p.2.1.length:Int))/\I f/\c f<c p) (True/\Q4 λr=>r.1=nc (nv p.2.1)->(x.2.1<g->r.1= []/\true=false)/\(g<=x.2.1->r.1=nc j/\true=true)))))))
def Ow(x:fS):Prop:=let f:=(1:Int);let d:=(0:Int);let b:=(x.1.length:Int);(d<=i64.wrap (b+f)/\i64.wrap (b+f)<=i64.wrap (b+f)/\(↑(4:Nat):Int)*i64.wrap (b+f)<=(281474976710656:Int)/\i64.wrap (b+f)<=(9223372036854775807:Int))/\∃(I:Tz->Prop),∃(h: _->Nat),I (d,d,List.replicate (i64.wrap (b+f)).toNat d,())/\∀(p:Tz),let g:=(p.2.2.1.length:Int);let e:=(List.set p.2.2.1 b.toNat (u32.wrap p.1));let a:=(u64.wrap (↑(BitVec.ofInt u64.bits p.1|||BitVec.ofInt u64.bits (u64.wrap (u64.wrap (gx d x.1 p.2.1)*(2:Int)^Min.min x.2.1.toNat u64.bits))).toNat:Int));let c:=(a.fdiv ((2:Int)^Min.min ((32:Int).toNat) u64.bits),i64.wrap (p.2.1+f),List.set p.2.2.1 p.2.1.toNat (u32.wrap a),());(Ty.int u64).wf p.1/\(Ty.int i64).wf p.2.1/\Ir p.2.2.1/\True->I p->(iB (decide (p.2.1<b)) ((d<=p.2.1/\p.2.1<b)/\(0:(Ty.int i64).den)<=x.2.1/\(d<=p.2.1/\p.2.1<g)/\(0:(Ty.int u64).den)<=(32:Int)/\I c/\h c<h p) ((d<=b/\b<g)/\e.length=x.1.length+(1:Nat)/\nv e=nv x.1*2^x.2.1.toNat))
def A8g (v:Int) (_:0<=v):Int.fdiv v (2^Min.min (Int.toNat 32) u64.bits)=v/4294967296:=by
 rw[show Min.min (Int.toNat 32) u64.bits=32 from rfl,sL _ δ];rfl
def D0a (v:Int) (_:0<=v):Int.fdiv v (2^Min.min (Int.toNat 63) u64.bits)=v/9223372036854775808:=by
 rw[show Min.min (Int.toNat 63) u64.bits=63 from rfl,sL _ δ];rfl
def MR {v b:Int} {k:Nat} (v0:0<=v) (v1:v<2^k) (b0:0<=b) (a:b*2^k<18446744073709551616) (c:v<18446744073709551616):(((BitVec.ofInt 64 (b*2^k) |||BitVec.ofInt 64 v).toNat:Nat):Int)=v+b*2^k:=by
 rw[BitVec.or_comm];exact bN v0 v1 b0 a c
def NQ:sx Ft CC:=λx y H=>by
 obtain⟨a,b,_⟩:=x;have F:A7 a:=A3 y.1.2;have G:A7 b:=A3 y.2.1.2;change Wf at a b;obtain⟨R,T⟩:a.length<=17592186044416/\b.length<=17592186044416:=H;have U:=D2 F;have V:=D2 G;simp only[CC,iB,Q4];refine⟨trivial,?_⟩;rintro⟨M,_⟩ _ g;refine⟨trivial,?_⟩;rintro⟨W,_⟩ _ w;simp only at g w|-;subst g w;refine⟨λp=>p.2.1.length<=p.1.length/\p.1.length<=17592186044416/\nv p.1+nv p.2.1=nv a+nv b,⟨λh=>?_,λh=>?_⟩,?_⟩
 . have h:=qA h;refine⟨by show(nc (nv a)).length<=(nc (nv b)).length;omega,by show(nc (nv b)).length<= _;omega,?_⟩;show nv (nc (nv b))+nv (nc (nv a))= _;rw[F7,F7,vV]
 . have h:=qB h;refine⟨by show(nc (nv b)).length<=(nc (nv a)).length;omega,by show(nc (nv a)).length<= _;omega,?_⟩;show nv (nc (nv a))+nv (nc (nv b))= _;rw[F7,F7]
 rintro⟨(P:Wf),(Q:Wf),_⟩ ⟨I,J,_⟩ ⟨n,A,o⟩;simp only at n A o|-;have s:A7 P:=A3 I.2;have t:A7 Q:=A3 J.2;rw[wv (a:=(P.length:Int)+1) ω];refine⟨⟨ω,qH _,by simp;omega,ω⟩,?_⟩;refine⟨λp=>0<=p.2.1/\p.2.1<=(P.length:Int)/\0<=p.1/\p.1<=1/\p.2.2.1.length=P.length+1/\nv (p.2.2.1.take p.2.1.toNat)+4294967296^p.2.1.toNat*p.1.toNat=nv (P.take p.2.1.toNat)+nv (Q.take p.2.1.toNat),λp=>((P.length:Int)-p.2.1).toNat,⟨qH _,qF _,qH _,by show(0:Int)<=1;omega,by rw[rN];omega,by simp[nv]⟩,?_⟩;rintro⟨(f:Int),(i:Int),(out:Wf),_⟩ ⟨_,_,O,_⟩ ⟨d,B,D,E,r,j⟩;simp only at d B D E r j|-;have N:=N8 s i.toNat;have dQ:=N8 t i.toNat;refine⟨λk=>?_,λk=>?_⟩
 . have h:i<(P.length:Int):=qA k;rw[Gy s d h,Z9 (a:=(dg P i.toNat:Int)) ω ω,Z9 (a:=f+(dg P i.toNat:Int)) ω ω];refine⟨⟨d,h⟩,λp=>p.1=f+(dg P i.toNat:Int)+(dg Q i.toNat:Int),⟨λc=>?_,λc=>?_⟩,?_⟩
   . have c:=qA c;refine⟨⟨d,c⟩,?_⟩;show u64.wrap _= _;rw[Gy t d c,Z9 (a:=(dg Q i.toNat:Int)) ω ω,Z9 ω ω]
   . have c:=qB c;show f+(dg P i.toNat:Int)= _;rw[Qu (l:=Q) ω];omega
   rintro⟨(z:Int),_⟩ _ u;simp only at u|-;subst u;refine⟨⟨d,ω⟩,δ,?_⟩;rw[A8g _ ω,wv ω,Dj];refine⟨⟨ω,ω,ω,ω,by rw[qM];exact r,?_⟩,ω⟩;rw[(ω:(i+1).toNat=i.toNat+1),U4 ω,J3 P,J3 Q,rY];exact jL j ω
 . have h:=qB k;refine⟨⟨ω,ω⟩,trivial,?_⟩;rintro⟨M,_⟩ _ g;simp only at g|-;rw[g];congr 1;rw[(ω:i.toNat=P.length),qW (qV P.length),qW n]at j;rw[qJ,w32 ω ω];have e:=U4 (l:=out) (i:=P.length) (v:=f) ω;rw[qW (by rw[qM];omega)]at e;rw[e,j,o]
def NU:sx Fw CH:=λx F O=>by
 obtain⟨a,d,_⟩:=x;have I:A7 a:=A3 F.1.2;have J:A7 d:=A3 F.2.1.2;change Wf at a d;obtain⟨Y,Z⟩:a.length<=17592186044416/\d.length<=17592186044416:=O;have T:=D2 I;have a0:=D2 J;simp only[CH,iB,Fg,Q4];refine⟨trivial,?_⟩;rintro⟨r,_⟩ _ c;refine⟨trivial,?_⟩;rintro⟨s,_⟩ _ g;refine⟨trivial,?_⟩;rintro⟨w,_⟩ _ k;simp only at c g k|-;rw[c,g,F7,F7]at k;subst k;refine⟨λh=>?_,λh=>?_⟩
 . have h:=qA h;refine⟨λ_=>⟨by trivial,by trivial⟩,λv=>?_⟩;unfold Dt at h;rw[qG ω]at h;split at h<;>omega
 . have h:=qB h;have v:nv d<=nv a:=by
    rcases sD (nv a) (nv d)with j|j
    . rw[Pr j]at h;omega
    . exact j
   have A:A7 r:=c▸K5 _;have D:A7 s:=g▸K5 _;have B:nv r=nv a:=by rw[c,F7]
   have E:nv s=nv d:=by rw[g,F7]
   have X:r.length<=a.length:=by rw[c];exact T
   have Q:s.length<=r.length:=by rw[c,g];exact J7 v
   rw[<-B, <-E]at v|-;clear c g B E;refine⟨⟨ω,qH _,by simp;omega,ω⟩,?_⟩;refine⟨λp=>0<=p.2.1/\p.2.1<=(r.length:Int)/\0<=p.1/\p.1<=1/\p.2.2.1.length=r.length/\nv (r.take p.2.1.toNat)+4294967296^p.2.1.toNat*p.1.toNat=nv (p.2.2.1.take p.2.1.toNat)+nv (s.take p.2.1.toNat),λp=>((r.length:Int)-p.2.1).toNat,⟨qH _,qF _,qH _,by show(0:Int)<=1;omega,by simp,by simp[nv]⟩,?_⟩;rintro⟨(o:Int),(i:Int),(out:Wf),_⟩ ⟨_,_,R,_⟩ ⟨f,j,G,H,u,n⟩;simp only at f j G H u n|-;have N:A7 out:=A3 R.2;have U:=N8 A i.toNat;have V:=N8 D i.toNat;refine⟨λt=>?_,λt=>?_⟩
   . have h:i<(r.length:Int):=qA t;rw[Gy A f h,Z9 (a:=(dg r i.toNat:Int)) ω ω];refine⟨⟨f,h⟩,λp=>p.1=((dg r i.toNat:Int)-o-(dg s i.toNat:Int))%18446744073709551616,⟨λb=>?_,λb=>?_⟩,?_⟩
     . have b:=qA b;refine⟨⟨f,b⟩,?_⟩;show u64.wrap _= _;rw[Gy D f b,Z9 (a:=(dg s i.toNat:Int)) ω ω,Dk,Dk];omega
     . have b:=qB b;show u64.wrap _= _;rw[Qu (l:=s) ω,Dk];omega
     rintro⟨(w:Int),_⟩ _ k;simp only at k|-;refine⟨⟨f,ω⟩,δ,?_⟩;rw[D0a _ ω,wv ω,Dj];refine⟨⟨ω,ω,ω,ω,by rw[qM];exact u,?_⟩,ω⟩;rw[(ω:(i+1).toNat=i.toNat+1),U4 ω,J3 r,J3 s,rY];exact aR n ω
   . have h:=qB t;refine⟨trivial,?_⟩;rintro⟨q,_⟩ _ z;simp only at z|-;refine⟨λW=>ω,λ_=>⟨?_,by trivial⟩⟩;rw[z];congr 1;rw[(ω:i.toNat=r.length),qW (qV _),qW ω,qW Q]at n;have y:nv out<4294967296^out.length:=Hr N;rw[u]at y;have M:o.toNat=0:=IF (P:=4294967296^r.length) (x:=nv out) ω y;rw[M,wU,tS]at n;omega
def NT:sx Fv CG:=λx T ac=>by
 obtain⟨g,n,_⟩:=x;have a6:A7 g:=A3 T.1.2;have a7:A7 n:=A3 T.2.1.2;change Wf at g n;obtain⟨aj,am⟩:g.length<=17592186044416/\n.length<=17592186044416:=ac;have ae:=D2 a6;have af:=D2 a7;simp only[CG,iB,Q4];refine⟨trivial,?_⟩;rintro⟨a,_⟩ _ d;refine⟨trivial,?_⟩;rintro⟨b,_⟩ _ f;simp only at d f|-;have J:A7 a:=d▸K5 _;have N:A7 b:=f▸K5 _;have ai:a.length<=17592186044416:=by rw[d];omega
 have ak:b.length<=17592186044416:=by rw[f];omega
 have X:nv a=nv g:=by rw[d,F7]
 have Y:nv b=nv n:=by rw[f,F7]
 rw[<-X, <-Y];clear d f X Y ae af;refine⟨λh=>?_,λ_=>?_⟩
 . rw[F2]at h;simp only[tD,rS]at h;have:nv a*nv b=0:=by
    rcases h with h|h
    . rw[qT (l:=a) ω];simp[nv]
    . rw[qT (l:=b) ω];simp[nv]
   rw[this,Q3]
 have a2:i64.wrap ((a.length:Int)+(b.length:Int))=((a.length+b.length:Nat):Int):=by
  rw[wv ω];omega
 rw[a2];refine⟨⟨ω,qH _,by simp;omega,ω⟩,?_⟩;refine⟨λp=>0<=p.1/\p.1<=(a.length:Int)/\p.2.1.length=a.length+b.length/\nv p.2.1=nv (a.take p.1.toNat)*nv b/\∀j,p.1.toNat+b.length<=j->dg p.2.1 j=0,λp=>((a.length:Int)-p.1).toNat,⟨qH _,qF _,by rw[rN,qJ],by simp[nv,Sn],λj _=>LO _ _⟩,?_⟩;rintro⟨(i:Int),(out:Wf),_⟩ ⟨_,ah,_⟩ ⟨A,a4,B,t,D⟩;simp only at A a4 B t D|-;refine⟨λz=>?_,λz=>?_⟩
 . have h:i<(a.length:Int):=qA z;have Z:=N8 J i.toNat;rw[Gy J A h];refine⟨λp=>p.1.length=a.length+b.length/\nv p.1=nv (a.take (i.toNat+1))*nv b/\∀j,i.toNat+1+b.length<=j->dg p.1 j=0,⟨⟨A,h⟩,λG=>?_,λG=>?_⟩,?_⟩
   . have G:(dg a i.toNat:Int)=0:=qA G;refine⟨B,?_,λj u=>D j ω⟩;show nv out= _;rw[t,J3,(ω:dg a i.toNat=0),wU,tS]
   . refine⟨λp=>0<=p.2.1/\p.2.1<=(b.length:Int)/\0<=p.1/\p.1<=4294967295/\p.2.2.1.length=a.length+b.length/\nv p.2.2.1+4294967296^(i.toNat+p.2.1.toNat)*p.1.toNat=nv out+4294967296^i.toNat*(dg a i.toNat*nv (b.take p.2.1.toNat))/\∀j,i.toNat+b.length<=j->dg p.2.2.1 j=0,λp=>((b.length:Int)-p.2.1).toNat,⟨qH _,qF _,qH _,by show(0:Int)<=4294967295;omega,B,by simp[nv],D⟩,?_⟩;rintro⟨(c:Int),(j:Int),(o:Wf),_⟩ ⟨_,_,ad,_⟩ ⟨w,a3,H,I,y,r,s⟩;simp only at w a3 H I y r s|-;have O:A7 o:=A3 ad.2;refine⟨λE=>?_,λE=>?_⟩
     . have u:j<(b.length:Int):=qA E;have a0:=N8 N j.toNat;rw[wv (a:=i+j) ω];refine⟨⟨w,u⟩,⟨ω,ω⟩,⟨ω,ω⟩,δ,?_⟩;rw[Gy N w u,Ac O,(ω:(i+j).toNat=i.toNat+j.toNat)];have ag:=N8 O (i.toNat+j.toNat);have aa:dg a i.toNat*dg b j.toNat<=4294967295*4294967295:=uM Z a0;have ab:(dg a i.toNat:Int)*(dg b j.toNat:Int)=((dg a i.toNat*dg b j.toNat:Nat):Int):=(uY _ _).symm;rw[Z9 (a:=(dg a i.toNat:Int)) ω ω,Z9 (a:=(dg b j.toNat:Int)) ω ω,Z9 (a:=(dg o (i.toNat+j.toNat):Int)) ω ω,ab];generalize a5:dg a i.toNat*dg b j.toNat=M at aa;rw[Z9 (a:=(M:Int)) ω ω,Z9 (a:=(M:Int)+(dg o (i.toNat+j.toNat):Int)) ω ω,Z9 ω ω,A8g _ ω,wv ω,Dj];refine⟨⟨ω,ω,ω,ω,by rw[qM];exact y,?_,λq Q=>?_⟩,ω⟩
       . have F:=Lc (l:=o) (k:=i.toNat+j.toNat) (v:=(c+((M:Int)+(dg o (i.toNat+j.toNat):Int)))%4294967296) ω;rw[(ω:(j+1).toNat=j.toNat+1),J3 b, <-vC i.toNat,rY,sY (dg a i.toNat)];have a1:dg a i.toNat*(4294967296^j.toNat*dg b j.toNat)=4294967296^j.toNat*M:=by rw[<-a5,g0m]
         rw[a1,sY (4294967296^i.toNat), <-sN (4294967296^i.toNat) (4294967296^j.toNat), <-tY, <-vC (nv out), <-r];generalize 4294967296^(i.toNat+j.toNat)=P at*;have a8:((c+((M:Int)+(dg o (i.toNat+j.toNat):Int)))%4294967296).toNat+4294967296*((c+((M:Int)+(dg o (i.toNat+j.toNat):Int)))/4294967296).toNat=c.toNat+dg o (i.toNat+j.toNat)+M:=ω
         have a9:=sA (P* ·) a8;simp only[sY, <-sN]at a9;omega
       . rw[Zw ω,qG ω];exact s q Q
     . have u:=qB E;rw[wv (a:=i+(b.length:Int)) ω,w32 H I];refine⟨⟨ω,ω⟩,⟨by show(o.set _ _).length= _;rw[qM];exact y,?_,λq Q=>?_⟩⟩
       . show nv (o.set _ _)= _;have F:=Lc (l:=o) (k:=(i+(b.length:Int)).toNat) (v:=c) ω;rw[s _ ω,wU,tS]at F;rw[F,(ω:(i+(b.length:Int)).toNat=i.toNat+b.length)];rw[(ω:j.toNat=b.length),qW (qV b.length)]at r;rw[r,J3,uV,t,sN]
       . show dg (o.set _ _) q=0;rw[Zw ω,qG ω];exact s q ω
   . rintro⟨o,_⟩ _ ⟨U,V,W⟩;simp only at U V W|-;rw[wv ω,(ω:(i+1).toNat=i.toNat+1)];exact⟨⟨ω,ω,U,V,W⟩,ω⟩
 . have h:=qB z;refine⟨trivial,?_⟩;rintro⟨an,_⟩ _ R;simp only at R|-;rw[R,t,qW ω]
def Ou:sx O2 Hg:=λx D P=>by
 obtain⟨l,d,_⟩:=x;have O:A7 l:=A3 D.1.2;change Wf at l;change Int at d;have J:u32.min<=d/\d<=u32.max:=D.2.1;rw[XQ,XP]at J;obtain⟨X,o⟩:l.length<=17592186044416/\d≠0:=P;simp only[Hg,iB,Q4];have T:u64.wrap d=d:=Z9 ω ω;rw[T,wv (a:=(l.length:Int)-1) ω];refine⟨⟨ω,qH _,by simp;omega,ω⟩,?_⟩;refine⟨λp=> -1<=p.2.1/\p.2.1<(l.length:Int)/\0<=p.1/\p.1<d/\p.2.2.1.length=l.length/\nv (l.drop (p.2.1+1).toNat)=nv (p.2.2.1.drop (p.2.1+1).toNat)*d.toNat+p.1.toNat,λp=>(p.2.1+1).toNat,⟨by show(-1:Int)<=(l.length:Int)-1;omega,by show(l.length:Int)-1< _;omega,qH _,by show(0:Int)<d;omega,by simp,?_⟩,?_⟩
 . show nv (l.drop ((l.length:Int)-1+1).toNat)=nv ((List.replicate _ 0).drop ((l.length:Int)-1+1).toNat)* _ + _;rw[sI ω,sI (by rw[rN];omega)];simp[nv]
 rintro⟨(c:Int),(i:Int),(q:Wf),_⟩ _ ⟨H,j,s,I,u,g⟩;simp only at H j s I u g|-;refine⟨λr=>?_,λr=>?_⟩
 . have h:0<=i:=qA r;have w:=Vm O h j;have M:=X6 (l:=l) h j;rw[show Min.min (Int.toNat 32) u64.bits=32 from rfl];generalize gx 0 l i=b at*;have E:u64.wrap (c*2^32)=c*2^32:=Z9 ω ω;have F:u64.wrap b=b:=Z9 ω ω;have G:(((BitVec.ofInt u64.bits (c*2^32) |||BitVec.ofInt u64.bits b).toNat:Nat):Int)=b+c*4294967296:=MR (v:=b) (b:=c) (k:=32) w.1 ω s ω ω;rw[E,F,G,Z9 (a:=b+c*4294967296) ω ω,wv (a:=i-1) ω];have t:0<=b+c*4294967296:=ω
   rw[uG t,IntWalk.u64_quo _ _ ⟨t,ω,ω⟩];have y:=g0z t (ω:0<=d);have V:(b+c*4294967296)/d<4294967296:=by
    rw[g2o ω];have:(c+1)*4294967296<=d*4294967296:=sM ω δ;omega
   have A:=g2v (b+c*4294967296) o;have Q:=zZ (b+c*4294967296) (b:=d) ω;have U:=yP (b+c*4294967296) d;rw[w32 y ω];generalize (b+c*4294967296)/d=f at*;generalize (b+c*4294967296)%d=ri at*;refine⟨δ,⟨h,j⟩,o,⟨h,ω⟩,o,⟨ω,ω,A,Q,by rw[qM];exact u,?_⟩,ω⟩;rw[(ω:i-1+1=i),M];have N:(q.set i.toNat f).drop i.toNat=f::q.drop (i+1).toNat:=by
    have n:i.toNat<q.length:=ω
    rw[xR (by rw[qM];exact n),List.getElem_set_self,zI ω,(ω:(i+1).toNat=i.toNat+1)]
   rw[N];simp only[nv];rw[g];have R:(b.toNat:Int)+4294967296*c.toNat=f.toNat*d.toNat+ri.toNat:=by
    rw[sB w.1,sB s,sB y,sB (ω:0<=d),sB A,g2q f];omega
   have W:b.toNat+4294967296*c.toNat=f.toNat*d.toNat+ri.toNat:=by
    have:((b.toNat+4294967296*c.toNat:Nat):Int)=((f.toNat*d.toNat+ri.toNat:Nat):Int):=by
     rw[wY,wY,uY,uY];exact R
    exact g4g this
   rw[sY, <-sN,uV];omega
 . have h:¬0<=i:=qB r;rw[(ω:(i+1).toNat=0),uL,uL]at g;refine⟨trivial,?_⟩;rintro⟨Y,_⟩ _ z;refine⟨trivial,?_⟩;rintro⟨Z,_⟩ _ B;simp only at z B|-;have n:c.toNat<d.toNat:=ω
   rw[sF]at g;rw[z,B,g,g2z,uC n,g2y ω,uN n,tS];exact⟨rfl,rfl⟩
def Ze:sx S6 Ow:=λx F E=>by
 obtain⟨l,s,_⟩:=x;have u:A7 l:=A3 F.1.2;change Wf at l;change Int at s;obtain⟨Q,G,R⟩:l.length<=17592186044416/\0<=s/\s<=31:=E;simp only[Ow,iB];rw[wv (a:=(l.length:Int)+1) ω];refine⟨⟨ω,qH _,by simp;omega,ω⟩,?_⟩;have N:(2:Nat)^s.toNat<=2^31:=rR δ ω;have J:0<(2:Nat)^s.toNat:=tP δ;have d:((2:Int)^s.toNat)=((2^s.toNat:Nat):Int):=by rw[xS];rfl
 refine⟨λp=>0<=p.2.1/\p.2.1<=(l.length:Int)/\0<=p.1/\p.1<2^s.toNat/\p.2.2.1.length=l.length+1/\nv (p.2.2.1.take p.2.1.toNat)+4294967296^p.2.1.toNat*p.1.toNat=nv (l.take p.2.1.toNat)*2^s.toNat,λp=>((l.length:Int)-p.2.1).toNat,⟨qH _,qF _,qH _,by show(0:Int)<2^s.toNat;rw[d];omega,by rw[rN];omega,by simp[nv]⟩,?_⟩;rintro⟨(c:Int),(i:Int),(out:Wf),_⟩ ⟨_,_,O,_⟩ ⟨f,y,t,o,r,g⟩;simp only at f y t o r g|-;have H:c<((2^s.toNat:Nat):Int):=by rw[<-d];exact o
 refine⟨λn=>?_,λn=>?_⟩
 . have j:i<(l.length:Int):=qA n;have dl:=N8 u i.toNat;have D:Min.min (Int.toNat s) u64.bits=s.toNat:=by show Min.min (Int.toNat s) 64= _;omega
   rw[Gy u f j,D,d];have h:(dg l i.toNat:Int)*((2^s.toNat:Nat):Int)=((dg l i.toNat*2^s.toNat:Nat):Int):=(uY _ _).symm;have I:dg l i.toNat*2^s.toNat<=4294967295*2^s.toNat:=rD _ dl;have w:(((BitVec.ofInt u64.bits c|||BitVec.ofInt u64.bits ((dg l i.toNat*2^s.toNat:Nat):Int)).toNat:Nat):Int)=c+((dg l i.toNat*2^s.toNat:Nat):Int):=by
    have:=bN (v:=c) (b:=(dg l i.toNat:Int)) (k:=s.toNat) t o ω (by rw[d,h];omega) ω;rw[d,h]at this;exact this
   rw[Z9 (a:=(dg l i.toNat:Int)) ω ω,h,Z9 (a:=((dg l i.toNat*2^s.toNat:Nat):Int)) ω ω,w,Z9 ω ω,A8g _ ω,wv ω,Dj];generalize z:dg l i.toNat*2^s.toNat=M at*;refine⟨⟨f,j⟩,G,⟨f,ω⟩,δ,⟨ω,ω,ω,?_,by rw[qM];exact r,?_⟩,ω⟩
   . generalize 2^s.toNat=T at*;omega
   . rw[(ω:(i+1).toNat=i.toNat+1),U4 ω,J3 l,rY,uV, <-g,sN (4294967296^i.toNat) (dg l i.toNat),z];generalize 4294967296^i.toNat=P at*;have A:((c+(M:Int))%4294967296).toNat+4294967296*((c+(M:Int))/4294967296).toNat=c.toNat+M:=ω
     have B:=sA (P* ·) A;simp only[sY, <-sN]at B;omega
 . have j:¬i<(l.length:Int):=qB n;rw[qJ,w32 ω ω];refine⟨⟨ω,ω⟩,by rw[qM];exact r,?_⟩;have e:=U4 (l:=out) (i:=l.length) (v:=c) ω;rw[qW (by rw[qM];omega)]at e;rw[(ω:i.toNat=l.length),qW (qV l.length)]at g;rw[e,g]
def Rn:sx N5 Jc:=λx J R=>by
 obtain⟨a,n,_⟩:=x;have Q:A7 a:=A3 J.1.2;have G:=(show i64.min<=n/\n<=i64.max from J.2.1);rw[Vi,EG]at G;change Wf at a;change Int at n;have a3:a.length<=17592186044416:=R;have V:=D2 Q;have Y: -9223372036854775808<=n/\n<=9223372036854775807:=G;simp only[Jc,iB,Q4];refine⟨λh=>?_,λh=>⟨trivial,?_⟩⟩
 . have h:=qA h;exact⟨λ_=>⟨by trivial,by trivial⟩,λg=>ω⟩
 have h:=qB h;have z:0<=n:=ω
 rintro⟨r,_⟩ _ o;simp only at o|-;have A:i64.wrap (Int.tdiv n 32)=((n.toNat/32:Nat):Int):=by
  rw[yZ z,wv ω];omega
 have B:(Int.tmod n 32).toNat=n.toNat%32:=by rw[uG z];omega
 have N:(0:Int)<=Int.tmod n 32:=zT _ z;have D:n.toNat=32*(n.toNat/32)+n.toNat%32:=ω
 have O:n.toNat%32<=31:=ω
 have E:Min.min (n.toNat%32) u64.bits=n.toNat%32:=by show Min.min (n.toNat%32) 64= _;omega
 rw[A,B,E];have T:nv r=nv a:=by rw[o,F7]
 have I:A7 r:=o▸K5 _;have a0:r.length<=a.length:=by rw[o];exact V
 have u:=kE (l:=r) I (k:=n.toNat/32) (s:=n.toNat%32);rw[<-D,T]at u;clear A B E;refine⟨δ,λg=>?_,λg=>?_⟩
 . have g:=qA g;refine⟨λc=>ω,λ_=>⟨?_,by trivial⟩⟩;rw[u,sI ω,nR,g5a,Q3]
 . have g:=qB g;rw[u];rw[show(((n.toNat/32:Nat):Int)).toNat=n.toNat/32 from qJ _,show((r.length:Int)).toNat=r.length from qJ _,qW (qV _)];have f:A7 (r.drop (n.toNat/32)):=λy hy=>I y (vQ hy)
   have a1:(r.drop (n.toNat/32)).length<=r.length:=by rw[sU];omega
   refine⟨δ,⟨ω,ω,qH _⟩,δ,⟨ω,qH _,ω,ω⟩,?_⟩;clear u D;generalize r.drop (n.toNat/32)=t at*;generalize n.toNat%32=s at*;have P:nv t/2^s<4294967296^t.length:=wC (xB _ _) (Hr f);refine⟨λp=>0<=p.1/\p.1<=(t.length:Int)/\p.2.1.length=t.length/\nv (p.2.1.take p.1.toNat)=nv t/2^s%4294967296^p.1.toNat,λp=>((t.length:Int)-p.1).toNat,⟨qH _,qF _,by simp,by simp[nv];omega⟩,?_⟩;rintro⟨(i:Int),(out:Wf),_⟩ ⟨_,a2,_⟩ ⟨j,U,M,w⟩;simp only at j U M w|-;have W:=N8 f i.toNat;have X:=N8 f (i.toNat+1);refine⟨λc=>?_,λc=>?_⟩
   . have c:=qA c;rw[wv (a:=i+1) ω];refine⟨⟨j,c⟩,λp=>p.1=((dg t i.toNat+dg t (i.toNat+1)*4294967296:Nat):Int),⟨λd=>?_,λd=>?_⟩,?_⟩
     . have d:=qA d;refine⟨⟨ω,d⟩,δ,?_⟩;show u64.wrap _= _;rw[Gy f j c,Gy f ω d,(ω:(i+1).toNat=i.toNat+1)];rw[show Min.min (Int.toNat 32) u64.bits=32 from rfl];rw[Z9 (a:=(dg t i.toNat:Int)) ω ω,Z9 (a:=(dg t (i.toNat+1):Int)) ω ω,Z9 (a:=(dg t (i.toNat+1):Int)*2^32) ω ω];have:=bN (v:=(dg t i.toNat:Int)) (b:=(dg t (i.toNat+1):Int)) (k:=32) ω ω ω ω ω;rw[show u64.bits=64 from rfl,this,Z9 ω ω];omega
     . have d:=qB d;show u64.wrap _= _;rw[Gy f j c,Z9 ω ω,Qu (i:=i.toNat+1) ω];omega
     rintro⟨a4,_⟩ _ F;simp only at F|-;refine⟨N,⟨j,ω⟩,⟨ω,ω,by rw[qM];exact M,?_⟩,ω⟩;rw[(ω:(i+1).toNat=i.toNat+1),U4 ω,w,rY,Nat.mod_mul,B4w f _ O];congr 2;rw[F,Dj];have:Int.fdiv ((dg t i.toNat+dg t (i.toNat+1)*4294967296:Nat):Int) (2^s)=(((dg t i.toNat+dg t (i.toNat+1)*4294967296)/2^s:Nat):Int):=by
      rw[show((2:Int)^s)=((2^s:Nat):Int)from by rw[xS];rfl,sL _ (qF _)];rfl
     rw[this];generalize (dg t i.toNat+dg t (i.toNat+1)*4294967296)/2^s=Z;omega
   . have c:=qB c;refine⟨trivial,?_⟩;rintro⟨q,_⟩ _ H;simp only at H|-;refine⟨λh=>ω,λ_=>⟨?_,by trivial⟩⟩;rw[(ω:i.toNat=t.length),qW ω,uC P]at w;rw[H,w]
def eQ:An:= {join:= [(4,⟨[],[],[(0,false,[.val qh]),(2,false,vI)],[],[]⟩),(7,⟨[],[],[(0,false,[.val qh]),(2,false,vI)],[],[]⟩)]}
def Us:An:= {}
def FF:An:= {}
def LA:An:= {plan:= [(2,[],[],true, .done)]}
def HY:An:= {loop:= [(7,⟨[4],[0],[(7,false,vU),(8,false,vU),(9,false,vU),(10,false,vU),(11,false,vU),(12,false,vU),(13,false,vU),(14,false,vU),(15,false,[.val .bool])],[],[]⟩)],plan:= [(9,[],[],true, .done)]}
def HX:An:= {}
def Et:ByteArray:=ByteArray.mk (([(0:UInt8),1,2,2,3,3,3,3,4,4,4,4,4,4,4,4,5,5,5,5,5,5,5,5,5,5,5,5,5,5,5,5,6,6,6,6,6,6,6,6,6,6,6,6,6,6,6,6,6,6,6,6,6,6,6,6,6,6,6,6,6,6,6,6].append [(7:UInt8),7,7,7,7,7,7,7,7,7,7,7,7,7,7,7,7,7,7,7,7,7,7,7,7,7,7,7,7,7,7,7,7,7,7,7,7,7,7,7,7,7,7,7,7,7,7,7,7,7,7,7,7,7,7,7,7,7,7,7,7,7,7,7]).append ([(8:UInt8),8,8,8,8,8,8,8,8,8,8,8,8,8,8,8,8,8,8,8,8,8,8,8,8,8,8,8,8,8,8,8,8,8,8,8,8,8,8,8,8,8,8,8,8,8,8,8,8,8,8,8,8,8,8,8,8,8,8,8,8,8,8,8].append [(8:UInt8),8,8,8,8,8,8,8,8,8,8,8,8,8,8,8,8,8,8,8,8,8,8,8,8,8,8,8,8,8,8,8,8,8,8,8,8,8,8,8,8,8,8,8,8,8,8,8,8,8,8,8,8,8,8,8,8,8,8,8,8,8,8,8])).toArray
def HJ(x:C8):Prop:=∃(J:En->Prop),((iB (decide (65536<=x.1)) ((0:(Ty.int u64).den)<=(16:Int)/\J (Int.fdiv x.1 ((2:Int)^Min.min ((16:Int).toNat) u32.bits),(16:Int),())) (J (x.1,(0:Int),()))))/\∀(p:En),(Ty.int u32).wf p.1/\(Ty.int i64).wf p.2.1/\True->J p->∃(J:En->Prop),((iB (decide (256<=p.1)) ((0:(Ty.int u64).den)<=(8:Int)/\J (Int.fdiv p.1 ((2:Int)^Min.min ((8:Int).toNat) u32.bits),i64.wrap (p.2.1+8),())) (J (p.1,p.2.1,()))))/\∀(p:En),(Ty.int u32).wf p.1/\(Ty.int i64).wf p.2.1/\True->J p->((0:Int)<=IntKind.u8.wrap p.1/\IntKind.u8.wrap p.1<(↑(Et).data.toList.length:Int))/\i64.wrap (p.2.1+i64.wrap (ID (Et) (IntKind.u8.wrap p.1)))=(↑(L2 x.1.toNat):Int)
def Ii(x:C8):Prop:=True/\Fg λr=>r.1=(↑(L2 x.1.toNat):Int)->i64.wrap (32-r.1)=(32:Int)-(↑(L2 x.1.toNat):Int)
def Ll(x:oZ):Prop:=let c:=(↑x.2.1.length:Int);let b:=(0:Int);let a:=(x.2.1.length:Int);(iB (decide (x.1<a)) ((b<=x.1/\x.1<a)/\u64.wrap (gx b x.2.1 x.1)=if x.1<c then x.2.1.getD x.1.toNat b else b) (b=if x.1<c then x.2.1.getD x.1.toNat b else b))
def Qj(x:Wf×Int×Int×Unit):Prop:=let d:=(32:Int);let c:=(2:Int);let b:=(x.1.length:Int);let a:=(0:Int);a<=i64.wrap (x.2.1-1)/\rT9 λr=>(r.1=if i64.wrap (x.2.1-1)<b then List.getD x.1 (i64.wrap (x.2.1-1)).toNat a else a)->(0:(Ty.int u64).den)<=d/\a<=i64.wrap (x.2.1-c)/\rT9 λe=>(e.1=if i64.wrap (x.2.1-c)<b then List.getD x.1 (i64.wrap (x.2.1-c)).toNat a else a)->(0:(Ty.int i64).den)<=x.2.2.1/\a<=i64.wrap (x.2.1-3)/\rT9 λf=>(f.1=if i64.wrap (x.2.1-3)<b then List.getD x.1 (i64.wrap (x.2.1-3)).toNat a else a)->(0:(Ty.int i64).den)<=i64.wrap (d-x.2.2.1)/\u64.wrap (↑(BitVec.ofInt u64.bits (u64.wrap (u64.wrap (↑(BitVec.ofInt u64.bits (u64.wrap (r.1*c^Min.min d.toNat u64.bits)) |||BitVec.ofInt u64.bits e.1).toNat:Int)*c^Min.min x.2.2.1.toNat u64.bits)) |||BitVec.ofInt u64.bits (Int.fdiv f.1 (c^Min.min (i64.wrap (d-x.2.2.1)).toNat u64.bits))).toNat:Int)=(↑(nv x.1*2^x.2.2.1.toNat/(4294967296:Nat)^(x.2.1.toNat-(2:Nat))):Int)
abbrev D2v:=Int×Int×Int×Int×Int×Int×Int×Int×Bool×Unit
def Ov(x:Hl):Prop:=let l:=(17592186044416:Int);let k:=(2:Nat);let j:=(1:Int);let i:=(4294967296:Nat);let g:=(↑(nv x.1):Int);let e:=(↑(nv x.2.1):Int);let d:=(0:Int);let c:=(x.1.length:Int);(d<=i64.wrap (c-j)/\i64.wrap (c-j)<c)/\True/\Fg λr=>r.1=32-(↑(L2 (gx d x.1 (i64.wrap (c-j))).toNat):Int)->((3:Int)<=c/\c<=c/\c<=l/\d<=r.1/\r.1<=31/\nv x.1*k^Int.toNat r.1<i^c.toNat)/\rT9 λm=>m.1=(↑(nv x.1*k^Int.toNat r.1/i^(c.toNat-k)):Int)->((3:Int)<=c/\(x.2.1.length:Int)<=c/\c<=l/\d<=r.1/\r.1<=31/\nv x.2.1*k^Int.toNat r.1<i^c.toNat)/\rT9 λn=>n.1=(↑(nv x.2.1*k^Int.toNat r.1/i^(c.toNat-k)):Int)->∃(I:D2v->Prop),∃(a: _->Nat),I (m.1,n.1,d,j,d,d,d,j,false,())/\∀(p:D2v),let h:=(u64.wrap (Int.tdiv p.1 p.2.1)*p.2.2.2.2.1);let f:=(u64.wrap (Int.tdiv p.1 p.2.1)*p.2.2.2.2.2.2.2.1);let c:Prop:=(p.2.2.2.2.2.2.2.1<=p.2.1);let b:Prop:=(u64.wrap (p.2.2.2.2.2.2.1+p.2.2.2.2.2.2.2.1)<=u64.wrap (p.1-p.2.1));(Ty.int u64).wf p.1/\(Ty.int u64).wf p.2.1/\(Ty.int u64).wf p.2.2.1/\(Ty.int u64).wf p.2.2.2.1/\(Ty.int u64).wf p.2.2.2.2.1/\(Ty.int u64).wf p.2.2.2.2.2.1/\(Ty.int u64).wf p.2.2.2.2.2.2.1/\(Ty.int u64).wf p.2.2.2.2.2.2.2.1/\Ty.bool.wf p.2.2.2.2.2.2.2.2.1/\True->I p->(iB (G9 (decide c) (decide b) false) (p.2.1≠d/\p.2.1≠d/\I (p.2.1,Int.tmod p.1 p.2.1,p.2.2.2.1,p.2.2.2.2.1,u64.wrap (p.2.2.2.1+u64.wrap h),p.2.2.2.2.2.2.1,p.2.2.2.2.2.2.2.1,u64.wrap (p.2.2.2.2.2.2.1+u64.wrap f), !p.2.2.2.2.2.2.2.2.1,())/\a (p.2.1,Int.tmod p.1 p.2.1,p.2.2.2.1,p.2.2.2.2.1,u64.wrap (p.2.2.2.1+u64.wrap h),p.2.2.2.2.2.2.1,p.2.2.2.2.2.2.2.1,u64.wrap (p.2.2.2.2.2.2.1+u64.wrap f), !p.2.2.2.2.2.2.2.2.1,())<a p) (p.2.2.2.2.2.1=d\/∃(A':Int),∃(B':Int),(A'=if p.2.2.2.2.2.2.2.2.1=true then p.2.2.1*g-p.2.2.2.2.2.1*e else p.2.2.2.2.2.1*e-p.2.2.1*g)/\(B'=if p.2.2.2.2.2.2.2.2.1=true then p.2.2.2.2.2.2.1*e-p.2.2.2.1*g else p.2.2.2.1*g-p.2.2.2.2.2.2.1*e)/\d<=B'/\B'<=A'/\g=p.2.2.2.2.2.2.1*A'+p.2.2.2.2.2.1*B'/\e=p.2.2.2.1*A'+p.2.2.1*B'/\j<=p.2.2.2.2.2.1/\j<=p.2.2.2.2.2.2.1/\d<=p.2.2.1/\d<=p.2.2.2.1))
def Ot(x:Wf×Int×Wf×Int×Unit):Prop:=True/\Q4 λr=>r.1=nc x.2.1.toNat->(L3 x.1/\L3 r.1)/\Q4 λa=>a.1=nc (nv x.1*nv r.1)->True/\Q4 λr=>r.1=nc x.2.2.2.1.toNat->(L3 x.2.2.1/\L3 r.1)/\Q4 λb=>b.1=nc (nv x.2.2.1*nv r.1)->(L3 a.1/\L3 b.1)/\∀(r:A8u),Ir r.1/\True/\True->(nv a.1<nv b.1->r.1= []/\r.2.1=false)/\(nv b.1<=nv a.1->r.1=nc (nv a.1-nv b.1)/\r.2.1=true)->r.1=nc (nv x.1*x.2.1.toNat-nv x.2.2.1*x.2.2.2.1.toNat)
def D0b:∀k:Fin 256,ID Et (k.val:Int)=(L2 k.val:Int):=by decide+kernel
def SO:sx Hx HJ:=λx D _=>by
 obtain⟨(v:Int),_⟩:=x;have B:=(show u32.min<=v/\v<=u32.max from D.1);rw[XQ,XP]at B;simp only[HJ,iB];have l:Int.fdiv v (2^Min.min (Int.toNat 16) u32.bits)=v/65536:=by
  rw[show Min.min (Int.toNat 16) u32.bits=16 from rfl,sL _ δ];rfl
 rw[l];refine⟨λp=>0<=p.1/\p.1<65536/\0<=p.2.1/\p.2.1<=16/\(L2 v.toNat:Int)=L2 p.1.toNat+p.2.1,⟨λh=>?_,λh=>?_⟩,?_⟩
 . have h:=qA h;have e:=LJ (n:=v.toNat) (k:=16) ω;refine⟨δ,by show(0:Int)<=v/65536;omega,by show v/65536<65536;omega,by show(0:Int)<=16;omega,by show(16:Int)<=16;omega,?_⟩;show(L2 v.toNat:Int)=L2 (v/65536).toNat+16;rw[e,(ω:(v/65536).toNat=v.toNat/2^16)];omega
 . have h:=qB h;refine⟨by show(0:Int)<=v;omega,by show v<65536;omega,by show(0:Int)<=0;omega,by show(0:Int)<=16;omega,?_⟩;show(L2 v.toNat:Int)=L2 v.toNat+0;omega
 rintro⟨(w:Int),(n:Int),_⟩ _ ⟨i,t,j,y,c⟩;simp only at i t j y c|-;have o:Int.fdiv w (2^Min.min (Int.toNat 8) u32.bits)=w/256:=by
  rw[show Min.min (Int.toNat 8) u32.bits=8 from rfl,sL _ δ];rfl
 rw[o,wv (a:=n+8) ω];refine⟨λp=>0<=p.1/\p.1<256/\0<=p.2.1/\p.2.1<=24/\(L2 v.toNat:Int)=L2 p.1.toNat+p.2.1,⟨λh=>?_,λh=>?_⟩,?_⟩
 . have h:=qA h;have e:=LJ (n:=w.toNat) (k:=8) ω;refine⟨δ,by show(0:Int)<=w/256;omega,by show w/256<256;omega,by show 0<=n+8;omega,by show n+8<=24;omega,?_⟩;show(L2 v.toNat:Int)=L2 (w/256).toNat+(n+8);rw[c,e,(ω:(w/256).toNat=w.toNat/2^8)];omega
 . have h:=qB h;exact⟨i,by show w<256;omega,j,by show n<=24;omega,c⟩
 rintro⟨(u:Int),(m:Int),_⟩ _ ⟨b,f,r,s,g⟩;simp only at b f r s g|-;have E:IntKind.u8.wrap u=u:=IntWalk.u8_in _ ⟨b,ω⟩;have A:(Et.data.toList.length:Int)=256:=by decide+kernel
 have d:=D0b ⟨u.toNat,ω⟩;simp only at d;rw[(ω:((u.toNat:Nat):Int)=u)]at d;have H:L2 u.toNat<=8:=by
  rcases sD 8 (L2 u.toNat)with h|h
  . have z:u.toNat≠0:=λe=>by rw[e,DT]at h;omega
    have F:=(DR z).1;have G:2^8<=2^(L2 u.toNat-1):=rR δ ω;omega
  . exact h
 rw[E,d];refine⟨⟨b,by rw[A];exact f⟩,?_⟩;rw[wv (a:=(L2 u.toNat:Int)) ω,wv ω,g];omega
def YQ {v:Nat} (h:v<4294967296):L2 v<=32:=by
 rcases sD 32 (L2 v)with a|a
 . have b:v≠0:=λe=>by rw[e,DT]at a;omega
   have c:=(DR b).1;have b:2^32<=2^(L2 v-1):=rR δ ω;omega
 . exact a
def Pe:sx K9 Ii:=λx c _=>by
 obtain⟨(v:Int),_⟩:=x;have b:=(show u32.min<=v/\v<=u32.max from c.1);rw[XQ,XP]at b;simp only[Ii,Fg];refine⟨trivial,?_⟩;rintro⟨r,_⟩ _ a;simp only at a|-;have:=YQ (v:=v.toNat) ω;rw[a,wv ω]
def Wv:sx V8 Ll:=λx g f=>by
 obtain⟨i,l,_⟩:=x;have c:A7 l:=A3 g.2.1.2;change Int at i;change Wf at l;have a:0<=i:=f;simp only[Ll,iB];refine⟨λh=>?_,λh=>?_⟩
 . have h:=qA h;have b:=Vm c a h;rw[qN h, <-E5 (d:=(0:Int)) a h,Z9 b.1 ω];exact⟨⟨a,h⟩,rfl⟩
 . have h:=qB h;rw[qG h]
def C4m {l:Wf} (h:A7 l) {i:Int} (a:0<=i):(if i<(l.length:Int)then l.getD i.toNat 0 else 0)=(dg l i.toNat:Int):=by
 split
 . exact Ac h
 . rw[Qu ω];rfl
def CL:sx Av Qj:=λx V T=>by
 obtain⟨l,n,s,_⟩:=x;have c:A7 l:=A3 V.1.2;change Wf at l;change Int at n s;obtain⟨a8,a7,a9,Z,a0,j⟩:3<=n/\(l.length:Int)<=n/\n<=17592186044416/\0<=s/\s<=31/\nv l*2^s.toNat<4294967296^n.toNat:=T;simp only[Qj,rT9];rw[wv (a:=n-1) ω,wv (a:=n-2) ω,wv (a:=n-3) ω,wv (a:=32-s) ω];refine⟨ω,?_⟩;rintro⟨a,_⟩ _ g;refine⟨δ,ω,?_⟩;rintro⟨b,_⟩ _ h;refine⟨Z,ω,?_⟩;rintro⟨a1,_⟩ _ i;simp only at g h i|-;rw[C4m c ω]at g h i;have y:=N8 c (n-1).toNat;have z:=N8 c (n-2).toNat;have D:=N8 c (n-3).toNat;obtain⟨m,rfl⟩:∃m:Nat,n=(m:Int)+3:=⟨(n-3).toNat,ω⟩;rw[(ω:((m:Int)+3-1).toNat=m+2)]at g y;rw[(ω:((m:Int)+3-2).toNat=m+1)]at h z;rw[(ω:((m:Int)+3-3).toNat=m)]at i D;rw[(ω:((m:Int)+3).toNat=m+3)]at j|-;rw[(ω:m+3-2=m+1)];have o:=B0z l (n:=m) ω;have O:=V6 c m;have J:0<4294967296^m:=tP δ;subst g h i;generalize a3:dg l (m+2)=A at*;generalize a4:dg l (m+1)=B at*;generalize a5:dg l m=C at*;have U:=C6m (a:=nv l) (low:=nv (l.take m)) (lo:=C) (H:=A*4294967296+B) (P:=4294967296^m) (s:=s.toNat) J (by rw[o];grind) O ω;rw[rY,U];have u:(A*4294967296+B)*2^s.toNat<18446744073709551616:=by
  have E:(A*4294967296+B)*2^s.toNat*(4294967296^m*4294967296)<=nv l*2^s.toNat:=by
   have:(A*4294967296+B)*(4294967296^m*4294967296)<=nv l:=by rw[o];grind
   have:=rD (2^s.toNat) this;rwa[g0d]at this
  have d:4294967296^(m+3)=18446744073709551616*(4294967296^m*4294967296):=by
   rw[rY,rY,rY];grind
  rw[d]at j;exact xN (wC E j)
 have Q:Min.min (Int.toNat s) u64.bits=s.toNat:=by show Min.min (Int.toNat s) 64= _;omega
 have R:Min.min (Int.toNat (32-s)) u64.bits=32-s.toNat:=by show Min.min (Int.toNat (32-s)) 64= _;omega
 rw[Q,R,show Min.min (Int.toNat 32) u64.bits=32 from rfl];have a6:A*4294967296+B<18446744073709551616:=ω
 have W:(((BitVec.ofInt u64.bits (u64.wrap ((A:Int)*2^32)) |||BitVec.ofInt u64.bits (B:Int)).toNat:Nat):Int)=((A*4294967296+B:Nat):Int):=by
  rw[Z9 (a:=(A:Int)*2^32) ω ω];have:=MR (v:=(B:Int)) (b:=(A:Int)) (k:=32) ω ω ω ω ω;rw[show u64.bits=64 from rfl,this];omega
 rw[W,Z9 (a:=((A*4294967296+B:Nat):Int)) ω ω];have w:((2:Int)^s.toNat)=((2^s.toNat:Nat):Int):=by rw[xS];rfl
 have f:((A*4294967296+B:Nat):Int)*2^s.toNat=(((A*4294967296+B)*2^s.toNat:Nat):Int):=by rw[w,uY]
 have X:Int.fdiv (C:Int) (2^(32-s.toNat))=((C/2^(32-s.toNat):Nat):Int):=by
  have E:((2:Int)^(32-s.toNat))=((2^(32-s.toNat):Nat):Int):=by rw[xS];rfl
  rw[E,sL _ (qF _)];rfl
 have M:C/2^(32-s.toNat)<2^s.toNat:=by
  rw[tX (tP δ), <-EU ω];omega
 have I:(0:Int)<=(((A*4294967296+B)*2^s.toNat:Nat):Int):=qF _;rw[X,Z9 (a:=((A*4294967296+B:Nat):Int)*2^s.toNat) (by rw[f];omega) (by rw[f];omega)];generalize C/2^(32-s.toNat)=L at*;have N:(L:Int)<2^s.toNat:=by rw[w];omega
 have a2:(2:Nat)^s.toNat<=2^31:=rR δ ω;have Y:=MR (v:=(L:Int)) (b:=((A*4294967296+B:Nat):Int)) (k:=s.toNat) ω N ω (by rw[f];omega) ω;rw[show u64.bits=64 from rfl,Y,f,Z9 (a:=(L:Int)+(((A*4294967296+B)*2^s.toNat:Nat):Int)) (Int.add_nonneg (qF _) I) ?_]
 . constructor
   . exact Int.sub_nonneg.2 (g4x a0 δ)
   . rw[wY];exact Int.add_comm _ _
 . --the shifted number and the digits behind it are below 2^64
   have d:(18446744073709551616:Nat)=18446744073709551616/2^s.toNat*2^s.toNat:=by
    refine(Nat.div_mul_cancel ?_).symm;exact⟨2^(64-s.toNat),by rw[<-tY,(ω:s.toNat+(64-s.toNat)=64)]⟩
   have F:A*4294967296+B<18446744073709551616/2^s.toNat:=by
    rw[d]at u;exact xN u
   have r:(A*4294967296+B+1)*2^s.toNat<=18446744073709551616:=by
    rw[d];exact rD _ F
   rw[uV,xH]at r;have G:L+(A*4294967296+B)*2^s.toNat<18446744073709551616:=rJ (by rw[vV];exact Nat.add_lt_add_left M _) r;have t:((L+(A*4294967296+B)*2^s.toNat:Nat):Int)<18446744073709551616:=vO.2 G;rw[wY]at t;exact Int.le_of_lt_add_one t
def Zd:sx Z6 Ov:=λx O aa=>by
 obtain⟨a,b,_⟩:=x;have k:A7 a:=A3 O.1.2;have ao:A7 b:=A3 O.2.1.2;change Wf at a b;obtain⟨b5,T,J,D,ar⟩:a.length<=17592186044416/\3<=a.length/\Og a/\nv b<=nv a/\b.length<=a.length:=aa;simp only[Ov,iB,Fg,rT9];have W:i64.wrap ((a.length:Int)-1)=(a.length:Int)-1:=wv ω;rw[W,Gy k ω ω,(ω:((a.length:Int)-1).toNat=a.length-1)];refine⟨⟨ω,ω⟩,trivial,?_⟩;rintro⟨(s:Int),_⟩ _ H;simp only at H|-;rw[qJ]at H;have E:=SK k J;have au:=N8 k (a.length-1);have aq:=YQ (v:=dg a (a.length-1)) ω;have ap:=(DR E).2;have t:=B0o k (n:=a.length-1) ω (s:=s.toNat) ω;rw[(ω:a.length-1+1=a.length)]at t;have a9:nv b*2^s.toNat<4294967296^a.length:=wC (rD _ D) t;have ay:=cJ k J;rw[qJ];refine⟨⟨ω,qH _,ω,ω,ω,t⟩,?_⟩;rintro⟨X,_⟩ ⟨B,_⟩ i;refine⟨⟨ω,ω,ω,ω,ω,a9⟩,?_⟩;rintro⟨Y,_⟩ ⟨a8,_⟩ j;change Int at X Y;simp only at i j B a8|-;have a4:s.toNat<=32*(a.length-2):=ω
 rw[Mq,B4v a4]at i j;have o:0<2^(32*(a.length-2)-s.toNat):=tP δ;have a5:0<X:=by
  rw[i];have ah:=Vs a (n:=a.length-1) ω;have Z:2^(32*(a.length-2)-s.toNat)<=nv a:=by
   have ai:2^(32*(a.length-2)-s.toNat)<=4294967296^(a.length-1):=by
    rw[Mq];exact rR δ ω
   have aj:=sC (4294967296^(a.length-1)) (sX E);omega
  have:=(vN o).2 (by rw[xH];exact Z);omega
 have a7:Y<=X:=by rw[i,j];exact Int.ofNat_le.2 (Nat.div_le_div_right D)
 have a6:0<=Y:=by rw[j];exact qF _
 have a0:=xA (nv a) (2^(32*(a.length-2)-s.toNat));have ak:=wL (nv a) o;have a2:=xA (nv b) (2^(32*(a.length-2)-s.toNat));have am:=wL (nv b) o;generalize 2^(32*(a.length-2)-s.toNat)=K at*;have an:X<=18446744073709551615:=by have:=B.2;rw[EY]at this;exact this
 refine⟨λp=>∃R,Leh X Y R p.1 p.2.1 p.2.2.1 p.2.2.2.1 p.2.2.2.2.1 p.2.2.2.2.2.1 p.2.2.2.2.2.2.1 p.2.2.2.2.2.2.2.1 p.2.2.2.2.2.2.2.2.1,λp=>p.2.1.toNat,⟨0,Leh.start a6 a7 a5⟩,?_⟩;rintro⟨(x:Int),(y:Int),(ad:Int),(l:Int),(f:Int),(Q:Int),(g:Int),(d:Int),(ev:Bool),_⟩ _ ⟨R,c⟩;simp only at c|-;have av:=c.idX;have aw:=c.idY;have b4:=c.yx;have w:=c.y0;have b3:=c.x0;have ab:=c.u10;have u:=c.u20;have N:=c.v10;have ac:=c.v20;have b9:x*1<=x*d:=uF ac ω;have bb:0<=y*g:=tU w N;have b8:0<=x*f:=tU ω u;have ba:0<=y*l:=tU w ab;have b7:1*d<=x*d:=sM ω ω;refine⟨λr=>?_,λ_=>?_⟩
 . rw[I5]at r;simp only[qC,rS]at r;obtain⟨c1,A⟩:=r;have z:1<=y:=ω
   have b6:1*g<=y*g:=sM z N;rw[Z9 (a:=g+d) ω ω,Z9 (a:=x-y) ω ω]at A;have h:=c.step c1 A;have b0:=h.idX;have b1:=h.idY;have I:=h.u20;have b2:=h.v20;have F:0<=x/y:=g0z ω w;have az:x/y<=x:=Int.ediv_le_self _ ω;have G:=h.y0;have ae:1*(g+x/y*d)<=y*(g+x/y*d):=sM z ω;have af:0<=x%y*d:=tU G ω;have T:1*(l+x/y*f)<=y*(l+x/y*f):=sM z I;have ag:0<=x%y*f:=tU G u;have U:0<=x/y*d:=tU F ω;have V:0<=x/y*f:=tU F u;rw[uG ω,IntWalk.u64_quo _ _ ⟨ω,ω,ω⟩];rw[Z9 (a:=x/y*f) V ω,Z9 (a:=x/y*d) U ω,Z9 (a:=l+x/y*f) I ω,Z9 (a:=g+x/y*d) ω ω];have ax:=zZ x (b:=y) ω;exact⟨ω,ω,⟨x,h⟩,ω⟩
 . by_cases M:Q=0
   . exact .inl M
   . right;have a1:(nv a:Int)=X*(K:Int)+((nv a%K:Nat):Int):=by
      rw[i, <-uY, <-wY,sF,a0]
     have a3:(nv b:Int)=Y*(K:Int)+((nv b%K:Nat):Int):=by
      rw[j, <-uY, <-wY,sF,a2]
     exact c.apply M (P:=(K:Int)) ω (qF _) ω (qF _) ω a1 a3
def Zb:sx Z4 Ot:=λx d l=>by
 obtain⟨a,x,b,y,_⟩:=x;have i:A7 a:=A3 d.1.2;have j:A7 b:=A3 d.2.2.1.2;change Wf at a b;change Int at x y;have n:=(show u64.min<=x/\x<=u64.max from d.2.1);have o:=(show u64.min<=y/\y<=u64.max from d.2.2.2.1);rw[pA,EY]at n o;obtain⟨s,t,k⟩:a.length<=8796093022208/\b.length<=8796093022208/\nv b*y.toNat<=nv a*x.toNat:=l;have u:=D2 i;have v:=D2 j;have w:(nc x.toNat).length<=2:=Ds ω;have z:(nc y.toNat).length<=2:=Ds ω;have A:=Qy (nv a) x.toNat;have B:=Qy (nv b) y.toNat;simp only[Ot,Q4];refine⟨trivial,?_⟩;rintro⟨r,_⟩ _ c;simp only at c|-;subst c;refine⟨⟨ω,ω⟩,?_⟩;rintro⟨E,_⟩ _ g;refine⟨trivial,?_⟩;rintro⟨r,_⟩ _ c;simp only at c g|-;subst c;refine⟨⟨ω,ω⟩,?_⟩;rintro⟨F,_⟩ _ h;simp only at h|-;rw[F7]at g h;subst g h;refine⟨⟨ω,ω⟩,?_⟩;rintro⟨r,D,_⟩ _ ⟨_,f⟩;simp only at f|-;rw[F7,F7]at f;exact(f k).1
noncomputable def Ri:H7:= []
def Qr:An:= {join:= [(8,⟨[0,1,5],[0,1,2],[(7,false,vU)],[],[]⟩)],loop:= [(4,⟨[0,1,5],[0,1,2],[(7,false,vU),(8,false,vU)],[],[]⟩),(10,⟨[0,1,5,7,84,85],[0,2],[(9,false,vU),(86,false,vI)],[],[(1, .row qh 131)]⟩),(23,⟨[0,5,7,134,135],[0,2],[(9,false,vU),(136,false,vI)],[],[(1, .row qh 131)]⟩)],plan:= [(2,[3,10],[],true, .done),(3,[5,13],[],true, .done),(4,[9,18],[],true, .done)]}
def Yi:An:= {join:= [(12,⟨[4,6,7,8,9,10,35,36],[0],[],[],[(1, .row qh 131),(2, .row qh 131)]⟩)],loop:= [(8,⟨[4,6,7,8,9,10,35],[0],[(36,false,vI)],[],[(1, .row qh 131),(2, .row qh 131)]⟩)]}
noncomputable def Yr:H7:= [(204,Cu),(271,K9),(273,S6),(275,N5),(274,Df (Xd ⟨prog,tys⟩ [(53,Ri,Qr)] f274.results.toList (f274.body.getD .skip) f274.ntmps))]
abbrev D3b:=Int×Wf×Wf×Unit
def Jd(x:Hl):Prop:=let P:=(63:Int);let G:=(2:Int);let F:=(32:Int);let K:=F.toNat;let D:=(1:Int);let s:=(0:Int);let o:=(x.2.1.length:Int);let c:Prop:=(s<=i64.wrap (o-s-D)/\i64.wrap (o-s-D)<o-s);(s<=i64.wrap (o-D)/\i64.wrap (o-D)<o)/\True/\∀(r:C8),let m:Prop:=(s<=r.1/\r.1<=31);G5 r.1/\True->r.1=F-(↑(L2 (gx s x.2.1 (i64.wrap (o-D))).toNat):Int)->(L3 x.2.1/\m)/\Q4 λT=>let u:=(List.getD T.1 (s+i64.wrap (o-s-D)).toNat s);T.1.length=List.length x.2.1+1/\nv T.1=nv x.2.1*2^Int.toNat r.1->(s<=s/\s<=o/\o<=(T.1.length:Int))/\(L3 x.1/\m)/\Q4 λV=>let A:=(V.1.length:Int);V.1.length=List.length x.1+1/\nv V.1=nv x.1*2^Int.toNat r.1->(s<=i64.wrap (A-o)/\i64.wrap (A-o)<=i64.wrap (A-o)/\(↑(4:Nat):Int)*i64.wrap (A-o)<=(281474976710656:Int)/\i64.wrap (A-o)<=(9223372036854775807:Int))/\∃(I:D3b->Prop),∃(a: _->Nat),I (s,V.1,List.replicate (i64.wrap (A-o)).toNat s,())/\∀(p:D3b),let M:=(p.2.1.length:Int);let n:=(i64.wrap (i64.wrap (A-o)-D)-p.1);let C:=(i64.wrap n+(o-s));let w:=(i64.wrap (i64.wrap n+o)+D);let v:=(u64.wrap (↑(BitVec.ofInt u64.bits (u64.wrap (u64.wrap (List.getD p.2.1 C.toNat s)*G^Min.min K u64.bits)) |||BitVec.ofInt u64.bits (u64.wrap (List.getD p.2.1 (i64.wrap n+i64.wrap (o-s-D)).toNat s))).toNat:Int));let l:Prop:=(p.1<i64.wrap (A-o));let h:Prop:=(s<=i64.wrap n/\i64.wrap n<(p.2.2.1.length:Int));let b:Prop:=(s<=o-s/\o-s<i64.wrap w-i64.wrap n);(Ty.int i64).wf p.1/\Ir p.2.1/\Ir p.2.2.1/\True->I p->(iB (decide l) (∃(J:Hl->Prop),((s<=i64.wrap n/\i64.wrap n<=i64.wrap w/\i64.wrap w<=M)/\b/\(0:(Ty.int u64).den)<=F/\(s<=i64.wrap (o-s-D)/\i64.wrap (o-s-D)<i64.wrap w-i64.wrap n)/\c/\u64.wrap u≠s/\c/\u64.wrap u≠s/\∃(J_1:C8->Prop),(∃(I:En->Prop),∃(a: _->Nat),I (u64.wrap (v.tdiv (u64.wrap u)),v.tmod (u64.wrap u),())/\∀(Q:En),let H:=(u64.wrap (Q.1-D),u64.wrap (Q.2.1+u64.wrap u),());let i:Prop:=((u64.wrap (Q.2.1+u64.wrap u)).fdiv (G^Min.min K u64.bits)≠s);let g:Prop:=(Int.fdiv Q.1 (G^Min.min K u64.bits)≠s);let d:Prop:=(u64.wrap (↑(BitVec.ofInt u64.bits (u64.wrap (Q.2.1*G^Min.min K u64.bits)) |||BitVec.ofInt u64.bits (u64.wrap (List.getD p.2.1 (i64.wrap n+i64.wrap (o-s-G)).toNat s))).toNat:Int)<u64.wrap (Q.1*u64.wrap (List.getD T.1 (s+i64.wrap (o-s-G)).toNat s)));(Ty.int u64).wf Q.1/\(Ty.int u64).wf Q.2.1/\True->I Q->(0:(Ty.int u64).den)<=F/\(decide g=false->s<=i64.wrap (o-s-G)/\i64.wrap (o-s-G)<o-s)/\(decide g=false->(0:(Ty.int u64).den)<=F)/\(decide g=false->s<=i64.wrap (o-s-G)/\i64.wrap (o-s-G)<i64.wrap w-i64.wrap n)/\(iB (G9 (decide g) true (decide d)) (c/\(0:(Ty.int u64).den)<=F/\(iB (decide i) (J_1 (u64.wrap (Q.1-D),())) (I H/\a H<a Q))) (J_1 (Q.1,()))))/\∀(Q:C8),(Ty.int u64).wf Q.1/\True->J_1 Q->∃(I:Tz->Prop),∃(a: _->Nat),I (s,s,p.2.1,())/\∀(R:Tz),let N:=(i64.wrap n+R.2.1);let E:=(u64.wrap (u64.wrap (Q.1*u64.wrap (List.getD T.1 (s+R.2.1).toNat s))+R.1));let z:=(u64.wrap (u64.wrap (List.getD R.2.2.1 C.toNat s)-R.1));let y:=(u64.wrap (u64.wrap (List.getD R.2.2.1 N.toNat s)-u64.wrap (u32.wrap E)));let q:=(u64.wrap (E.fdiv (G^Min.min K u64.bits)+y.fdiv (G^Min.min P.toNat u64.bits)),i64.wrap (R.2.1+D),List.set R.2.2.1 N.toNat (u32.wrap y),());let j:Prop:=(R.2.1<o-s);let f:Prop:=(z.fdiv (G^Min.min P.toNat u64.bits)=s);let d:Prop:=(s<=R.2.1/\R.2.1<i64.wrap w-i64.wrap n);(Ty.int u64).wf R.1/\(Ty.int i64).wf R.2.1/\Ir R.2.2.1/\True->I R->(iB (decide j) ((s<=R.2.1/\j)/\d/\d/\(0:(Ty.int u64).den)<=F/\(0:(Ty.int u64).den)<=P/\I q/\a q<a R) (b/\b/\(0:(Ty.int u64).den)<=P/\(iB (decide f) (h/\J (List.set R.2.2.1 C.toNat (u32.wrap z),List.set p.2.2.1 (i64.wrap n).toNat (u32.wrap Q.1),())) (∃(I:Tz->Prop),∃(a: _->Nat),I (s,s,List.set R.2.2.1 C.toNat (u32.wrap z),())/\∀(S:Tz),let O:=(i64.wrap n+S.2.1);let B:=(u64.wrap (S.1+u64.wrap (u64.wrap (List.getD S.2.2.1 O.toNat s)+u64.wrap (List.getD T.1 (s+S.2.1).toNat s))));let t:=(B.fdiv (G^Min.min K u64.bits),i64.wrap (S.2.1+D),List.set S.2.2.1 O.toNat (u32.wrap B),());let k:Prop:=(S.2.1<o-s);let e:Prop:=(s<=S.2.1/\S.2.1<i64.wrap w-i64.wrap n);(Ty.int u64).wf S.1/\(Ty.int i64).wf S.2.1/\Ir S.2.2.1/\True->I S->(iB (decide k) ((s<=S.2.1/\k)/\e/\e/\(0:(Ty.int u64).den)<=F/\I t/\a t<a S) (b/\b/\h/\J (List.set S.2.2.1 C.toNat (u32.wrap (List.getD S.2.2.1 C.toNat s+u32.wrap S.1)),List.set p.2.2.1 (i64.wrap n).toNat (u32.wrap (u64.wrap (Q.1-D))),()))))))))/\∀(Q:Hl),let L:=(i64.wrap (p.1+D),Q.1,Q.2.1,());Ir Q.1/\Ir Q.2.1/\True->J Q->I L/\a L<a p) ((s<=s/\s<=o/\o<=M)/\L3 (List.drop s.toNat (List.take o.toNat p.2.1))/\∀(U:A8u),Ir U.1/\True/\True->(r.1<s->U.1= []/\U.2.1=false)/\(s<=r.1->U.1=nc (nv (List.drop s.toNat (List.take o.toNat p.2.1))/(2:Nat)^Int.toNat r.1)/\U.2.1=true)->True/\Q4 λr=>r.1=nc (nv p.2.2.1)->r.1=nc (nv x.1/nv x.2.1)/\U.1=nc (nv x.1%nv x.2.1)))
def B7l {a b:Wf} {N D S:Nat} (g:A7 a) (h:A7 b) (f:b.length=N+2) (c:dg b (N+1)≠0) (d:a.length+1=D+(N+2)):nv a*2^S<nv b*2^S*4294967296^D:=by
 have d:0<2^S:=tP δ;have f:=Vs b (n:=N+1) ω;have f:4294967296^(N+1)<=nv b:=by
  have:=sC (4294967296^(N+1)) (sX c);omega
 have c:=Hr g;rw[(ω:a.length=(N+1)+D),tY]at c;have g:nv a<nv b*4294967296^D:=rJ c (rD _ f);have c:=xE g d;rw[g0d]at c;exact c
def C8h {A B S q r:Nat} (d:0<B) (c:A*2^S=q*(B*2^S)+r) (f:r<B*2^S):q=A/B/\r/2^S=A%B:=by
 have a:0<2^S:=tP δ;have b:q=A/B:=by
  rw[<-g0n A B a,c,sF q,g2y (g0w d a),uN f,tS]
 refine⟨b,?_⟩;have d:=xA A B;have f:r=(A%B)*2^S:=by
  have:A*2^S=(B*(A/B)+A%B)*2^S:=by rw[d]
  rw[this,b]at c;grind
 rw[f,g4r _ a]
def D0c {v:Wf} (d:A7 v) {n:Nat} (b:4294967296^n<=nv v) (c:nv v<4294967296^(n+1)):dg v n≠0:=by
 have a:0<4294967296^n:=tP δ;rw[QB d,uC (by rw[tX a,sF, <-rY];exact c)];have:=(vN a).2 (by rw[xH];exact b);omega
def B3i {u:Wf} (b:A7 u) {m i:Nat} (h:nv u<4294967296^m) (a:m<=i):dg u i=0:=by
 rw[QB b,uN (rJ h (rR δ a))]
def kL {x y:Nat} (c:x<=4294967295) (d:y<=4294967295):u64.wrap (((BitVec.ofInt 64 (u64.wrap ((x:Int)*2^32)) |||BitVec.ofInt 64 (y:Int)).toNat:Nat):Int)=((x*4294967296+y:Nat):Int):=by
 rw[Z9 (a:=(x:Int)*2^32) ω ω];have:=MR (v:=(y:Int)) (b:=(x:Int)) (k:=32) ω ω ω ω ω;rw[this,Z9 ω ω];omega
def C4a {v:Int} :Int.fdiv v (2^32)=v/4294967296:=by
 rw[sL _ δ];rfl
def D1g {v:Int} :Int.fdiv v (2^63)=v/9223372036854775808:=by
 rw[sL _ δ];rfl
def jF {d x:Nat} (a:d<=4294967295) (b:x<=4294967295):d*x<=18446744065119617025:=qY (uM a b) δ
def C1x {d v2 r a:Nat} (b:v2<=4294967295):G9 (decide ((d:Int)/4294967296≠0)) true (decide (((r*4294967296+a:Nat):Int)<u64.wrap ((d:Int)*(v2:Int))))=decide (4294967296<=d\/r*4294967296+a<d*v2):=by
 rw[F2];rcases sD d 4294967296 with h|h
 . have a:=jF (d:=d) (x:=v2) ω b;rw[<-uY,Z9 ω ω];have a:decide ((d:Int)/4294967296≠0)=false:=rC ω;rw[a,wI,xJ];omega
 . have a:decide ((d:Int)/4294967296≠0)=true:=rE ω;rw[a,g1i];exact(rE (.inl h)).symm
def C1o {d x c y:Nat} (i:d<=4294967295) (j:x<=4294967295) (h:c<=d) (n:y<=4294967295):∃b f:Nat,
 u64.wrap (Int.fdiv (u64.wrap (u64.wrap ((d:Int)*(x:Int))+(c:Int))) (2^32)+Int.fdiv (u64.wrap ((y:Int)-u64.wrap (u32.wrap (u64.wrap (u64.wrap ((d:Int)*(x:Int))+(c:Int)))))) (2^63))=(b:Int)/\
 u32.wrap (u64.wrap ((y:Int)-u64.wrap (u32.wrap (u64.wrap (u64.wrap ((d:Int)*(x:Int))+(c:Int))))))=(f:Int)/\b<=d/\y+4294967296*b=f+(d*x+c):=by
 have l:=jF i j;obtain⟨k,g⟩:=B6w (D:=d) (v:=x) (c:=c) (t:=y) ω ω h;rw[<-uY,Z9 (a:=((d*x:Nat):Int)) ω ω];generalize d*x=p at*;rw[Z9 (a:=(p:Int)+(c:Int)) ω ω,Dj,Z9 (a:=((p:Int)+(c:Int))%4294967296) ω ω,C4a,D1g,Dk ((y:Int)-_),Dj];refine⟨(p+c)/4294967296+(if y<(p+c)%4294967296 then 1 else 0),if y<(p+c)%4294967296 then y+4294967296-(p+c)%4294967296 else y-(p+c)%4294967296,?_,?_,g,?_⟩
 . rw[Z9 ω ω];split<;>omega
 . split<;>omega
 . split<;>omega
def B9d {U P V d:Nat} (a:0<P) (b:0<V) (h:P*(d*V)<=U):d<=U/P/V:=by
 rw[vN b,vN a,sF];exact h
def C9n {U P V d:Nat} (a:0<P) (b:0<V) (h:U<P*(d*V)):U/P/V<d:=by
 rw[tX b,tX a,sF];exact h
def gZ {U0 U W V P d q a:Nat} (g:U0=q*V+U) (f:W+P*(d*V)=U) (i:a=q+P*d) (b:0<P) (c:0<V) (k:U/P/V=d):U0=a*V+W/\W<V*P:=by
 refine⟨by subst i;rw[g, <-f];grind,?_⟩;have j:¬(P*((d+1)*V)<=U):=λh=>by have:=B9d b c h;omega
 have e:P*((d+1)*V)=P*(d*V)+V*P:=by grind
 omega
def C7d {q:Wf} (f:A7 q) {Q j d:Nat} (a:nv q=Q*4294967296^(j+1)) (b:j<q.length):nv (q.set j (d:Int))=nv q+4294967296^j*d/\nv (q.set j (d:Int))=(Q*4294967296+d)*4294967296^j:=by
 have c:0<4294967296^j:=tP δ;have h:=Lc (l:=q) (k:=j) (v:=(d:Int)) b;rw[qJ]at h;have b:dg q j=0:=by
  rw[QB f,a,rY,sF (4294967296^j), <-sN,g4r _ c,Nat.mul_mod_left]
 rw[b,wU,tS]at h;refine⟨h,?_⟩;rw[h,a,rY];grind
def B6h {x c y:Nat} (g:x<=4294967295) (f:c<=1) (h:y<=4294967295):∃b d:Nat,
 Int.fdiv (u64.wrap ((c:Int)+u64.wrap ((y:Int)+(x:Int)))) (2^32)=(b:Int)/\
 u32.wrap (u64.wrap ((c:Int)+u64.wrap ((y:Int)+(x:Int))))=(d:Int)/\b<=1/\d+4294967296*b=c+(y+x):=by
 rw[Z9 (a:=(y:Int)+(x:Int)) ω ω,Z9 (a:=(c:Int)+((y:Int)+(x:Int))) ω ω,C4a,Dj];exact⟨(c+(y+x))/4294967296,(c+(y+x))%4294967296,ω,ω,ω,ω⟩
def Ro:sx R5 Jd:=λx bu cm=>by
 obtain⟨a,b,_⟩:=x;have cd:A7 a:=A3 bu.1.2;have I:A7 b:=A3 bu.2.1.2;change Wf at a b;obtain⟨dr,db,dh,bp⟩:a.length<=17592186044416/\2<=b.length/\b.length<=a.length/\Og b:=cm;obtain⟨N,bg⟩:∃N,b.length=N+2:=⟨b.length-2,ω⟩;have a9:=SK I bp;rw[(ω:b.length-1=N+1)]at a9;simp only[Jd,iB,Q4,Int.sub_zero,Int.zero_add];rw[wv (a:=(b.length:Int)-1) ω,wv (a:=(b.length:Int)-2) ω,Gy I ω ω,(ω:((b.length:Int)-1).toNat=N+1),(ω:((b.length:Int)-2).toNat=N)];refine⟨⟨ω,ω⟩,trivial,?_⟩;rintro⟨(s:Int),_⟩ _ bn;simp only at bn|-;rw[qJ]at bn;have dj:=N8 I (N+1);have df:=YQ (v:=dg b (N+1)) ω;have de:=(DR a9).2;refine⟨⟨by show b.length<= _;omega,ω,ω⟩,?_⟩;rintro⟨v,_⟩ ⟨cu,_⟩ ⟨bt,R⟩;refine⟨⟨qH _,ω,by simp only at bt|-;omega⟩,⟨by show a.length<= _;omega,ω,ω⟩,?_⟩;rintro⟨f,_⟩ ⟨cs,_⟩ ⟨cp,ax⟩;have t:A7 v:=A3 cu.2;have dq:A7 f:=A3 cs.2;change Wf at v f;simp only at bt R cp ax|-;have Z:nv v<4294967296^(N+2):=by
  rw[R];exact B0o I (n:=N+1) ω (s:=s.toNat) ω
 have bh:4294967296^(N+1)<=nv v:=by
  have z:=Vs b (n:=N+1) ω;have bf:4294967296^(N+1)<=nv b:=by
   have:=sC (4294967296^(N+1)) (sX a9);omega
  rw[R];exact qY bf (Nat.le_mul_of_pos_right _ (tP δ))
 have bq:=D0c t bh Z;have a0:0<nv v:=rJ (tP δ) bh;obtain⟨D,dc⟩:∃D,f.length=D+(N+2):=⟨f.length-(N+2),ω⟩;have bo:=B7l (S:=s.toNat) cd I bg a9 (D:=D) ω;rw[<-ax, <-R]at bo;rw[wv (a:=(f.length:Int)-(b.length:Int)) ω,(ω:(f.length:Int)-(b.length:Int)=(D:Int))];have dd:1<=D:=ω
 refine⟨⟨ω,qH _,ω,ω⟩,?_⟩;refine⟨λp=>0<=p.1/\p.1<=(D:Int)/\p.2.1.length=f.length/\p.2.2.1.length=D/\nv f=nv p.2.2.1*nv v+nv p.2.1/\nv p.2.1<nv v*4294967296^((D:Int)-p.1).toNat/\∃Q,nv p.2.2.1=Q*4294967296^((D:Int)-p.1).toNat,λp=>((D:Int)-p.1).toNat,⟨qH _,qF _,rfl,by simp,?_,?_,0,?_⟩,?_⟩
 . show nv f=nv (List.replicate _ 0)*nv v+nv f;rw[Sn];omega
 . show nv f<nv v*4294967296^((D:Int)-0).toNat;rw[(ω:((D:Int)-0).toNat=D)];exact bo
 . show nv (List.replicate _ 0)= _;rw[Sn];omega
 rintro⟨(k:Int),u,q,_⟩ ⟨_,ct,cr,_⟩ ⟨d0,d1,c5,b4,aa,J,Q,a8⟩;have F:A7 u:=A3 ct.2;have bm:A7 q:=A3 cr.2;change Wf at u q;simp only at d0 d1 c5 b4 aa J a8|-;refine⟨λa1=>?_,λa1=>?_⟩
 . have a1:=qA a1;obtain⟨j,cg⟩:∃j:Nat,(D:Int)-1-k=(j:Int):=⟨((D:Int)-1-k).toNat,ω⟩;rw[(ω:((D:Int)-k).toNat=j+1)]at J a8;rw[wv (a:=(D:Int)-1) ω,cg,wv (a:=(j:Int)) ω,wv (a:=(j:Int)+(b.length:Int)) ω,wv (a:=(j:Int)+(b.length:Int)+1) ω,wv (a:=k+1) ω];rw[(ω:((j:Int)+(b.length:Int)).toNat=j+N+2),(ω:((j:Int)+((b.length:Int)-1)).toNat=j+N+1),(ω:((j:Int)+((b.length:Int)-2)).toNat=j+N)];have dn:j+1<=D:=ω
   have a4:=D1a F t (j:=j) (n:=N) ω Z bq ω J;have dv:=N8 t (N+1);have d5:=N8 t N;have d7:=N8 F (j+N+2);have d8:=N8 F (j+N+1);have d9:=N8 F (j+N);have Y:0<4294967296^j:=tP δ;refine⟨λp=>p.1.length=f.length/\p.2.1.length=D/\nv f=nv p.2.1*nv v+nv p.1/\nv p.1<nv v*4294967296^j/\∃Q,nv p.2.1=Q*4294967296^j,?_,?_⟩
   . rw[Ac t,Ac t,Ac F,Ac F,Ac F];rw[Z9 (a:=(dg v (N+1):Int)) ω ω,Z9 (a:=(dg v N:Int)) ω ω,Z9 (a:=(dg u (j+N+2):Int)) ω ω,Z9 (a:=(dg u (j+N+1):Int)) ω ω,Z9 (a:=(dg u (j+N):Int)) ω ω];rw[show Min.min (Int.toNat 32) u64.bits=32 from rfl,show Min.min (Int.toNat 63) u64.bits=63 from rfl,show u64.bits=64 from rfl,kL d7 d8];refine⟨⟨ω,ω,ω⟩,⟨ω,ω⟩,δ,⟨ω,ω⟩,⟨ω,ω⟩,ω,⟨ω,ω⟩,ω,?_⟩;have ao:=a4.est;have ab:= @eN.near _ _ _ _ _ _ _ a4;have an:= @eN.dec _ _ _ _ _ _ _ a4;have ar:= @eN.out _ _ _ _ _ _ _ a4;generalize ca:nv u/4294967296^j/nv v=QS at ao ab an ar|-;refine⟨λp=>QS<=p.1.toNat/\p.1.toNat<=QS+1/\0<=p.1/\p.1<4294967296,?_,?_⟩
     . refine⟨λp=>∃d r:Nat,p.1=(d:Int)/\p.2.1=(r:Int)/\dg u (j+N+2)*4294967296+dg u (j+N+1)=d*dg v (N+1)+r/\QS<=d/\r<4294967296,λp=>p.1.toNat,?_,?_⟩
       . have bs:0<dg v (N+1):=sX bq;have ch:=(vN bs).2 ao;have o:=wL (dg u (j+N+2)*4294967296+dg u (j+N+1)) bs;have ce:=xA (dg u (j+N+2)*4294967296+dg u (j+N+1)) (dg v (N+1));have dk:=xB (dg u (j+N+2)*4294967296+dg u (j+N+1)) (dg v (N+1));have hT:dg u (j+N+2)*4294967296+dg u (j+N+1)<=18446744073709551615:=ω
         refine⟨(dg u (j+N+2)*4294967296+dg u (j+N+1))/dg v (N+1),(dg u (j+N+2)*4294967296+dg u (j+N+1))%dg v (N+1),?_,rfl,?_,ch,ω⟩
         . show u64.wrap (Int.tdiv _ _)= _;have e:Int.tdiv ((dg u (j+N+2)*4294967296+dg u (j+N+1):Nat):Int) ((dg v (N+1):Nat):Int)=(((dg u (j+N+2)*4294967296+dg u (j+N+1))/dg v (N+1):Nat):Int):=rfl;rw[e];generalize (dg u (j+N+2)*4294967296+dg u (j+N+1))/dg v (N+1)=ba at*;exact Z9 ω ω
         . have:=ce.symm;rw[sF (dg v (N+1))]at this;exact this
       . rintro⟨(aj:Int),(d4:Int),_⟩ ⟨bk,_⟩ ⟨d,r,z,G,au,cn,dp⟩;simp only at z G bk|-;subst z G;have di:(d:Int)<=18446744073709551615:=by have:=bk.2;rw[EY]at this;exact this
         rw[C4a,C4a,kL (x:=r) ω d9,C1x d5];refine⟨δ,λ_=>⟨ω,ω⟩,λ_=>δ,λ_=>⟨ω,ω⟩,λE=>?_,λE=>?_⟩
         . have E:=qA E;have dm:=an au cn E;rw[Z9 (a:=(r:Int)+(dg v (N+1):Int)) ω ω,Z9 (a:=(d:Int)-1) ω ω];obtain⟨e,rfl⟩:∃e,d=e+1:=⟨d-1,ω⟩;have av:dg u (j+N+2)*4294967296+dg u (j+N+1)=e*dg v (N+1)+(r+dg v (N+1)):=by rw[au,uV,xH];omega
           refine⟨⟨ω,ω⟩,δ,λX=>?_,λX=>?_⟩
           . have X:=qA X;obtain⟨d2,d3⟩:=ar av ω ω;have c4:=ab av d2 d3;have be:(((e+1:Nat):Int)-1).toNat=e:=ω
             refine⟨?_,?_,?_,?_⟩
             . show _ <=(((e+1:Nat):Int)-1).toNat;rw[be];omega
             . show(((e+1:Nat):Int)-1).toNat<= _;rw[be];exact c4
             . show(0:Int)<=((e+1:Nat):Int)-1;omega
             . show((e+1:Nat):Int)-1< _;omega
           . have X:(((r:Int)+(dg v (N+1):Int))/4294967296)=0:=g3l (qB X);refine⟨⟨e,r+dg v (N+1),ω,ω,av,ω,ω⟩,ω⟩
         . have E:=qB E;have c4:=ab au ω ω;exact⟨by show _ <=(d:Int).toNat;omega,by show(d:Int).toNat<= _;omega,qF _,by show(d:Int)< _;omega⟩
     . rintro⟨(aj:Int),_⟩ _ ⟨bb,ai,bc,c6⟩;simp only at bb ai bc c6|-;obtain⟨d,rfl⟩:=uT bc;rw[qJ]at bb ai;clear ao ab an ar;refine⟨λp=>∃c i:Nat,p.1=(c:Int)/\p.2.1=(i:Int)/\i<=N+2/\c<=d/\p.2.2.1.length=f.length/\nv p.2.2.1+4294967296^j*(d*nv (v.take i))=nv u+4294967296^(j+i)*c/\∀m,j+i<=m->dg p.2.2.1 m=dg u m,λp=>((N:Int)+2-p.2.1).toNat,⟨0,0,rfl,rfl,ω,ω,c5,by simp[nv],λ_ _=>rfl⟩,?_⟩;rintro⟨(ah:Int),(ay:Int),w,_⟩ ⟨_,_,cv,_⟩ ⟨c,i,z,G,ap,E,ae,a5,a7⟩;have ac:A7 w:=A3 cv.2;change Wf at w;simp only at z G ap E ae a5 a7|-;subst z G;refine⟨λg=>?_,λg=>?_⟩
       . have g:(i:Int)<(b.length:Int):=qA g;have b8:=N8 t i;have af:=N8 ac (j+i);rw[show((i:Int)).toNat=i from qJ _,(ω:((j:Int)+(i:Int)).toNat=j+i),Ac t,Ac ac,Z9 (a:=(dg v i:Int)) ω ω,Z9 (a:=(dg w (j+i):Int)) ω ω,wv (a:=(i:Int)+1) ω];obtain⟨ag,b5,b0,b1,b2,b3⟩:=C1o (d:=d) (x:=dg v i) (c:=c) (y:=dg w (j+i)) ω b8 E af;rw[b0,b1];refine⟨⟨ω,g⟩,⟨ω,ω⟩,⟨ω,ω⟩,δ,δ,⟨ag,i+1,rfl,ω,ω,b2,by rw[qM];exact ae,?_,?_⟩,ω⟩
         . have O:=Lc (l:=w) (k:=j+i) (v:=(b5:Int)) ω;rw[qJ]at O;rw[J3,(ω:j+(i+1)=(j+i)+1),rY _ (j+i)];exact B5c a5 O b3 (tY ..)
         . intro m o;rw[Zw ω,qG ω];exact a7 m ω
       . have g:=qB g;have aq:i=N+2:=ω
         subst aq;rw[Kb t,uC Z]at a5;have aw:=a7 (j+N+2) ω;rw[Ac ac,aw,Z9 (a:=(dg u (j+N+2):Int)) ω ω,D1g,show((j:Int)).toNat=j from qJ _];have cj:nv u<4294967296^(j+N+3):=by
          refine rJ J ?_;have e:4294967296^(j+N+3)=4294967296^(N+2)*4294967296^(j+1):=by rw[<-tY];congr 1;omega
          rw[e];exact rD _ (vX Z)
         rw[(ω:j+(N+2)=j+N+2)]at a5;refine⟨⟨ω,ω⟩,⟨ω,ω⟩,δ,λH=>?_,λH=>?_⟩
         . have H:=qA H;have bj:c<=dg u (j+N+2):=by rw[Dk]at H;omega
           rw[Z9 (a:=(dg u (j+N+2):Int)-(c:Int)) ω ω,w32 (a:=(dg u (j+N+2):Int)-(c:Int)) ω ω,w32 (a:=(d:Int)) ω ω];have O:=Lc (l:=w) (k:=j+N+2) (v:=(dg u (j+N+2):Int)-(c:Int)) ω;rw[aw,(ω:((dg u (j+N+2):Int)-(c:Int)).toNat=dg u (j+N+2)-c),Nat.mul_sub]at O;have bi:=sC (4294967296^(j+N+2)) bj;have am:nv (w.set (j+N+2) ((dg u (j+N+2):Int)-(c:Int)))+4294967296^j*(d*nv v)=nv u:=ω
           have cf:=B9d Y a0 (U:=nv u) (d:=d) ω;obtain⟨b6,b7⟩:=C7d bm (d:=d) a8 ω;obtain⟨T,W⟩:=gZ aa am b6 Y a0 ω;exact⟨⟨ω,ω⟩,by show(List.set _ _ _).length= _;rw[qM];exact ae,by show(List.set _ _ _).length= _;rw[qM];exact b4,T,W,_,b7⟩
         . have H:=qB H;have bj:dg u (j+N+2)<c:=by rw[Dk]at H;omega
           have c8:u32.wrap (u64.wrap ((dg u (j+N+2):Int)-(c:Int)))=((dg u (j+N+2)+4294967296-c:Nat):Int):=by
            rw[Dk,Dj];omega
           rw[c8];have O:=Lc (l:=w) (k:=j+N+2) (v:=((dg u (j+N+2)+4294967296-c:Nat):Int)) ω;rw[aw,qJ,Nat.mul_sub,sY]at O;have bi:=sC (4294967296^(j+N+2)) (ω:c<=dg u (j+N+2)+4294967296);rw[sY]at bi;have d6:A7 (w.set (j+N+2) ((dg u (j+N+2)+4294967296-c:Nat):Int)):=iY ac (by show 0<= _ /\ _ <= _;omega);have bw:∀m,j+N+3<=m->dg (w.set (j+N+2) ((dg u (j+N+2)+4294967296-c:Nat):Int)) m=0:=λm o=>by
            rw[Zw ω,qG ω,a7 m ω];exact B3i F cj o
           have ci:(w.set (j+N+2) ((dg u (j+N+2)+4294967296-c:Nat):Int)).length=f.length:=by rw[qM];exact ae
           generalize w.set (j+N+2) ((dg u (j+N+2)+4294967296-c:Nat):Int)=ad at*;have cc:nv ad+4294967296^j*(d*nv v)=nv u+4294967296^(j+N+2)*4294967296:=ω
           have cq:nv ad<4294967296^(j+N+2)*4294967296:=by
            have bf:=V6 d6 (j+N+3);rw[TN bw, <-D1w (j+N)]at bf;exact bf
           have cf:=C9n Y a0 (U:=nv u) (d:=d) ω;obtain⟨e,rfl⟩:∃e,d=e+1:=⟨d-1,ω⟩;refine⟨λp=>∃c i:Nat,p.1=(c:Int)/\p.2.1=(i:Int)/\i<=N+2/\c<=1/\p.2.2.1.length=f.length/\nv p.2.2.1+4294967296^(j+i)*c=nv ad+4294967296^j*nv (v.take i)/\∀m,j+i<=m->dg p.2.2.1 m=dg ad m,λp=>((N:Int)+2-p.2.1).toNat,⟨0,0,rfl,rfl,ω,ω,ci,by simp[nv],λ_ _=>rfl⟩,?_⟩;rintro⟨(ah:Int),(ay:Int),y,_⟩ ⟨_,_,cw,_⟩ ⟨h,i,z,G,ap,bl,b9,a6,ak⟩;have a3:A7 y:=A3 cw.2;change Wf at y;simp only at z G ap bl b9 a6 ak|-;subst z G;refine⟨λg=>?_,λg=>?_⟩
           . have g:(i:Int)<(b.length:Int):=qA g;have b8:=N8 t i;have af:=N8 a3 (j+i);rw[show((i:Int)).toNat=i from qJ _,(ω:((j:Int)+(i:Int)).toNat=j+i),Ac t,Ac a3,Z9 (a:=(dg v i:Int)) ω ω,Z9 (a:=(dg y (j+i):Int)) ω ω,wv (a:=(i:Int)+1) ω];obtain⟨ag,b5,b0,b1,b2,b3⟩:=B6h (x:=dg v i) (c:=h) (y:=dg y (j+i)) b8 bl af;rw[b0,b1];refine⟨⟨ω,g⟩,⟨ω,ω⟩,⟨ω,ω⟩,δ,⟨ag,i+1,rfl,ω,ω,b2,by rw[qM];exact b9,?_,?_⟩,ω⟩
             . have a2:=Lc (l:=y) (k:=j+i) (v:=(b5:Int)) ω;rw[qJ]at a2;rw[J3,(ω:j+(i+1)=(j+i)+1),rY _ (j+i)];exact B2a a6 a2 b3 (tY ..)
             . intro m o;rw[Zw ω,qG ω];exact ak m ω
           . have g:=qB g;have aq:i=N+2:=ω
             subst aq;rw[Kb t,uC Z,(ω:j+(N+2)=j+N+2)]at a6;have af:=N8 a3 (j+N+2);have c9:u32.wrap ((dg y (j+N+2):Int)+u32.wrap (h:Int))=(((dg y (j+N+2)+h)%4294967296:Nat):Int):=by
              rw[w32 (a:=(h:Int)) ω ω,Dj];omega
             have c7:u32.wrap (u64.wrap (((e+1:Nat):Int)-1))=(e:Int):=by
              rw[Z9 ω ω,w32 ω ω];omega
             rw[Ac a3,c9,c7];have a2:=Lc (l:=y) (k:=j+N+2) (v:=(((dg y (j+N+2)+h)%4294967296:Nat):Int)) ω;rw[qJ]at a2;obtain⟨az,ck,cl⟩:∃az,dg y (j+N+2)+h=(dg y (j+N+2)+h)%4294967296+4294967296*az/\az<=1:=⟨(dg y (j+N+2)+h)/4294967296,ω,ω⟩;have da:A7 (y.set (j+N+2) (((dg y (j+N+2)+h)%4294967296:Nat):Int)):=iY a3 (by show 0<= _ /\ _ <= _;omega);have cx:∀m,j+N+3<=m->dg (y.set (j+N+2) (((dg y (j+N+2)+h)%4294967296:Nat):Int)) m=0:=λm o=>by
              rw[Zw ω,qG ω,ak m ω];exact bw m o
             have cy:(y.set (j+N+2) (((dg y (j+N+2)+h)%4294967296:Nat):Int)).length=f.length:=by rw[qM];exact b9
             generalize y.set (j+N+2) (((dg y (j+N+2)+h)%4294967296:Nat):Int)=ba at*;have cz:nv ba<4294967296^(j+N+2)*4294967296:=by
              have bf:=V6 da (j+N+3);rw[TN cx, <-D1w (j+N)]at bf;exact bf
             obtain⟨cb,am⟩:=B6m (U:=nv u) (P:=4294967296^j) (V:=nv v) (e:=e) (M:=4294967296^(j+N+2)) Y a0 cc cq (by rw[ca];exact ai) a6 a2 ck cl cz;obtain⟨b6,b7⟩:=C7d bm (d:=e) a8 ω;obtain⟨T,W⟩:=gZ aa am b6 Y a0 cb;exact⟨⟨ω,ω⟩,⟨ω,ω⟩,⟨ω,ω⟩,cy,by show(List.set _ _ _).length= _;rw[qM];exact b4,T,W,_,b7⟩
   . rintro⟨du,dt,_⟩ _ ⟨bx,bz,c0,c2,Q',c3⟩;simp only at bx bz c0 c2 c3|-;rw[(ω:((D:Int)-(k+1)).toNat=j)];exact⟨⟨ω,ω,bx,bz,c0,c2,Q',c3⟩,ω⟩
 . have a1:=qB a1;rw[(ω:((D:Int)-k).toNat=0),g1j,xG]at J;have co:0<=s:=ω
   obtain⟨T,W⟩:=C8h (A:=nv a) (B:=nv b) (S:=s.toNat) (q:=nv q) (r:=nv u) (sX (cJ I bp)) (by rw[<-ax, <-R];exact aa) (by rw[<-R];exact J);refine⟨⟨qH _,ω,ω⟩,?_,?_⟩
   . show(List.drop _ (List.take _ _)).length<= _;rw[sU,qZ];omega
   rintro⟨m,ds,_⟩ _ o;refine⟨trivial,?_⟩;rintro⟨ba,_⟩ _ bv;simp only at o bv|-;have o:=(o.2 co).1;rw[show(Int.toNat 0)=0 from rfl,uL,show((b.length:Int)).toNat=b.length from qJ _,Kb F,bg,uC ω,W]at o;exact⟨by rw[bv,T],o⟩
def KY:An:= {plan:= [(8,[],[],true, .done)]}
def YB:An:= {join:= [(4,⟨[],[],[(0,false,[.val qa]),(1,false,[.val qa])],[],[]⟩)],loop:= [(7,⟨[],[],[(5,false,vU),(6,false,vU)],[],[]⟩),(4,⟨[],[],[(0,false,[.val qa]),(1,false,[.val qa])],[],[]⟩)],plan:= [(8,[],[],true, .done),(15,[2,5,9,12],[],true, .done),(16,[2,5,9,12],[],true, .done)]}
def Qh(x:Hl):Prop:=let e:=(0:Nat);let d:=(nv x.1%nv x.2.1);let c:=(nv x.1/nv x.2.1);let b:=(0:Int);True/\Q4 λr=>let f:Prop:=((r.1.length:Int)<=(2:Int));r.1=nc (nv x.1)->True/\Q4 λh=>let a:=(h.1.length:Int);h.1=nc (nv x.2.1)->(iB (decide (a=b)) ((nv x.2.1=e->Bh Int= []/\Bh Int= []/\false=false)/\(nv x.2.1≠e->Bh Int=nc c/\Bh Int=nc d/\false=true)) (True/\Fg λk=>k.1=Dt (nv r.1) (nv h.1)->(iB (decide (k.1<b)) (Im r.1/\Q4 λg=>g.1=nc (nv r.1)->(nv x.2.1=e->Bh Int= []/\g.1= []/\true=false)/\(nv x.2.1≠e->Bh Int=nc c/\g.1=nc d/\true=true)) ((iB (decide f) (List.length r.1<=2/\rT9 λg=>g.1=(↑(nv r.1):Int)->List.length h.1<=2/\rT9 λr=>r.1=(↑(nv h.1):Int)->r.1≠b/\r.1≠b/\True/\Q4 λi=>i.1=nc (u64.wrap (Int.tdiv g.1 r.1)).toNat->True/\Q4 λj=>j.1=nc (Int.tmod g.1 r.1).toNat->(nv x.2.1=e->i.1= []/\j.1= []/\true=false)/\(nv x.2.1≠e->i.1=nc c/\j.1=nc d/\true=true)) ((iB (decide (a=(1:Int))) ((b<=b/\b<a)/\(L3 r.1/\gx b h.1 b≠b)/\∀(g:Hl),Ir g.1/\Ir g.2.1/\True->g.1=nc (nv r.1/(gx b h.1 b).toNat)/\g.2.1=nc (nv r.1%(gx b h.1 b).toNat)->(nv x.2.1=e->g.1= []/\g.2.1= []/\true=false)/\(nv x.2.1≠e->g.1=nc c/\g.2.1=nc d/\true=true)) ((L3 r.1/\(2:Nat)<=List.length h.1/\List.length h.1<=List.length r.1/\Og h.1)/\∀(g:Hl),Ir g.1/\Ir g.2.1/\True->g.1=nc (nv r.1/nv h.1)/\g.2.1=nc (nv r.1%nv h.1)->(nv x.2.1=e->g.1= []/\g.2.1= []/\true=false)/\(nv x.2.1≠e->g.1=nc c/\g.2.1=nc d/\true=true)))))))))
def CF(x:Hl):Prop:=let e:=(nv x.2.1);let c:=(0:Int);True/\Q4 λr=>r.1=nc (nv x.1)->True/\Q4 λj=>j.1=nc e->∃(J:Hl->Prop),(True/\Fg λh=>h.1=Dt (nv r.1) (nv j.1)->(iB (decide (h.1<c)) (J (j.1,r)) (J (r.1,j))))/\∀(p:Hl),(Ty.int u32).sl.wf p.1/\(Ty.int u32).sl.wf p.2.1/\True->J p->∃(I:Hl->Prop),∃(a: _->Nat),I (p.1,p.2.1,())/\∀(p:Hl),let g:=(↑(nv p.2.1):Int);let d:Prop:=((p.1.length:Int)<=(2:Int));let b:Prop:=(c<(p.2.1.length:Int));(Ty.int u32).sl.wf p.1/\(Ty.int u32).sl.wf p.2.1/\True->I p->(iB (decide b) ((iB (decide d) (List.length p.1<=2/\rT9 λr=>r.1=(↑(nv p.1):Int)->List.length p.2.1<=2/\rT9 λh=>h.1=g->∃(I:En->Prop),∃(a: _->Nat),I (r.1,h)/\∀(p:En),let d:=(p.2.1,Int.tmod p.1 p.2.1,());(Ty.int u64).wf p.1/\(Ty.int u64).wf p.2.1/\True->I p->(iB (decide (p.2.1≠c)) (p.2.1≠c/\I d/\a d<a p) (True/\Q4 λr=>r.1=nc p.1.toNat->r.1=nc ((nv x.1).gcd e)))) ((L3 p.1/\(3:Nat)<=List.length p.1/\Og p.1/\nv p.2.1<=nv p.1/\List.length p.2.1<=List.length p.1)/\∀(r:(Int×Int×Int×Int×Bool)×Unit),(KO r.1.1/\KO r.1.2.1/\KO r.1.2.2.1/\KO r.1.2.2.2.1/\True)/\True->C8y (↑(nv p.1):Int) g r.1.1 r.1.2.1 r.1.2.2.1 r.1.2.2.2.1 r.1.2.2.2.2->(iB (decide (r.1.2.2.1=c)) (L3 p.1/\∀(r:C2f),let f:=(p.2.1,r.2.1,());Ir r.1/\Ir r.2.1/\True/\True->(nv p.2.1=0->r.1= []/\r.2.1= []/\r.2.2.1=false)/\(nv p.2.1≠0->r.1=nc (nv p.1/nv p.2.1)/\r.2.1=nc (nv p.1%nv p.2.1)/\r.2.2.1=true)->I f/\a f<a p) ((iB r.1.2.2.2.2 ((Gl p.1/\Gl p.2.1/\nv p.2.1*Int.toNat r.1.2.2.1<=nv p.1*Int.toNat r.1.1)/\Q4 λh=>h.1=nc (nv p.1*Int.toNat r.1.1-nv p.2.1*Int.toNat r.1.2.2.1)->(Gl p.2.1/\Gl p.1/\nv p.1*Int.toNat r.1.2.1<=nv p.2.1*Int.toNat r.1.2.2.2.1)/\Q4 λi=>i.1=nc (nv p.2.1*Int.toNat r.1.2.2.2.1-nv p.1*Int.toNat r.1.2.1)->I (h.1,i)/\a (h.1,i)<a p) ((Gl p.2.1/\Gl p.1/\nv p.1*Int.toNat r.1.1<=nv p.2.1*Int.toNat r.1.2.2.1)/\Q4 λh=>h.1=nc (nv p.2.1*Int.toNat r.1.2.2.1-nv p.1*Int.toNat r.1.1)->(Gl p.1/\Gl p.2.1/\nv p.2.1*Int.toNat r.1.2.2.2.1<=nv p.1*Int.toNat r.1.2.1)/\Q4 λi=>i.1=nc (nv p.1*Int.toNat r.1.2.1-nv p.2.1*Int.toNat r.1.2.2.2.1)->I (h.1,i)/\a (h.1,i)<a p))))))) (Im p.1/\Q4 λr=>r.1=nc (nv p.1)->r.1=nc ((nv x.1).gcd e)))
def CE:sx Ar Qh:=λx I R=>by
 obtain⟨a,b,_⟩:=x;have O:A7 a:=A3 I.1.2;have Y:A7 b:=A3 I.2.1.2;change Wf at a b;have B:a.length<=17592186044416:=R;have W:=D2 O;simp only[Qh,iB,Fg,Q4,rT9];refine⟨trivial,?_⟩;rintro⟨y,_⟩ _ r;refine⟨trivial,?_⟩;rintro⟨s,_⟩ _ j;simp only at r j|-;have t:nv y=nv a:=by rw[r,F7]
 have u:nv s=nv b:=by rw[j,F7]
 have A:y.length<=a.length:=by rw[r];exact W
 have a1:A7 y:=r▸K5 _;have T:A7 s:=j▸K5 _;refine⟨λh=>?_,λh=>?_⟩
 . have h:=qA h;have c:nv b=0:=by rw[<-u,qT (l:=s) ω];rfl
   exact⟨λ_=>⟨by trivial,by trivial,by trivial⟩,λf=>absurd c f⟩
 have h:=qB h;have o:nv b≠0:=λc=>h (by rw[j,c,Q3];rfl)
 refine⟨trivial,?_⟩;rintro⟨X,_⟩ _ g;simp only at g|-;rw[t,u]at g;refine⟨λh=>?_,λh=>?_⟩
 . have h:=qA h;have E:nv a<nv b:=by
    rcases sD (nv a) (nv b)with f|f
    . exact f
    . unfold Dt at g;rw[qG ω]at g;split at g<;>omega
   refine⟨qY A (qY B δ),?_⟩;rintro⟨a3,_⟩ _ H;simp only at H|-;refine⟨λc=>absurd c o,λ_=>⟨?_,?_,by trivial⟩⟩
   . rw[uN E,Q3]
   . rw[uC E,H,t]
 have h:=qB h;have P:nv b<=nv a:=by
  rcases sD (nv a) (nv b)with f|f
  . rw[Pr f]at g;omega
  . exact f
 have U:s.length<=y.length:=by rw[r,j];exact J7 P
 refine⟨λk=>?_,λk=>?_⟩
 . have k:=qA k;refine⟨ω,?_⟩;rintro⟨x,_⟩ ⟨J,_⟩ v;refine⟨ω,?_⟩;rintro⟨D,_⟩ ⟨V,_⟩ w;change Int at x D;simp only at J V v w|-;rw[t]at v;rw[u]at w;have a2:x<=18446744073709551615:=by have:=J.2;rw[EY]at this;exact this
   have M:Int.tdiv x D=((nv a/nv b:Nat):Int):=by rw[v,w];rfl
   have N:Int.tmod x D=((nv a%nv b:Nat):Int):=by rw[v,w];rfl
   have a0:nv a/nv b<=nv a:=xB _ _;refine⟨ω,ω,trivial,?_⟩;rintro⟨q,_⟩ _ G;refine⟨trivial,?_⟩;rintro⟨m,_⟩ _ F;simp only at G F|-;refine⟨λc=>absurd c o,λ_=>⟨?_,?_,by trivial⟩⟩
   . rw[G,M];generalize nv a/nv b=Q at*;rw[Z9 ω ω];rfl
   . rw[F,N];rfl
 have k:=qB k;refine⟨λn=>?_,λn=>?_⟩
 . have n:=qA n;have e:(gx (0:Int) s (0:Int)).toNat=nv b:=by
    rw[<-u];obtain⟨z,rfl⟩:∃z,s= [z]:=g2r.1 ω;show z.toNat=z.toNat+4294967296*0;omega
   have Z:=Vm T (i:=0) (qH _) ω;refine⟨⟨qH _,ω⟩,⟨qY A B,ω⟩,?_⟩;rintro⟨q,m,_⟩ _ d;simp only at d|-;rw[e,t]at d;exact⟨λc=>absurd c o,λ_=>⟨d.1,d.2,by trivial⟩⟩
 have n:=qB n;refine⟨⟨qY A B,ω,U,by rw[j];exact jG o⟩,?_⟩;rintro⟨q,m,_⟩ _ d;simp only at d|-;rw[t,u]at d;exact⟨λc=>absurd c o,λ_=>⟨d.1,d.2,by trivial⟩⟩
structure pR (A B A' B':Nat):Prop where
 g:Nat.gcd A' B'=Nat.gcd A B
 le:B'<=A'
 lt:A'+B'<A+B
 top:A'<=A
def B3g {A B:Nat} (h:B<=A) (a:0<B):pR A B B (A%B) where
 g:=by rw[xD A B,xD B];exact(g3u B A).symm
 le:=vX (wL _ a)
 lt:=by have:=wL A a;omega
 top:=h
def B3r {A B:Nat} {u0 u1 v0 v1:Int} {ev:Bool} (I:0<B) (h:C8y A B u0 u1 v0 v1 ev) (r:v0≠0):
 (ev=true->B*v0.toNat<=A*u0.toNat/\A*u1.toNat<=B*v1.toNat/\pR A B (A*u0.toNat-B*v0.toNat) (B*v1.toNat-A*u1.toNat))/\
 (ev=false->A*u0.toNat<=B*v0.toNat/\B*v1.toNat<=A*u1.toNat/\pR A B (B*v0.toNat-A*u0.toNat) (A*u1.toNat-B*v1.toNat)):=by
 rcases h with h| ⟨A',B',d,f,k,n,u,iB,v,w,z,D⟩
 . exact absurd h r
 have o:=B8g (A:=A) (B:=B) (A':=A') (B':=B') (u0:=u0) (u1:=u1) (v0:=v0) (v1:=v1) (s:=if ev then u0 else -u0) (t:=if ev then -v0 else v0) (p:=if ev then -u1 else u1) (q:=if ev then v1 else -v1) u iB (by rw[d];cases ev<;>simp<;>grind) (by rw[f];cases ev<;>simp<;>grind);obtain⟨U0,rfl⟩:=uT z;obtain⟨U1,rfl⟩:=uT D;obtain⟨V0,rfl⟩:=uT (ω:(0:Int)<=v0);obtain⟨V1,rfl⟩:=uT (ω:(0:Int)<=v1);obtain⟨b,rfl⟩:=uT k;obtain⟨a,rfl⟩:=uT (g4x k n);simp only[qJ];have J:(1:Int)*(a:Int)<=(V1:Int)*a:=sM w ω;have M:(1:Int)*(b:Int)<=(V0:Int)*b:=sM v ω;have c:∀x y:Nat,((x*y:Nat):Int)=(y:Int)*(x:Int):=λx y=>by rw[uY,g2q]
 have E:=c A U0;have F:=c B V0;have G:=c A U1;have H:=c B V1;have l:pR A B a b:=⟨o.symm,ω,ω,ω⟩;refine⟨λg=>?_,λg=>?_⟩
 . subst g;simp only[wN]at d f;have i:A*U0-B*V0=a:=ω
   have j:B*V1-A*U1=b:=ω
   refine⟨ω,ω,?_⟩;rw[i,j];exact l
 . subst g;simp only[wB,yF]at d f;have i:B*V0-A*U0=a:=ω
   have j:A*U1-B*V1=b:=ω
   refine⟨ω,ω,?_⟩;rw[i,j];exact l
def B8h {x y:Int} (d:0<=x) (f:0<y):Nat.gcd y.toNat (Int.tmod x y).toNat=Nat.gcd x.toNat y.toNat/\(Int.tmod x y).toNat<y.toNat:=by
 obtain⟨a,rfl⟩:=uT d;obtain⟨b,rfl⟩:=uT (xC f);have e:Int.tmod (a:Int) (b:Int)=((a%b:Nat):Int):=rfl;simp only[e,qJ];have c:0<b:=ω
 exact⟨by rw[xD a b,xD b];exact(g3u b a).symm,wL _ c⟩
structure B6b (G:Nat) (a b:Wf):Prop where
 ea:a=nc (nv a)
 eb:b=nc (nv b)
 le:nv b<=nv a
 g:Nat.gcd (nv a) (nv b)=G
 len:a.length<=8796093022208
def B6b.step {G:Nat} {a b c d:Wf} {A' B':Nat} (h:B6b G a b) (s:pR (nv a) (nv b) A' B') (i:c=nc A') (j:d=nc B'):B6b G c d/\nv c+nv d<nv a+nv b:=by
 have f:nv c=A':=by rw[i,F7]
 have c:nv d=B':=by rw[j,F7]
 refine⟨⟨by rw[f];exact i,by rw[c];exact j,by rw[f,c];exact s.le,by rw[f,c,s.g];exact h.g,?_⟩,by rw[f,c];exact s.lt⟩;have:=J7 s.top;rw[<-h.ea]at this;rw[i];exact qY this h.len
def NS:sx Fu CF:=λx J k=>by
 obtain⟨c,d,_⟩:=x;have U:A7 c:=A3 J.1.2;have V:A7 d:=A3 J.2.1.2;change Wf at c d;obtain⟨ah,ai⟩:c.length<=8796093022208/\d.length<=8796093022208:=k;have aj:=D2 U;have ak:=D2 V;simp only[CF,iB,Fg,Q4,rT9];refine⟨trivial,?_⟩;rintro⟨a3,_⟩ _ v;refine⟨trivial,?_⟩;rintro⟨a4,_⟩ _ w;simp only at v w|-;have n:nv a3=nv c:=by rw[v,F7]
 have o:nv a4=nv d:=by rw[w,F7]
 refine⟨λp=>B6b (Nat.gcd (nv c) (nv d)) p.1 p.2.1,⟨trivial,?_⟩,?_⟩
 . rintro⟨ad,_⟩ _ r;simp only at r|-;rw[n,o]at r;refine⟨λt=>?_,λt=>?_⟩
   . have t:=qA t;refine⟨by rw[o];exact w,by rw[n];exact v,?_,by rw[n,o,xD],by rw[w];omega⟩;rw[n,o];rcases sD (nv c) (nv d)with f|f
     . omega
     . unfold Dt at r;rw[qG ω]at r;split at r<;>omega
   . have t:=qB t;refine⟨by rw[n];exact v,by rw[o];exact w,?_,by rw[n,o],by rw[v];omega⟩;rw[n,o];rcases sD (nv c) (nv d)with f|f
     . rw[Pr f]at r;omega
     . exact f
 rintro⟨ab,ac,_⟩ _ F;simp only at F|-;refine⟨λp=>B6b (Nat.gcd (nv c) (nv d)) p.1 p.2.1,λp=>nv p.1+nv p.2.1,F,?_⟩;rintro⟨s,h,_⟩ ⟨a1,a2,_⟩ a;have ae:A7 s:=A3 a1.2;have af:A7 h:=A3 a2.2;change Wf at s h;simp only at a|-;have ag:=a.len;have Z:h.length<=s.length:=by rw[a.ea,a.eb];exact J7 a.le
 refine⟨λj=>?_,λj=>?_⟩
 . have j:=qA j;have G:0<nv h:=by
    rcases vR (nv h)with f|f
    . have:=a.eb;rw[f,Q3]at this;rw[this]at j;exact absurd j (by simp)
    . exact f
   have T:nv s≠0:=by have:=a.le;omega
   refine⟨λu=>?_,λu=>?_⟩
   . have u:=qA u;refine⟨ω,?_⟩;rintro⟨x,_⟩ _ M;refine⟨ω,?_⟩;rintro⟨O,_⟩ _ N;simp only at M N|-;refine⟨λp=>0<=p.1/\0<=p.2.1/\Nat.gcd p.1.toNat p.2.1.toNat=Nat.gcd (nv c) (nv d),λp=>p.2.1.toNat,⟨by show(0:Int)<=x;omega,by show(0:Int)<=O;omega,?_⟩,?_⟩
     . show Nat.gcd x.toNat O.toNat= _;rw[M,N,qJ,qJ];exact a.g
     rintro⟨(X:Int),(Y:Int),_⟩ _ ⟨E,P,z⟩;simp only at E P z|-;refine⟨λi=>?_,λi=>?_⟩
     . have i:=qA i;obtain⟨Q,R⟩:=B8h E (ω:0<Y);exact⟨i,⟨P,zT _ E,by rw[Q];exact z⟩,R⟩
     . have i:Y=0:=g3l (qB i);refine⟨trivial,?_⟩;rintro⟨q,_⟩ _ b;simp only at b|-;rw[i]at z;rw[b, <-z];exact sA nc (g1s _).symm
   . have u:=qB u;refine⟨⟨ω,ω,by rw[a.ea];exact jG T,a.le,Z⟩,?_⟩;rintro⟨⟨(a5:Int),(a6:Int),(a7:Int),(a8:Int),(ev:Bool)⟩,_⟩ _ H;simp only at H|-;refine⟨λy=>?_,λy=>?_⟩
     . refine⟨ω,?_⟩;rintro⟨q,m,am,_⟩ _ I;simp only at I|-;obtain⟨_,a0,_⟩:=I.2 ω;exact a.step (B3g a.le G) a.eb a0
     . have y:=qB y;obtain⟨a9,aa⟩:=B3r G H y;refine⟨λB=>?_,λB=>?_⟩
       . obtain⟨c1,A,D⟩:=a9 B;refine⟨⟨ω,ω,c1⟩,?_⟩;rintro⟨p,_⟩ _ k;refine⟨⟨ω,ω,A⟩,?_⟩;rintro⟨q,_⟩ _ b;simp only at k b|-;exact a.step D k b
       . obtain⟨c1,A,D⟩:=aa B;refine⟨⟨ω,ω,c1⟩,?_⟩;rintro⟨p,_⟩ _ k;refine⟨⟨ω,ω,A⟩,?_⟩;rintro⟨q,_⟩ _ b;simp only at k b|-;exact a.step D k b
 . have j:=qB j;refine⟨by show s.length<=35184372088832;omega,?_⟩;rintro⟨q,_⟩ _ b;simp only at b|-;have W:nv h=0:=by rw[qT (l:=h) ω];rfl
   have:=a.g;rw[W,g1s]at this;rw[b,this]
def BU:sx Am Qd:=λx a _=>by
 obtain⟨(b:Bool),(l:Wf),_⟩:=x;simp only[Qd,I5];cases l<;>simp
def Yz:sx Y8 Oo:=λx d _=>by
 obtain⟨(v:Int),_⟩:=x;have c:i64.min<=v/\v<=i64.max:=d.1;rw[Vi,EG]at c;simp only[Oo,iB,Q4,V7];refine⟨λh=>⟨trivial,?_⟩,λh=>⟨trivial,?_⟩⟩
 . rintro⟨r,_⟩ _ a;refine⟨trivial,?_⟩;rintro⟨s,_⟩ _ b;simp only at a b|-;have h:=qA h;have e:(u64.wrap (-u64.wrap v)).toNat=v.natAbs:=by rw[Dk,Dk];omega
   rw[e]at a;subst b a;unfold ic;rw[rE h,g0t,rE (by rw[g4k,AF];omega)]
 . rintro⟨r,_⟩ _ a;refine⟨trivial,?_⟩;rintro⟨s,_⟩ _ b;simp only at a b|-;have h:=qB h;have e:(u64.wrap v).toNat=v.natAbs:=by rw[Dk];omega
   rw[e]at a;subst b a;unfold ic;rw[rC h,g1m]
def JS:sx Dz Xl:=λx f _=>by
 obtain⟨⟨(d:Bool),(l:Wf)⟩,_⟩:=x;simp only[Xl,iB,Fg];refine⟨trivial,?_⟩;rintro⟨r,_⟩ _ a;simp only at a|-;rw[nR]at a;refine⟨λh=>?_,λh=>⟨λc=>?_,λc=>?_⟩⟩
 . have h:=qA h;have b:nv l=0:=aQ.1 (a▸h);unfold iv;simp only[b];split<;>rfl
 . have h:=qB h;have b:nv l≠0:=λe=>h (by rw[a,e];rfl)
   unfold iv;simp only[c,wN];rw[Int.sign_neg,uZ ω]
 . have h:=qB h;have b:nv l≠0:=λe=>h (by rw[a,e];rfl)
   unfold iv;simp only[c];exact(uZ (by simp;omega)).symm
def cD {neg:Bool} {m:Nat} {v:Int} (h:v=if neg=true then -(m:Int)else(m:Int)):(neg&&decide (nc m≠ []),nc m)=ic v:=by
 have e:ic (iv (neg,nc m))=(neg&&decide (m≠0),nc m):=B8m;have a:iv (neg,nc m)=v:=by rw[h];unfold iv;simp only[F7]
 rw[a]at e;rw[e];have:decide (nc m≠ [])=decide (m≠0):=xJ.2 (g5q AF);rw[this]
def JR:sx Dy Xk:=λx f d=>by
 obtain⟨⟨(c:Bool),(l:Wf)⟩,_⟩:=x;simp only[Xk,Q4,V7];refine⟨d,?_⟩;rintro⟨r,_⟩ _ a;refine⟨trivial,?_⟩;rintro⟨z,_⟩ _ b;simp only at a b|-;subst a;rw[b];exact cD rfl
def NM:sx Fo BQ:=λx s o=>by
 obtain⟨⟨(b:Bool),(l:Wf)⟩,⟨(g:Bool),(k:Wf)⟩,_⟩:=x;obtain⟨j,i⟩:L3 l/\L3 k:=o;simp only[BQ,iB,Q4,V7];refine⟨λh=>?_,λh=>?_⟩
 . refine⟨⟨j,i⟩,?_⟩;rintro⟨r,_⟩ _ c;refine⟨trivial,?_⟩;rintro⟨z,_⟩ _ a;simp only at c a|-;have h:b=g:=by simpa using h
   subst c h;rw[a];refine cD ?_;unfold iv;cases b<;>simp<;>omega
 . have h:g= !b:=by cases b<;>cases g<;>simp_all
   subst h;refine⟨⟨j,i⟩,?_⟩;rintro⟨r,t,_⟩ _ c;simp only at c|-;refine⟨λf=>⟨trivial,?_⟩,λf=>⟨⟨i,j⟩,?_⟩⟩
   . rintro⟨z,_⟩ _ a;simp only at a|-;rcases sD (nv l) (nv k)with d|d
     . rw[(c.1 d).2]at f;exact absurd f δ
     . rw[(c.2 d).1]at a;rw[a];refine cD ?_;unfold iv;cases b<;>simp<;>omega
   . rintro⟨v,u,_⟩ _ n;refine⟨trivial,?_⟩;rintro⟨z,_⟩ _ a;simp only at n a|-;rcases sD (nv l) (nv k)with d|d
     . rw[(n.2 ω).1]at a;rw[a];refine cD ?_;unfold iv;cases b<;>simp<;>omega
     . rw[(c.2 d).2]at f;exact absurd f δ
def NN:sx Fp BR:=λx i h=>by
 obtain⟨⟨(b:Bool),(l:Wf)⟩,⟨(c:Bool),(k:Wf)⟩,_⟩:=x;obtain⟨g,f⟩:L3 l/\L3 k:=h;simp only[BR,Q4,V7];refine⟨⟨g,f⟩,?_⟩;rintro⟨r,_⟩ _ a;refine⟨trivial,?_⟩;rintro⟨z,_⟩ _ d;simp only at a d|-;subst a;rw[d];refine cD ?_;unfold iv;cases b<;>cases c<;>simp<;>grind
def A0a:An:= {loop:= [(2,⟨[0],[],[(3,false,vI)],[],[]⟩)]}
def kY:An:= {loop:= [(4,⟨[0,1],[],[(5,false,vI)],[],[]⟩)],plan:= [(6,[3,7],[],true, .done)]}
def LD:An:= {}
def A5d:An:= {join:= [(8,⟨[0,1,5,7],[0],[(6,false,vU)],[],[]⟩),(10,⟨[0,1,5,7],[0],[(6,false,vU)],[],[]⟩)],loop:= [(4,⟨[0,1,5],[],[(6,false,vU),(7,false,vI)],[],[(0, .row qh 131)]⟩)]}
def A5g:An:= {join:= [(12,⟨[0,1,6,8],[0],[(9,false,vU)],[],[]⟩),(17,⟨[0,1,6,8,9],[0],[(7,false,vU),(10,false,vU)],[],[]⟩)],loop:= [(7,⟨[0,1,6],[],[(7,false,vU),(8,false,vI)],[],[(0, .row qh 131)]⟩)]}
def YF:An:= {loop:= [(7,⟨[0,1],[],[(5,false,vI)],[],[]⟩)],plan:= [(9,[3,7],[],true, .done),(11,[3,7],[],true, .done)]}
def A5f:An:= {loop:= [(7,⟨[0,1,5,6],[],[(7,false,vU),(8,false,vI)],[],[(0, .row qh 131)]⟩),(3,⟨[0,1,5],[],[(6,false,vI)],[],[(0, .row qh 131)]⟩)],plan:= [(9,[6,11,16],[],true, .done)]}
def eX:An:= {loop:= [(6,⟨[0],[],[(4,false,vU),(5,false,vI)],[],[]⟩)]}
def UC(x:Ua):Prop:=let f:=(1:Int);let c:=(x.1.length:Int);let a:=(0:Int);let g:=a.toNat;∃(I:C8->Prop),∃(b: _->Nat),I (c,())/\∀(p:C8),let e:=p.1.toNat;let d:=(i64.wrap (p.1-f),());let h:=(decide (gx a x.1 (i64.wrap (p.1-f))=a));(Ty.int i64).wf p.1/\True->I p->(decide (a<p.1)=true->a<=i64.wrap (p.1-f)/\i64.wrap (p.1-f)<c)/\(iB (G9 (decide (a<p.1)) h false) (I d/\b d<b p) ((a<=a/\a<=p.1/\p.1<=c)/\(((0:Nat)+(List.drop g (List.take e x.1)).length)*(4:Nat)<=(140737488355328:Nat)/\(0:Nat)+(List.drop g (List.take e x.1)).length<=9223372036854775807)/\List.drop g (List.take e x.1)=nc (nv x.1)))
def NY(x:Hl):Prop:=let f:Prop:=(x.1=x.2.1);let e:=(0:Int);let b:=(x.2.1.length:Int);let a:=(x.1.length:Int);(iB (decide (a≠b)) (false=decide f) (∃(I:C8->Prop),∃(c: _->Nat),I (e,())/\∀(p:C8),let d:=(i64.wrap (p.1+1),());let g:Prop:=(gx e x.1 p.1≠gx e x.2.1 p.1);(Ty.int i64).wf p.1/\True->I p->(iB (decide (p.1<a)) ((e<=p.1/\p.1<a)/\(e<=p.1/\p.1<b)/\(iB (decide g) (false=decide f) (I d/\c d<c p))) (true=decide f))))
def Ql(x:C8):Prop:=let a:=((32:Int).toNat);(0:(Ty.int u64).den)<=(32:Int)/\Im [u32.wrap x.1,u32.wrap (Int.fdiv x.1 ((2:Int)^Min.min a u64.bits))]/\Q4 λr=>r.1=nc (nv [u32.wrap x.1,u32.wrap (Int.fdiv x.1 ((2:Int)^Min.min a u64.bits))])->r.1=nc x.1.toNat
def cV(x:Hl):Prop:=let f:=(1:Int);let e:=(0:Int);let b:=(x.1.length:Int);let a:=(x.2.1.length:Int);(e<=i64.wrap (Max.max b a+f)/\i64.wrap (Max.max b a+f)<=i64.wrap (Max.max b a+f)/\(↑(4:Nat):Int)*i64.wrap (Max.max b a+f)<=(281474976710656:Int)/\i64.wrap (Max.max b a+f)<=(9223372036854775807:Int))/\∃(I:Tz->Prop),∃(i: _->Nat),I (e,e,List.replicate (i64.wrap (Max.max b a+f)).toNat e,())/\∀(p:Tz),let d:=(p.2.2.1.length:Int);(Ty.int u64).wf p.1/\(Ty.int i64).wf p.2.1/\Ir p.2.2.1/\True->I p->(iB (decide (p.2.1<d)) (∃(J:C8->Prop),((iB (decide (p.2.1<b)) ((e<=p.2.1/\p.2.1<b)/\J (u64.wrap (p.1+u64.wrap (gx e x.1 p.2.1)),())) (J (p.1,()))))/\∀(g:C8),(Ty.int u64).wf g.1/\True->J g->∃(J:C8->Prop),((iB (decide (p.2.1<a)) ((e<=p.2.1/\p.2.1<a)/\J (u64.wrap (g.1+u64.wrap (gx e x.2.1 p.2.1)),())) (J g)))/\∀(h:C8),let c:=(Int.fdiv h.1 ((2:Int)^Min.min ((32:Int).toNat) u64.bits),i64.wrap (p.2.1+f),List.set p.2.2.1 p.2.1.toNat (u32.wrap h.1),());(Ty.int u64).wf h.1/\True->J h->(e<=p.2.1/\p.2.1<d)/\(0:(Ty.int u64).den)<=(32:Int)/\I c/\i c<i p) (Im p.2.2.1/\Q4 λr=>r.1=nc (nv p.2.2.1)->r.1=nc (nv x.1+nv x.2.1)))
def cZ(x:Hl):Prop:=let f:=(nv x.1-nv x.2.1);let c:=(0:Int);(L3 x.1/\L3 x.2.1)/\Fg λr=>r.1=Dt (nv x.1) (nv x.2.1)->(iB (decide (r.1<c)) ((nv x.1<nv x.2.1->Bh Int= []/\false=false)/\(nv x.2.1<=nv x.1->Bh Int=nc f/\false=true)) (Im x.1/\Q4 λr=>let a:=(r.1.length:Int);r.1=nc (nv x.1)->Im x.2.1/\Q4 λj=>let e:=(j.1.length:Int);j.1=nc (nv x.2.1)->(c<=a/\a<=a/\(↑(4:Nat):Int)*a<=(281474976710656:Int)/\a<=(9223372036854775807:Int))/\∃(I:Tz->Prop),∃(g: _->Nat),I (c,c,List.replicate a.toNat c,())/\∀(p:Tz),let d:=(gx c r.1 p.2.1);(Ty.int u64).wf p.1/\(Ty.int i64).wf p.2.1/\Ir p.2.2.1/\True->I p->(iB (decide (p.2.1<a)) (∃(J:C8->Prop),((iB (decide (p.2.1<e)) ((c<=p.2.1/\p.2.1<e)/\J (u64.wrap (p.1+u64.wrap (gx c j.1 p.2.1)),())) (J (p.1,()))))/\∀(i:C8),let k:Prop:=(u64.wrap d<i.1);(Ty.int u64).wf i.1/\True->J i->(c<=p.2.1/\p.2.1<a)/\∃(J:En->Prop),((iB (decide k) (J ((1:Int),u64.wrap (u64.wrap d+(4294967296:Int)),())) (J (c,u64.wrap d,()))))/\∀(h:En),let b:=(h.1,i64.wrap (p.2.1+1),List.set p.2.2.1 p.2.1.toNat (u32.wrap (u64.wrap (h.2.1-i.1))),());(Ty.int u64).wf h.1/\(Ty.int u64).wf h.2.1/\True->J h->(c<=p.2.1/\p.2.1<(p.2.2.1.length:Int))/\I b/\g b<g p) (Im p.2.2.1/\Q4 λr=>r.1=nc (nv p.2.2.1)->(nv x.1<nv x.2.1->r.1= []/\true=false)/\(nv x.2.1<=nv x.1->r.1=nc f/\true=true)))))
def CN(x:Hl):Prop:=let i:=(1:Int);let e:=(nv x.1);let d:=(nv x.2.1);let c:=(0:Int);Im x.1/\Q4 λr=>let a:=(r.1.length:Int);r.1=nc e->Im x.2.1/\Q4 λj=>let b:=(j.1.length:Int);j.1=nc d->(iB (decide (a≠b)) ((iB (decide (a<b)) ((-1:Int)=Dt e d) (i=Dt e d))) (∃(I:C8->Prop),∃(g: _->Nat),I (i64.wrap (a-i),())/\∀(p:C8),let k:Prop:=(gx c j.1 p.1<gx c r.1 p.1);let h:Prop:=(gx c r.1 p.1<gx c j.1 p.1);let f:=(i64.wrap (p.1-i),());(Ty.int i64).wf p.1/\True->I p->(iB (decide (c<=p.1)) ((c<=p.1/\p.1<a)/\(c<=p.1/\p.1<b)/\(iB (decide h) ((-1:Int)=Dt e d) ((c<=p.1/\p.1<a)/\(c<=p.1/\p.1<b)/\(iB (decide k) (i=Dt e d) (I f/\g f<g p))))) (c=Dt e d))))
def cY(x:Hl):Prop:=let i:=(0:Int);let g:=(x.1.length:Int);let e:=(x.2.1.length:Int);(i<=i64.wrap (g+e)/\i64.wrap (g+e)<=i64.wrap (g+e)/\(↑(4:Nat):Int)*i64.wrap (g+e)<=(281474976710656:Int)/\i64.wrap (g+e)<=(9223372036854775807:Int))/\∃(I:oZ->Prop),∃(n: _->Nat),I (i,List.replicate (i64.wrap (g+e)).toNat i,())/\∀(p:oZ),let c:Prop:=(p.1<g);(Ty.int i64).wf p.1/\Ir p.2.1/\True->I p->(iB (decide c) (∃(I_1:Tz->Prop),∃(g: _->Nat),I_1 (i,i,p.2.1,())/\∀(l:Tz),let k:=(l.2.2.1.length:Int);let j:=(i64.wrap (p.1+l.2.1));let h:=(i64.wrap (p.1+1),List.set l.2.2.1 (i64.wrap (p.1+e)).toNat (u32.wrap l.1),());let d:=(u64.wrap (l.1+u64.wrap (u64.wrap (List.getD l.2.2.1 j.toNat i)+u64.wrap (u64.wrap (gx i x.1 p.1)*u64.wrap (gx i x.2.1 l.2.1)))));let f:=(d.fdiv ((2:Int)^Min.min ((32:Int).toNat) u64.bits),i64.wrap (l.2.1+1),List.set l.2.2.1 j.toNat (u32.wrap d),());let b:Prop:=(l.2.1<e);let a:Prop:=(i<=i64.wrap (p.1+l.2.1)/\i64.wrap (p.1+l.2.1)<k);(Ty.int u64).wf l.1/\(Ty.int i64).wf l.2.1/\Ir l.2.2.1/\True->I_1 l->(iB (decide b) (a/\(i<=p.1/\c)/\(i<=l.2.1/\b)/\a/\(0:(Ty.int u64).den)<=(32:Int)/\I_1 f/\g f<g l) ((i<=i64.wrap (p.1+e)/\i64.wrap (p.1+e)<k)/\I h/\n h<n p))) (Im p.2.1/\Q4 λr=>r.1=nc (nv p.2.1)->r.1=nc (nv x.1*nv x.2.1)))
def HM(x:Ua):Prop:=let d:=(0:Int);let c:=(18446744073709551616:Nat);Im x.1/\Q4 λr=>let b:=(r.1.length:Int);r.1=nc (nv x.1)->(iB (decide ((2:Int)<b)) ((nv x.1<c->d=(↑(nv x.1):Int)/\false=true)/\(c<=nv x.1->false=false)) (∃(I:En->Prop),∃(f: _->Nat),I (d,i64.wrap (b-(1:Int)),())/\∀(p:En),let a:=(u64.wrap (↑(BitVec.ofInt u64.bits (u64.wrap (p.1*2^Min.min ((32:Int).toNat) u64.bits)) |||BitVec.ofInt u64.bits (u64.wrap (gx d r.1 p.2.1))).toNat:Int),i64.wrap (p.2.1-1),());(Ty.int u64).wf p.1/\(Ty.int i64).wf p.2.1/\True->I p->(iB (decide (d<=p.2.1)) ((0:(Ty.int u64).den)<=(32:Int)/\(d<=p.2.1/\p.2.1<b)/\I a/\f a<f p) ((nv x.1<c->p.1=(↑(nv x.1):Int)/\true=true)/\(c<=nv x.1->true=false)))))
def dA:sx Nt UC:=λx s r=>by
 obtain⟨l,_⟩:=x;have u:l.length<=35184372088832:=r;have k:A7 l:=A3 s.1.2;change Wf at l;simp only[UC,iB];refine⟨λp=>0<=p.1/\p.1<=(l.length:Int)/\∀i x,p.1.toNat<=i->l[i]? =some x->x=0,λp=>p.1.toNat,⟨qF _,qH _,λi x j a=>?_⟩,?_⟩
 . rw[rT (by simpa using j)]at a;cases a
 rintro⟨(n:Int),_⟩ _ ⟨c,f,b⟩;simp only at c f b|-;refine⟨λh=>?_,λh=>?_,λh=>?_⟩
 . have h:=qA h;rw[wv ω];exact⟨ω,ω⟩
 . rw[I5]at h;simp only[qC,rS]at h;obtain⟨t,g⟩:=h;rw[wv ω]at g|-;refine⟨⟨ω,ω,λi x j a=>?_⟩,ω⟩;by_cases o:i=(n-1).toNat
   . subst o;rw[L9 (d:=(0:Int)) ω ω]at a;cases a;exact g
   . exact b i x ω a
 . refine⟨⟨qH _,c,f⟩,?_⟩;have e:(l.take n.toNat).drop (Int.toNat 0)=l.take n.toNat:=rfl;rw[e];have v:(l.take n.toNat).length<=l.length:=by rw[qZ];omega
   refine⟨⟨ω,ω⟩,B0v k ω b ?_⟩;rw[I5]at h;simp only[wR,rG]at h;rcases h with h|h
   . exact .inl ω
   . by_cases w:n=0
     . exact .inl ω
     . rw[wv ω]at h;refine .inr ⟨gx 0 l (n-1),?_,h⟩;have:=L9 (d:=(0:Int)) (l:=l) (i:=n-1) ω ω;rw[<-this];congr 1;omega
def WE:sx Kf NY:=λx k _=>by
 obtain⟨a,f,_⟩:=x;have l:a.length<=9223372036854775807:=k.1.1;change Wf at a f;simp only[NY,iB];refine⟨λh=>?_,λh=>?_⟩
 . have h:=qA h;exact(rC λe=>h (by rw[e])).symm
 . have n:a.length=f.length:=by have:=qB h;omega
   refine⟨λp=>0<=p.1/\p.1<=(a.length:Int)/\a.take p.1.toNat=f.take p.1.toNat,λp=>((a.length:Int)-p.1).toNat,⟨qH _,qF _,by simp⟩,?_⟩;rintro⟨(i:Int),_⟩ _ ⟨c,j,g⟩;simp only at c j g|-;refine⟨λh=>?_,λh=>?_⟩
   . have h:=qA h;refine⟨⟨c,h⟩,⟨c,ω⟩,λb=>?_,λb=>?_⟩
     . have b:=qA b;exact(rC λe=>b (by rw[e])).symm
     . have b:gx 0 a i=gx 0 f i:=by simpa using b
       rw[wv ω];refine⟨⟨ω,ω,?_⟩,ω⟩;rw[(ω:(i+1).toNat=i.toNat+1),rU,rU,L9 (d:=(0:Int)) c h,L9 (d:=(0:Int)) c ω,g,b]
   . have h:=qB h;rw[E4 ω,E4 ω]at g;exact(rE g).symm
def CO:sx Ax Ql:=λx c _=>by
 obtain⟨(v:Int),_⟩:=x;have b:u64.min<=v/\v<=u64.max:=c.1;rw[pA,EY]at b;simp only[Ql,Q4];refine⟨δ,by simp,?_⟩;rintro⟨r,_⟩ _ a;simp only at a|-;rw[a];congr 1;rw[show Min.min (Int.toNat 32) u64.bits=32 from rfl];simp only[nv,Dj];rw[sL _ δ,show(2:Int)^32=4294967296 from rfl];omega
def C7f (v:Int) (_:0<=v):Int.fdiv v (2^Min.min (Int.toNat 32) u64.bits)=v/4294967296:=by
 rw[show Min.min (Int.toNat 32) u64.bits=32 from rfl,sL _ δ];rfl
def fT:sx Tb cV:=λx w F=>by
 obtain⟨a,b,_⟩:=x;have j:A7 a:=A3 w.1.2;have k:A7 b:=A3 w.2.1.2;change Wf at a b;obtain⟨N,O⟩:a.length<=17592186044416/\b.length<=17592186044416:=F;simp only[cV,iB,Q4];have y:i64.wrap (Max.max (a.length:Int) (b.length:Int)+1)=((max a.length b.length+1:Nat):Int):=by
  rw[wv ω];omega
 rw[y];have E:max a.length b.length+1<=17592186044417:=ω
 refine⟨⟨ω,qH _,by simp;omega,ω⟩,?_⟩;have t:a.length<=max a.length b.length+1:=ω
 have u:b.length<=max a.length b.length+1:=ω
 have s:=B4d j k;generalize max a.length b.length+1=n at E t u s;refine⟨λp=>0<=p.2.1/\p.2.1<=(n:Int)/\0<=p.1/\p.1<=1/\p.2.2.1.length=n/\nv (p.2.2.1.take p.2.1.toNat)+4294967296^p.2.1.toNat*p.1.toNat=nv (a.take p.2.1.toNat)+nv (b.take p.2.1.toNat),λp=>((n:Int)-p.2.1).toNat,⟨qH _,qF _,qH _,by show(0:Int)<=1;omega,by simp,by simp[nv]⟩,?_⟩;rintro⟨(g:Int),(i:Int),(out:Wf),_⟩ ⟨_,_,G,_⟩ ⟨d,z,A,B,l,f⟩;simp only at d z A B l f|-;have M:A7 out:=A3 G.2;have I:=N8 j i.toNat;have J:=N8 k i.toNat;refine⟨λh=>?_,λh=>?_⟩
 . have h:=qA h;refine⟨λp=>p.1=g+(dg a i.toNat:Int),⟨λc=>?_,λc=>?_⟩,?_⟩
   . have c:=qA c;refine⟨⟨d,c⟩,?_⟩;show u64.wrap _= _;rw[Gy j d c,Z9 (a:=(dg a i.toNat:Int)) ω ω,Z9 ω ω]
   . have c:=qB c;show g= _;rw[Qu ω];omega
   rintro⟨c1,_⟩ _ o;simp only at o|-;refine⟨λp=>p.1=c1+(dg b i.toNat:Int),⟨λc=>?_,λc=>?_⟩,?_⟩
   . have c:=qA c;refine⟨⟨d,c⟩,?_⟩;show u64.wrap _= _;rw[Gy k d c,Z9 (a:=(dg b i.toNat:Int)) ω ω,Z9 ω ω]
   . have c:=qB c;show c1= _;rw[Qu ω];omega
   rintro⟨H,_⟩ _ r;simp only at r|-;subst o r;refine⟨⟨d,h⟩,δ,?_⟩;rw[C7f _ ω,wv ω,Dj];refine⟨⟨ω,ω,ω,ω,by rw[qM];exact l,?_⟩,ω⟩;rw[(ω:(i+1).toNat=i.toNat+1),U4 ω,J3 a,J3 b,rY];exact jL f ω
 . have h:=qB h;refine⟨ω,?_⟩;rintro⟨Q,_⟩ _ v;simp only at v|-;rw[v];congr 1;rw[(ω:i.toNat=n),qW ω,qW t,qW u]at f;have D:g.toNat=0:=IF (P:=4294967296^n) (x:=nv a+nv b) (by rw[<-f];exact Nat.le_add_left ..) s;rw[D,wU,tS]at f;exact f
def NX:sx Fx CN:=λx B A=>by
 obtain⟨(a:Wf),(b:Wf),_⟩:=x;obtain⟨D,E⟩:a.length<=17592186044416/\b.length<=17592186044416:=A;simp only[CN,iB,Q4];refine⟨ω,?_⟩;rintro⟨r,_⟩ ⟨⟨y,_⟩,_⟩ o;simp only at o y|-;subst o;refine⟨ω,?_⟩;rintro⟨s,_⟩ ⟨⟨z,_⟩,_⟩ t;simp only at t z|-;subst t;have k:=K5 (nv a);have l:=K5 (nv b);refine⟨λj=>⟨λh=>?_,λh=>?_⟩,λj=>?_⟩
 . have h:=qA h;exact(Pr (EN ω)).symm
 . have h:=qB h;have j:=qA j;exact(XH (EN ω)).symm
 . have n:(nc (nv a)).length=(nc (nv b)).length:=by have:=qB j;omega
   have u:=F7 (nv a);have v:=F7 (nv b);generalize nc (nv a)=r at*;generalize nc (nv b)=s at*;rw[<-u, <-v];refine⟨λp=> -1<=p.1/\p.1<(r.length:Int)/\r.drop (p.1+1).toNat=s.drop (p.1+1).toNat,λp=>(p.1+1).toNat,?_,?_⟩
   . rw[wv ω];refine⟨ω,ω,?_⟩;rw[sI ω,sI ω]
   rintro⟨(i:Int),_⟩ _ ⟨w,d,c⟩;simp only at w d c|-;refine⟨λh=>?_,λh=>?_⟩
   . have h:=qA h;refine⟨⟨h,d⟩,⟨h,ω⟩,λg=>?_,λg=>⟨⟨h,d⟩,⟨h,ω⟩,λf=>?_,λf=>?_⟩⟩
     . exact(Pr (nS k l n h d c (qA g))).symm
     . exact(XH (nS l k n.symm h ω c.symm (qA f))).symm
     . have g:=qB g;have f:=qB f;rw[wv ω];refine⟨⟨ω,ω,?_⟩,ω⟩;rw[(ω:i-1+1=i),X6 h d,X6 h ω,c,(ω:gx 0 r i=gx 0 s i)]
   . have h:=qB h;rw[(ω:(i+1).toNat=0),uL,uL]at c;rw[c,jH]
def fW:sx Te cZ:=λx B N=>by
 obtain⟨(a:Wf),(c:Wf),_⟩:=x;have J:A7 a:=A3 B.1.2;have a2:A7 c:=A3 B.2.1.2;obtain⟨X,Y⟩:a.length<=17592186044416/\c.length<=17592186044416:=N;simp only[cZ,iB,Fg,Q4];refine⟨⟨X,Y⟩,?_⟩;rintro⟨Z,_⟩ _ t;simp only at t|-;subst t;refine⟨λh=>?_,λh=>?_⟩
 . have h:=qA h;refine⟨λ_=>⟨by trivial,by trivial⟩,λo=>?_⟩;unfold Dt at h;rw[qG ω]at h;split at h<;>omega
 . have h:=qB h;have o:nv c<=nv a:=by
    rcases sD (nv a) (nv c)with g|g
    . rw[Pr g]at h;omega
    . exact g
   refine⟨ω,?_⟩;rintro⟨r,_⟩ _ f;simp only at f|-;refine⟨ω,?_⟩;rintro⟨s,_⟩ _ j;simp only at j|-;have w:A7 r:=f▸K5 _;have z:A7 s:=j▸K5 _;have y:nv r=nv a:=by rw[f,F7]
   have A:nv s=nv c:=by rw[j,F7]
   have a4:r.length<=a.length:=by rw[f];exact D2 J
   have O:s.length<=r.length:=by rw[f,j];exact J7 o
   rw[<-y, <-A]at o|-;clear f j y A;refine⟨⟨ω,qH _,by simp;omega,ω⟩,?_⟩;refine⟨λp=>0<=p.2.1/\p.2.1<=(r.length:Int)/\0<=p.1/\p.1<=1/\p.2.2.1.length=r.length/\nv (r.take p.2.1.toNat)+4294967296^p.2.1.toNat*p.1.toNat=nv (p.2.2.1.take p.2.1.toNat)+nv (s.take p.2.1.toNat),λp=>((r.length:Int)-p.2.1).toNat,⟨qH _,qF _,qH _,by show(0:Int)<=1;omega,by simp,by simp[nv]⟩,?_⟩;rintro⟨(k:Int),(i:Int),(out:Wf),_⟩ ⟨_,_,Q,_⟩ ⟨d,g,F,G,n,l⟩;simp only at d g F G n l|-;have M:A7 out:=A3 Q.2;have a0:=N8 w i.toNat;have a1:=N8 z i.toNat;refine⟨λh=>?_,λh=>?_⟩
   . have h:=qA h;refine⟨λp=>p.1=k+(dg s i.toNat:Int),⟨λb=>?_,λb=>?_⟩,?_⟩
     . have b:=qA b;refine⟨⟨d,b⟩,?_⟩;show u64.wrap _= _;rw[Gy z d b,Z9 (a:=(dg s i.toNat:Int)) ω ω,Z9 ω ω]
     . have b:=qB b;show k= _;rw[Qu ω];omega
     rintro⟨(c1:Int),_⟩ _ I;simp only at I|-;refine⟨⟨d,h⟩,?_⟩;rw[Gy w d h,Z9 (a:=(dg r i.toNat:Int)) ω ω];refine⟨λp=>0<=p.1/\p.1<=1/\p.2.1=(dg r i.toNat:Int)+4294967296*p.1/\c1<=p.2.1/\p.2.1-c1<=4294967295,⟨λb=>?_,λb=>?_⟩,?_⟩
     . have b:=qA b;show(0:Int)<=1/\(1:Int)<=1/\u64.wrap _=(dg r i.toNat:Int)+4294967296*1/\c1<=u64.wrap _ /\u64.wrap _-c1<= _;rw[Z9 ω ω];omega
     . have b:=qB b;show(0:Int)<=0/\(0:Int)<=1/\(dg r i.toNat:Int)=(dg r i.toNat:Int)+4294967296*0/\c1<=(dg r i.toNat:Int)/\(dg r i.toNat:Int)-c1<= _;omega
     rintro⟨(E:Int),(D:Int),_⟩ _ ⟨R,T,U,V,W⟩;simp only at R T U V W|-;refine⟨⟨d,ω⟩,?_⟩;rw[wv ω,Z9 (a:=D-c1) ω ω,w32 ω ω];refine⟨⟨ω,ω,ω,ω,by rw[qM];exact n,?_⟩,ω⟩;rw[(ω:(i+1).toNat=i.toNat+1),U4 ω,J3 r,J3 s,rY];exact aR l ω
   . have h:=qB h;refine⟨ω,?_⟩;rintro⟨q,_⟩ _ v;simp only at v|-;refine⟨λa3=>ω,λ_=>⟨?_,by trivial⟩⟩;rw[v];congr 1;rw[(ω:i.toNat=r.length),qW (qV _),qW ω,qW O]at l;have u:nv out<4294967296^out.length:=Hr M;rw[n]at u;have H:k.toNat=0:=IF (P:=4294967296^r.length) (x:=nv out) ω u;rw[H,wU,tS]at l;omega
def fV:sx Td cY:=λx H Y=>by
 obtain⟨a,b,_⟩:=x;have B:A7 a:=A3 H.1.2;have D:A7 b:=A3 H.2.1.2;change Wf at a b;obtain⟨a4,a5⟩:a.length<=17592186044416/\b.length<=17592186044416:=Y;simp only[cY,iB,Q4];have O:i64.wrap ((a.length:Int)+(b.length:Int))=((a.length+b.length:Nat):Int):=by
  rw[wv ω];omega
 rw[O];refine⟨⟨ω,qH _,by simp;omega,ω⟩,?_⟩;refine⟨λp=>0<=p.1/\p.1<=(a.length:Int)/\p.2.1.length=a.length+b.length/\nv p.2.1=nv (a.take p.1.toNat)*nv b/\∀j,p.1.toNat+b.length<=j->dg p.2.1 j=0,λp=>((a.length:Int)-p.1).toNat,⟨qH _,qF _,by rw[rN,qJ],by simp[nv,Sn],λj _=>LO _ _⟩,?_⟩;rintro⟨(i:Int),(out:Wf),_⟩ ⟨_,Z,_⟩ ⟨s,R,z,t,A⟩;simp only at s R z t A|-;have a3:A7 out:=A3 Z.2;refine⟨λh=>?_,λh=>?_⟩
 . have h:=qA h;have I:=N8 B i.toNat;refine⟨λp=>0<=p.2.1/\p.2.1<=(b.length:Int)/\0<=p.1/\p.1<=4294967295/\p.2.2.1.length=a.length+b.length/\nv p.2.2.1+4294967296^(i.toNat+p.2.1.toNat)*p.1.toNat=nv out+4294967296^i.toNat*(dg a i.toNat*nv (b.take p.2.1.toNat))/\∀j,i.toNat+b.length<=j->dg p.2.2.1 j=0,λp=>((b.length:Int)-p.2.1).toNat,⟨qH _,qF _,qH _,by show(0:Int)<=4294967295;omega,z,by simp[nv],A⟩,?_⟩;rintro⟨(d:Int),(j:Int),(o:Wf),_⟩ ⟨_,_,a0,_⟩ ⟨n,Q,w,y,r,f,g⟩;simp only at n Q w y r f g|-;have E:A7 o:=A3 a0.2;refine⟨λc=>?_,λc=>?_⟩
   . have c:=qA c;have J:=N8 D j.toNat;rw[wv (a:=i+j) ω];refine⟨⟨ω,ω⟩,⟨s,h⟩,⟨n,c⟩,⟨ω,ω⟩,δ,?_⟩;rw[Gy B s h,Gy D n c,Ac E,(ω:(i+j).toNat=i.toNat+j.toNat)];have a1:=N8 E (i.toNat+j.toNat);have W:dg a i.toNat*dg b j.toNat<=4294967295*4294967295:=uM I J;have X:(dg a i.toNat:Int)*(dg b j.toNat:Int)=((dg a i.toNat*dg b j.toNat:Nat):Int):=(uY _ _).symm;rw[Z9 (a:=(dg a i.toNat:Int)) ω ω,Z9 (a:=(dg b j.toNat:Int)) ω ω,Z9 (a:=(dg o (i.toNat+j.toNat):Int)) ω ω,X];have a2:=f;generalize T:dg a i.toNat*dg b j.toNat=M at W;rw[Z9 (a:=(M:Int)) ω ω,Z9 (a:=(dg o (i.toNat+j.toNat):Int)+(M:Int)) ω ω,Z9 ω ω,C7f _ ω,wv ω,Dj];refine⟨⟨ω,ω,ω,ω,by rw[qM];exact r,?_,λq F=>?_⟩,ω⟩
     . have u:=Lc (l:=o) (k:=i.toNat+j.toNat) (v:=(d+((dg o (i.toNat+j.toNat):Int)+(M:Int)))%4294967296) ω;rw[(ω:(j+1).toNat=j.toNat+1),J3 b, <-vC i.toNat,rY,sY (dg a i.toNat)];have N:dg a i.toNat*(4294967296^j.toNat*dg b j.toNat)=4294967296^j.toNat*M:=by rw[<-T,g0m]
       rw[N,sY (4294967296^i.toNat), <-sN (4294967296^i.toNat) (4294967296^j.toNat), <-tY, <-vC (nv out), <-f];generalize 4294967296^(i.toNat+j.toNat)=P at*;have U:((d+((dg o (i.toNat+j.toNat):Int)+(M:Int)))%4294967296).toNat+4294967296*((d+((dg o (i.toNat+j.toNat):Int)+(M:Int)))/4294967296).toNat=d.toNat+dg o (i.toNat+j.toNat)+M:=ω
       have V:=sA (P* ·) U;simp only[sY, <-sN]at V;omega
     . rw[Zw ω,qG ω];exact g q F
   . have c:=qB c;rw[wv (a:=i+(b.length:Int)) ω,wv ω,w32 w y];refine⟨⟨ω,ω⟩,⟨ω,ω,by rw[qM];exact r,?_,λq F=>?_⟩,ω⟩
     . have u:=Lc (l:=o) (k:=(i+(b.length:Int)).toNat) (v:=d) ω;rw[g _ ω,wU,tS]at u;rw[u,(ω:(i+(b.length:Int)).toNat=i.toNat+b.length)];rw[(ω:j.toNat=b.length),qW (qV b.length)]at f;rw[f,(ω:(i+1).toNat=i.toNat+1),J3,uV,t,sN]
     . rw[Zw ω,qG ω];exact g q ω
 . have h:=qB h;refine⟨ω,?_⟩;rintro⟨a6,_⟩ _ G;simp only at G|-;rw[G,t,qW ω]
def SS:sx Ia HM:=λx A o=>by
 obtain⟨a,_⟩:=x;have t:A7 a:=A3 A.1.2;change Wf at a;have G:a.length<=35184372088832:=o;have H:=D2 t;simp only[HM,iB,Q4];refine⟨o,?_⟩;rintro⟨r,_⟩ _ d;simp only at d|-;have z:nv r=nv a:=by rw[d,F7]
 have g:A7 r:=d▸K5 _;refine⟨λh=>?_,λh=>?_⟩
 . have h:=qA h;have c:4294967296^2<=nv a:=B9v (by rw[<-d];omega);exact⟨λn=>ω,λ_=>by trivial⟩
 . have h:=qB h;have w:r.length<=2:=ω
   rw[wv (a:=(r.length:Int)-1) ω];refine⟨λp=> -1<=p.2.1/\p.2.1<(r.length:Int)/\p.1=(nv (r.drop (p.2.1+1).toNat):Int),λp=>(p.2.1+1).toNat,⟨by show(-1:Int)<=(r.length:Int)-1;omega,by show(r.length:Int)-1< _;omega,?_⟩,?_⟩
   . show(0:Int)= _;rw[sI (by show r.length<=((r.length:Int)-1+1).toNat;omega)];rfl
   rintro⟨(v:Int),(i:Int),_⟩ _ ⟨B,f,j⟩;simp only at B f j|-;refine⟨λc=>?_,λc=>?_⟩
   . have c:=qA c;have E:=Vm g c f;have F:nv (r.drop (i+1).toNat)<4294967296:=by
      have n:=Hr (l:=r.drop (i+1).toNat) λy hy=>g y (vQ hy)
      have s:4294967296^(r.drop (i+1).toNat).length<=4294967296^1:=rR δ (by rw[sU];omega);omega
     rw[wv (a:=i-1) ω,show Min.min (Int.toNat 32) u64.bits=32 from rfl,Z9 (a:=v*2^32) ω ω,Z9 (a:=gx 0 r i) ω ω];have u:=MR (v:=gx 0 r i) (b:=v) (k:=32) ω ω ω ω ω;rw[show u64.bits=64 from rfl,u,Z9 ω ω];refine⟨δ,⟨c,f⟩,⟨ω,ω,?_⟩,ω⟩;rw[(ω:i-1+1=i),X6 c f];show _=(((gx 0 r i).toNat+4294967296*nv (r.drop (i+1).toNat):Nat):Int);omega
   . have c:=qB c;rw[(ω:(i+1).toNat=0),uL,z]at j;refine⟨λ_=>⟨j,by trivial⟩,λn=>?_⟩;have s:=Hr g;have D:4294967296^r.length<=4294967296^2:=rR δ w;omega
def pZ:An:= {loop:= [(6,⟨[],[],[(3,false,vI),(4,false,[.val qh])],[],[]⟩)]}
def A5h:An:= {}
def eW:An:= {join:= [(15,⟨[0,1,4,11],[0],[(5,false,[.val qa])],[],[]⟩),(11,⟨[0,1,4,11],[],[(5,false,[.val qa])],[],[(0, .row qh 131)]⟩)],loop:= [(10,⟨[0,1,4],[],[(5,false,[.val qa]),(11,false,vI)],[],[(0, .row qh 131)]⟩)],plan:= [(7,[],[],true, .done)]}
def A5e:An:= {loop:= [(2,⟨[],[],[(0,false,[.val qa]),(1,false,[.val qa])],[],[]⟩)]}
def UB(x:Ua):Prop:=let e:=(↑(L2 (nv x.1)):Int);let d:=(1:Int);let c:=(0:Int);Im x.1/\Q4 λr=>let a:=(r.1.length:Int);r.1=nc (nv x.1)->(iB (decide (a=c)) (c=e) ((c<=i64.wrap (a-d)/\i64.wrap (a-d)<a)/\∃(I:En->Prop),∃(f: _->Nat),I (i64.wrap ((32:Int)*i64.wrap (a-d)),gx c r.1 (i64.wrap (a-d)),())/\∀(p:En),let b:=(i64.wrap (p.1+d),Int.fdiv p.2.1 ((2:Int)^Min.min d.toNat u32.bits),());(Ty.int i64).wf p.1/\(Ty.int u32).wf p.2.1/\True->I p->(iB (decide (c<p.2.1)) ((0:(Ty.int u64).den)<=d/\I b/\f b<f p) (p.1=e))))
def dC(x:fS):Prop:=let e:=(x.1.length:Int);let d:=(0:Int);let c:=(↑(nv x.1/(2:Nat)^x.2.1.toNat%(2:Nat)):Int);let a:=(32:Int);let b:Prop:=(e<=i64.wrap (Int.tdiv x.2.1 a));a≠d/\(iB (decide b) (d=c) (a≠d/\(d<=i64.wrap (Int.tdiv x.2.1 a)/\i64.wrap (Int.tdiv x.2.1 a)<e)/\a≠d/\(0:(Ty.int u64).den)<=u64.wrap (Int.tmod x.2.1 a)/\u32.wrap (↑(BitVec.ofInt u32.bits ((gx d x.1 (i64.wrap (Int.tdiv x.2.1 a))).fdiv ((2:Int)^Min.min (u64.wrap (Int.tmod x.2.1 a)).toNat u32.bits))&&&BitVec.ofInt u32.bits (1:Int)).toNat:Int)=c))
abbrev D3p:=Wf×Int×Wf×Unit
def HL(x:Hl):Prop:=let m:=(0:Nat);let k:=(1:Int);let j:=(nv x.1%nv x.2.1);let i:=(nv x.1/nv x.2.1);let h:=(32:Int);let f:=(18446744073709551616:Nat);let e:=(0:Int);let d:=(x.1.length:Int);let c:Prop:=(nv x.2.1=m->true=false);Im x.2.1/\∀(r:Ua),let b:Prop:=((r.1.length:Int)=e);Ir r.1/\True->r.1=nc (nv x.2.1)->(iB (decide b) ((nv x.2.1=m->false=false)/\(nv x.2.1≠m->Bh Int=nc i/\Bh Int=nc j/\false=true)) (Im x.1/\∀(q:B5j),KO q.1/\True/\True->(nv x.1<f->q.1=(↑(nv x.1):Int)/\q.2.1=true)/\(f<=nv x.1->q.2.1=false)->Im r.1/\∀(o:B5j),KO o.1/\True/\True->(nv r.1<f->o.1=(↑(nv r.1):Int)/\o.2.1=true)/\(f<=nv r.1->o.2.1=false)->(iB (G9 q.2.1 o.2.1 false) (o.1≠e/\o.1≠e/\True/\Q4 λr=>r.1=nc (u64.wrap (Int.tdiv q.1 o.1)).toNat->True/\Q4 λu=>u.1=nc (Int.tmod q.1 o.1).toNat->c/\(nv x.2.1≠m->r.1=nc i/\u.1=nc j/\true=true)) ((e<=d/\d<=d/\(↑(4:Nat):Int)*d<=(281474976710656:Int)/\d<=(9223372036854775807:Int))/\L3 x.1/\Fg λu=>u.1=(↑(L2 (nv x.1)):Int)->∃(I:D3p->Prop),∃(b: _->Nat),I ([],i64.wrap (u.1-k),List.replicate d.toNat e,())/\∀(p:D3p),let l:=(i64.wrap (Int.tdiv p.2.1 h));let a:Prop:=(e<=i64.wrap (Int.tdiv p.2.1 h)/\i64.wrap (Int.tdiv p.2.1 h)<(p.2.2.1.length:Int));(Ty.int u32).sl.wf p.1/\(Ty.int i64).wf p.2.1/\Ir p.2.2.1/\True->I p->(iB (decide (e<=p.2.1)) (∃(J:Hl->Prop),((L3 p.1/\L3 p.1)/\Q4 λs=>s.1=nc (nv p.1+nv p.1)->∃(J_1:Ua->Prop),(e<=p.2.1/\∀(r:C8),(u32.min<=r.1/\r.1<=u32.max)/\True->r.1=(↑(nv x.1/(2:Nat)^Int.toNat p.2.1%(2:Nat)):Int)->(iB (decide (r.1=k)) ((L3 s.1/\L3 [k])/\Q4 λr=>r.1=nc (nv s.1+nv [k])->J_1 r) (J_1 s)))/\∀(n:Ua),(Ty.int u32).sl.wf n.1/\True->J_1 n->(L3 n.1/\L3 r.1)/\∀(t:A8u),Ir t.1/\True/\True->(nv n.1<nv r.1->t.1= []/\t.2.1=false)/\(nv r.1<=nv n.1->t.1=nc (nv n.1-nv r.1)/\t.2.1=true)->(iB t.2.1 (h≠e/\a/\h≠e/\(0:(Ty.int u64).den)<=u64.wrap (Int.tmod p.2.1 h)/\a/\J (t.1,List.set p.2.2.1 l.toNat (u32.wrap (↑(BitVec.ofInt u32.bits (List.getD p.2.2.1 l.toNat e) |||BitVec.ofInt u32.bits (u32.wrap (k*(2:Int)^Min.min (u64.wrap (Int.tmod p.2.1 h)).toNat u32.bits))).toNat:Int)),())) (J (n.1,p.2.2.1,()))))/\∀(n:Hl),let g:=(n.1,i64.wrap (p.2.1-k),n.2.1,());(Ty.int u32).sl.wf n.1/\Ir n.2.1/\True->J n->I g/\b g<b p) (Im p.2.2.1/\Q4 λr=>r.1=nc (nv p.2.2.1)->Im p.1/\Q4 λs=>s.1=nc (nv p.1)->c/\(nv x.2.1≠m->r.1=nc i/\s.1=nc j/\true=true)))))))
def cX(x:Hl):Prop:=Im x.1/\Q4 λr=>r.1=nc (nv x.1)->Im x.2.1/\Q4 λc=>c.1=nc (nv x.2.1)->∃(I:Hl->Prop),∃(a: _->Nat),I (r.1,c)/\∀(p:Hl),let d:Prop:=((0:Int)<(p.2.1.length:Int));(Ty.int u32).sl.wf p.1/\(Ty.int u32).sl.wf p.2.1/\True->I p->(iB (decide d) ((Gl p.1/\Gl p.2.1)/\∀(r:C2f),let b:=(p.2.1,r.2.1,());Ir r.1/\Ir r.2.1/\True/\True->(nv p.2.1=0->r.2.2.1=false)/\(nv p.2.1≠0->r.1=nc (nv p.1/nv p.2.1)/\r.2.1=nc (nv p.1%nv p.2.1)/\r.2.2.1=true)->I b/\a b<a p) (p.1=nc ((nv x.1).gcd (nv x.2.1))))
def cW:sx Ns UB:=λx u s=>by
 obtain⟨a,_⟩:=x;have g:A7 a:=A3 u.1.2;change Wf at a;have D:a.length<=17592186044416:=s;have w:=D2 g;have y:=A9k g;simp only[UB,iB,Q4];refine⟨by show a.length<=35184372088832;omega,?_⟩;rintro⟨r,_⟩ _ b;simp only at b|-;have t:nv r=nv a:=by rw[b,F7]
 have i:A7 r:=b▸K5 _;refine⟨λh=>?_,λh=>?_⟩
 . have h:=qA h;have d:nv a=0:=by rw[<-t,qT (l:=r) ω];rfl
   rw[d];rfl
 . have h:=qB h;have B:r.length<=a.length:=by rw[b];exact w
   have d:nv a≠0:=λe=>h (by rw[b,e,Q3];rfl)
   have j:=B6t d;rw[<-b]at j;rw[wv (a:=(r.length:Int)-1) ω,wv (a:=32*((r.length:Int)-1)) ω,Gy i ω ω,(ω:((r.length:Int)-1).toNat=r.length-1)];have z:=N8 i (r.length-1);refine⟨⟨ω,ω⟩,λp=>0<=p.1/\0<=p.2.1/\p.1+(L2 p.2.1.toNat:Int)=(L2 (nv a):Int),λp=>p.2.1.toNat,⟨by show(0:Int)<=32*((r.length:Int)-1);omega,qF _,?_⟩,?_⟩
   . show 32*((r.length:Int)-1)+(L2 ((dg r (r.length-1):Nat):Int).toNat:Int)= _;rw[qJ,j];omega
   rintro⟨(n:Int),(v:Int),_⟩ _ ⟨k,o,f⟩;simp only at k o f|-;refine⟨λc=>?_,λc=>?_⟩
   . have c:=qA c;have A:=B2k (n:=v.toNat) ω;have e:Int.fdiv v (2^Min.min (Int.toNat 1) u32.bits)=v/2:=by
      show Int.fdiv v (2^1)= _;rw[sL _ δ];rfl
     rw[e,wv (a:=n+1) ω];refine⟨δ,⟨ω,ω,?_⟩,ω⟩;rw[(ω:(v/2).toNat=v.toNat/2)];omega
   . have c:=qB c;rw[(ω:v.toNat=0),DT]at f;omega
def fX:sx Tf dC:=λx f l=>by
 obtain⟨a,n,_⟩:=x;have b:A7 a:=A3 f.1.2;have d:=(show i64.min<=n/\n<=i64.max from f.2.1);rw[Vi,EG]at d;change Wf at a;change Int at n;have t: -9223372036854775808<=n/\n<=9223372036854775807:=d;have g:0<=n:=l;simp only[dC,iB];have i:i64.wrap (Int.tdiv n 32)=((n.toNat/32:Nat):Int):=by
  rw[yZ g,wv ω];omega
 have j:u64.wrap (Int.tmod n 32)=((n.toNat%32:Nat):Int):=by
  rw[uG g,Z9 ω ω];omega
 rw[i,j];have c:=C3i b n.toNat;refine⟨δ,λh=>?_,λh=>?_⟩
 . have h:=qA h;rw[Qu ω,g5a]at c;rw[<-c];rfl
 . have h:=qB h;have o:n.toNat%32<=31:=ω
   refine⟨δ,⟨ω,ω⟩,δ,qF _,?_⟩;rw[qJ,show Min.min (n.toNat%32) u32.bits=n.toNat%32 from by show Min.min (n.toNat%32) 32= _;omega];rw[Gy b ω ω,qJ, <-c];have r:=N8 b (n.toNat/32);have k:Int.fdiv (dg a (n.toNat/32):Int) (2^(n.toNat%32))=((dg a (n.toNat/32)/2^(n.toNat%32):Nat):Int):=by
    rw[show((2:Int)^(n.toNat%32))=((2^(n.toNat%32):Nat):Int)from by rw[xS];rfl,sL _ (qF _)];rfl
   have s:dg a (n.toNat/32)/2^(n.toNat%32)<=dg a (n.toNat/32):=xB _ _;rw[k];generalize dg a (n.toNat/32)/2^(n.toNat%32)=Z at*;rw[show u32.bits=32 from rfl,B2h (qF _) ω,w32 ω ω,qJ]
def SR:sx Hz HL:=λx aa ai=>by
 obtain⟨a,b,_⟩:=x;have af:A7 a:=A3 aa.1.2;have ag:A7 b:=A3 aa.2.1.2;change Wf at a b;obtain⟨bf,bg⟩:a.length<=8796093022208/\b.length<=8796093022208:=ai;have ar:=D2 ag;simp only[HL,iB,Fg,Q4];refine⟨by show b.length<=35184372088832;omega,?_⟩;rintro⟨d,_⟩ _ F;simp only at F|-;have R:nv d=nv b:=by rw[F,F7]
 have b8:d.length<=b.length:=by rw[F];exact ar
 refine⟨λh=>?_,λh=>?_⟩
 . have h:=qA h;have P:nv b=0:=by rw[<-R,qT (l:=d) ω];rfl
   exact⟨λ_=>by trivial,λc=>absurd P c⟩
 have h:=qB h;have v:nv b≠0:=λe=>h (by rw[F,e,Q3];rfl)
 refine⟨by show a.length<=35184372088832;omega,?_⟩;rintro⟨X,b1,_⟩ ⟨a8,_⟩ ⟨Y,Z⟩;refine⟨by show d.length<=35184372088832;omega,?_⟩;rintro⟨a0,sv,_⟩ _ ⟨H,I⟩;change Int at X a0;change Bool at b1 sv;simp only at Y Z H I a8|-;rw[R]at H I;refine⟨λB=>?_,λ_=>?_⟩
 . rw[I5,qC]at B;have E:nv a<18446744073709551616:=by
    rcases sD (nv a) 18446744073709551616 with c|c
    . exact c
    . rw[Z c]at B;exact absurd B.1 δ
   have J:nv b<18446744073709551616:=by
    rcases sD (nv b) 18446744073709551616 with c|c
    . exact c
    . rw[I c]at B;exact absurd B.2 δ
   have a7:=(Y E).1;have a9:=(H J).1;have N:Int.tdiv X a0=((nv a/nv b:Nat):Int):=by rw[a7,a9];rfl
   have O:Int.tmod X a0=((nv a%nv b:Nat):Int):=by rw[a7,a9];rfl
   have k:nv a/nv b<=nv a:=xB _ _;refine⟨ω,ω,trivial,?_⟩;rintro⟨q,_⟩ _ y;refine⟨trivial,?_⟩;rintro⟨m,_⟩ _ a4;simp only at y a4|-;refine⟨λP=>absurd P v,λ_=>⟨?_,?_,by trivial⟩⟩
   . rw[y,N];generalize nv a/nv b=Q at*;rw[Z9 ω ω];rfl
   . rw[a4,O];rfl
 . refine⟨⟨ω,qH _,ω,ω⟩,by show a.length<=17592186044416;omega,?_⟩;rintro⟨(n:Int),_⟩ _ T;simp only at T|-;have b5:=A9k af;have a2:=lT (nv a);rw[T,wv (a:=(L2 (nv a):Int)-1) ω];clear T Y Z H I a8;refine⟨λp=> -1<=p.2.1/\p.2.1<=(L2 (nv a):Int)-1/\p.1=nc (nv a/2^(p.2.1+1).toNat%nv b)/\nv p.2.2.1=nv a/2^(p.2.1+1).toNat/nv b*2^(p.2.1+1).toNat/\p.2.2.1.length=a.length,λp=>(p.2.1+1).toNat,⟨by show(-1:Int)<=(L2 (nv a):Int)-1;omega,qH _,?_,?_,?_⟩,?_⟩
   . show []= _;rw[(ω:(((L2 (nv a):Int)-1)+1).toNat=L2 (nv a)),uN a2,Nat.zero_mod,Q3]
   . show nv (List.replicate _ 0)= _;rw[Sn,(ω:(((L2 (nv a):Int)-1)+1).toNat=L2 (nv a)),uN a2,g5a,xX]
   . show(List.replicate _ 0).length= _;simp
   rintro⟨(r:Wf),(i:Int),(q:Wf),_⟩ ⟨_,_,an,_⟩ ⟨ap,aq,f,k,V⟩;have U:A7 q:=A3 an.2;simp only at ap aq f k V|-;refine⟨λj=>?_,λj=>?_⟩
   . have j:=qA j;obtain⟨b2,t,u⟩:=B6q (a:=nv a) (b:=nv b) (i:=i.toNat) v;rw[(ω:(i+1).toNat=i.toNat+1)]at f k;have a6:nv a/2^(i.toNat+1)%nv b<nv b:=wL _ (sX v);have b4:nv a/2^i.toNat%2<2:=wL _ δ;have G:nv r=nv a/2^(i.toNat+1)%nv b:=by rw[f,F7]
     rw[<-G]at t u a6;have ak:r.length<=8796093022208:=by
      have:=J7 (vX a6);rw[G, <-f]at this;omega
     have am:r=nc (nv r):=by rw[G];exact f
     clear f G;generalize b3:nv a/2^(i.toNat+1)/nv b=M at*;generalize b6:nv a/2^i.toNat%2=g at*;have N:i64.wrap (Int.tdiv i 32)=((i.toNat/32:Nat):Int):=by
      rw[yZ j,wv ω];omega
     have O:u64.wrap (Int.tmod i 32)=((i.toNat%32:Nat):Int):=by
      rw[uG j,Z9 ω ω];omega
     have a1:i.toNat%32<=31:=ω
     have ah:i.toNat/32<q.length:=ω
     rw[N,O,wv (a:=i-1) ω];refine⟨λp=>p.1=nc (nv a/2^i.toNat%nv b)/\nv p.2.1=nv a/2^i.toNat/nv b*2^i.toNat/\p.2.1.length=a.length,⟨⟨by show r.length<= _;omega,by show r.length<= _;omega⟩,?_⟩,?_⟩
     . rintro⟨W,_⟩ _ z;simp only at z|-;have bc:W.length<=8796093022209:=by
        have:=QR (nv r) (nv r);rw[z];rw[<-am]at this;omega
       refine⟨λp=>p.1=nc (2*nv r+g),⟨j,?_⟩,?_⟩
       . rintro⟨bi,_⟩ _ ao;simp only at ao|-;refine⟨λc=>?_,λc=>?_⟩
         . have c:=qA c;refine⟨⟨by show W.length<= _;omega,by show([1]:Wf).length<= _;decide⟩,?_⟩;rintro⟨D,_⟩ _ o;simp only at o|-;rw[o,z,F7,C9i];congr 1;omega
         . have c:=qB c;show W= _;rw[z];congr 1;omega
       rintro⟨D,_⟩ _ o;simp only at o|-;have aj:nv D=2*nv r+g:=by rw[o,F7]
       have be:D.length<=8796093022210:=by
        have e:2*nv r+g<=(nv r+nv r)+(nv r+nv r)\/nv r=0:=ω
        rw[o];rcases e with e|e
        . have E:=J7 e;have J:=QR (nv r+nv r) (nv r+nv r);rw[<-z]at J;omega
        . have E:=J7 (m:=2*nv r+g) (n:=1) ω;rw[Vp]at E;have:([1]:Wf).length=1:=rfl;omega
       refine⟨⟨by show D.length<= _;omega,by show d.length<= _;omega⟩,?_⟩;rintro⟨ay,(av:Bool),_⟩ _ A;simp only at A|-;rw[aj,R]at A;refine⟨λw=>?_,λw=>?_⟩
       . have a3:nv b<=2*nv r+g:=by
          rcases sD (2*nv r+g) (nv b)with c|c
          . rw[(A.1 c).2]at w;exact absurd w δ
          . exact c
         rw[qN a3]at t u;obtain⟨ae,az,b0⟩:=C5r (q:=q) U (M:=M) (i:=i.toNat) k ah;have b7:=N8 U (i.toNat/32);obtain⟨au,bh⟩:=C0h (d:=dg q (i.toNat/32)) (b:=ae) (s:=i.toNat%32) az ω a1;refine⟨δ,⟨ω,ω⟩,δ,qF _,⟨ω,ω⟩,?_,?_,?_⟩
         . show ay= _;rw[(A.2 a3).1,u]
         . show nv (q.set _ _)= _;rw[qJ,qJ,show Min.min (i.toNat%32) u32.bits=i.toNat%32 from by show Min.min (i.toNat%32) 32= _;omega];rw[Ac U,Int.one_mul,show((2:Int)^(i.toNat%32))=((2^(i.toNat%32):Nat):Int)from by rw[xS];rfl];have bb:2^(i.toNat%32)<=2^31:=rR δ a1;have ba:(0:Int)<=((2^(i.toNat%32):Nat):Int):=qF _;rw[w32 (a:=((2^(i.toNat%32):Nat):Int)) ω ω,show u32.bits=32 from rfl,au,w32 ω ω,b0,t]
         . show(q.set _ _).length= _;rw[qM];exact V
       . have b9:2*nv r+g<nv b:=by
          rcases sD (2*nv r+g) (nv b)with c|c
          . exact c
          . rw[(A.2 c).2]at w;exact absurd w δ
         rw[qG ω]at t u;refine⟨?_,?_,V⟩
         . show D= _;rw[o,u,g2t]
         . show nv q= _;rw[k,t,tS,rY];grind
     . rintro⟨ax,aw,_⟩ _ ⟨ab,ac,ad⟩;simp only at ab ac ad|-;refine⟨⟨ω,ω,?_,?_,ad⟩,ω⟩
       . rw[(ω:i-1+1=i)];exact ab
       . rw[(ω:i-1+1=i)];exact ac
   . have j:=qB j;rw[(ω:(i+1).toNat=0),g1j,g3t]at f k;rw[xG]at k;have ak:r.length<=8796093022208:=by
      have:=J7 (vX (wL (nv a) (sX v)));rw[<-f]at this;omega
     refine⟨by show q.length<= _;omega,?_⟩;rintro⟨aw,_⟩ _ y;refine⟨by show r.length<= _;omega,?_⟩;rintro⟨ax,_⟩ _ a5;simp only at y a5|-;refine⟨λh=>absurd h v,λ_=>⟨by rw[y,k],by rw[a5,f,F7],by trivial⟩⟩
def fU:sx Tc cX:=λx y E=>by
 obtain⟨a,b,_⟩:=x;have B:A7 a:=A3 y.1.2;have D:A7 b:=A3 y.2.1.2;change Wf at a b;obtain⟨G,H⟩:a.length<=8796093022208/\b.length<=8796093022208:=E;have I:=D2 B;have J:=D2 D;simp only[cX,iB,Q4];refine⟨by show a.length<=35184372088832;omega,?_⟩;rintro⟨r,_⟩ _ f;refine⟨by show b.length<=35184372088832;omega,?_⟩;rintro⟨s,_⟩ _ g;simp only at f g|-;refine⟨λp=>p.1=nc (nv p.1)/\p.2.1=nc (nv p.2.1)/\Nat.gcd (nv p.1) (nv p.2.1)=Nat.gcd (nv a) (nv b)/\p.1.length<=8796093022208/\p.2.1.length<=8796093022208,λp=>nv p.2.1,⟨by show r=nc (nv r);rw[f,F7],by show s=nc (nv s);rw[g,F7],by show Nat.gcd (nv r) (nv s)= _;rw[f,g,F7,F7],by show r.length<= _;rw[f];omega,by show s.length<= _;rw[g];omega⟩,?_⟩;rintro⟨(u:Wf),(v:Wf),_⟩ _ ⟨o,c,d,z,n⟩;simp only at o c d z n|-;refine⟨λh=>?_,λh=>?_⟩
 . have h:=qA h;have F:0<nv v:=by
    rcases vR (nv v)with i|i
    . rw[i,Q3]at c;rw[c]at h;exact absurd h (by simp)
    . exact i
   refine⟨⟨z,n⟩,?_⟩;rintro⟨q,m,M,_⟩ _ w;simp only at w|-;obtain⟨_,j,_⟩:=w.2 ω;have k:nv m=nv u%nv v:=by rw[j,F7]
   have t:=wL (nv u) F;refine⟨⟨c,by rw[k];exact j,?_,n,?_⟩,by rw[k];exact t⟩
   . rw[k, <-d,xD (nv u),xD (nv v)];exact(g3u (nv v) (nv u)).symm
   . have:=J7 (vX t);rw[<-j, <-c]at this;omega
 . have h:=qB h;have A:nv v=0:=by rw[qT (l:=v) ω];rfl
   rw[A,g1s]at d;rw[o,d]
def A0b:An:= {}
def A0c:An:= {}
def kZ:An:= {}
def YG:An:= {}
def A0d:An:= {}
def A5m:An:= {}
def A5i:An:= {}
def A5j:An:= {plan:= [(2,[1,3,5],[8],true, .done)]}
def A5n:An:= {plan:= [(1,[0,1],[4],true, .done)]}
def A5l:An:= {plan:= [(1,[1,3,6,8],[11],true, .done)]}
def A5k:An:= {}
def eY:An:= {join:= [(10,⟨[4,5],[],[],[(2,47,[.val .bool, .val qa]),(3,47,[.val .bool, .val qa])],[]⟩)],plan:= [(4,[1,3,8],[11,12],true, .done),(6,[0,1],[4],true, .done),(8,[0],[3],true, .done),(9,[0],[3],true, .done),(10,[0],[2,3],false, .done)]}
def UD(x:C6f):Prop:=Im x.2.1/\Q4 λr=>r.1=nc (nv x.2.1)->(G9 x.1 (decide ((0:Int)<(r.1.length:Int))) false,r.1)=ic (iv (x.1,x.2.1))
def UE(x:Yt):Prop:=Im x.1.2/\V7 λr=>r.1=ic (iv x.1)->r.1=ic (iv x.1)
def NZ(x:fO):Prop:=((x.1.1==x.2.1.1)=true->True)/\∀(r:W9),((x.1.1==x.2.1.1)=true->(True/\True)/\r.1=decide (x.1.2=x.2.1.2))->G9 (x.1.1==x.2.1.1) r.1 false=decide (x.1=x.2.1)
def CP(x:C8):Prop:=(iB (decide (x.1<0)) (True/\Q4 λr=>r.1=nc (u64.wrap (u64.wrap (i64.wrap (-i64.wrap (x.1+1)))+(1:Int))).toNat->Im r.1/\V7 λa=>a.1=ic (iv (true,r.1))->a.1=ic x.1) (True/\Q4 λr=>r.1=nc (u64.wrap x.1).toNat->Im r.1/\V7 λa=>a.1=ic (iv (false,r.1))->a.1=ic x.1))
def UG(x:Yt):Prop:=let b:=(iv x.1);Im x.1.2/\V7 λr=>let a:Prop:=((r.1.2.length:Int)=(0:Int));r.1=ic b->(iB r.1.1 ((-1:Int)=b.sign) ((iB (decide a) ((0:Int)=b.sign) ((1:Int)=b.sign))))
def dI(x:Yt):Prop:=Im x.1.2/\V7 λr=>r.1=ic (iv (!x.1.1,x.1.2))->r.1=ic (-iv x.1)
def dD(x:Yt):Prop:=Im x.1.2/\V7 λr=>r.1=ic (iv (false,x.1.2))->r.1=ic (↑(iv x.1).natAbs:Int)
def dE(x:fO):Prop:=let b:Prop:=(L3 x.1.2/\L3 x.2.1.2);let a:=(iv x.1+iv x.2.1);(iB ((x.1.1==x.2.1.1)) (b/\Q4 λr=>r.1=nc (nv x.1.2+nv x.2.1.2)->Im r.1/\V7 λc=>c.1=ic (iv (x.1.1,r.1))->c.1=ic a) (b/\∀(r:A8u),Ir r.1/\True/\True->(nv x.1.2<nv x.2.1.2->r.1= []/\r.2.1=false)/\(nv x.2.1.2<=nv x.1.2->r.1=nc (nv x.1.2-nv x.2.1.2)/\r.2.1=true)->(iB r.2.1 (Im r.1/\V7 λc=>c.1=ic (iv (x.1.1,r.1))->c.1=ic a) ((L3 x.2.1.2/\L3 x.1.2)/\∀(r:A8u),Ir r.1/\True/\True->(nv x.2.1.2<nv x.1.2->r.1= []/\r.2.1=false)/\(nv x.1.2<=nv x.2.1.2->r.1=nc (nv x.2.1.2-nv x.1.2)/\r.2.1=true)->Im r.1/\V7 λc=>c.1=ic (iv (x.2.1.1,r.1))->c.1=ic a))))
def dL(x:fO):Prop:=Im x.2.1.2/\V7 λr=>r.1=ic (-iv x.2.1)->(L3 x.1.2/\L3 r.1.2)/\V7 λa=>a.1=ic (iv x.1+iv r.1)->a.1=ic (iv x.1-iv x.2.1)
def dH(x:fO):Prop:=(L3 x.1.2/\L3 x.2.1.2)/\Q4 λr=>r.1=nc (nv x.1.2*nv x.2.1.2)->Im r.1/\V7 λa=>a.1=ic (iv (x.1.1 !=x.2.1.1,r.1))->a.1=ic (iv x.1*iv x.2.1)
def dF(x:fO):Prop:=(Gl x.1.2/\Gl x.2.1.2)/\Q4 λr=>r.1=nc ((nv x.1.2).gcd (nv x.2.1.2))->Im r.1/\V7 λa=>a.1=ic (iv (false,r.1))->a.1=ic (↑((nv x.1.2).gcd (nv x.2.1.2)):Int)
def HN(x:fO):Prop:=let c:=(iv x.1%iv x.2.1);let b:=(iv x.1/iv x.2.1);(Gl x.1.2/\Gl x.2.1.2)/\∀(r:C2f),Ir r.1/\Ir r.2.1/\True/\True->(nv x.2.1.2=0->r.2.2.1=false)/\(nv x.2.1.2≠0->r.1=nc (nv x.1.2/nv x.2.1.2)/\r.2.1=nc (nv x.1.2%nv x.2.1.2)/\r.2.2.1=true)->(iB ((!r.2.2.1)) (iv x.2.1≠0->(false,[])=ic b/\(false,[])=ic c/\false=true) (Im r.1/\V7 λd=>d.1=ic (iv (x.1.1 !=x.2.1.1,r.1))->Im r.2.1/\V7 λf=>f.1=ic (iv (x.1.1,r.2.1))->∃(J:C6e->Prop),((iB f.1.1 (Im x.2.1.2/\V7 λr=>r.1=ic (↑(iv x.2.1).natAbs:Int)->(L3 f.1.2/\L3 r.1.2)/\V7 λg=>g.1=ic (iv f.1+iv r.1)->(iB x.2.1.1 (True/\V7 λr=>r.1=ic (1:Int)->(L3 d.1.2/\L3 r.1.2)/\V7 λe=>e.1=ic (iv d.1+iv r.1)->J (e.1.1,e.1.2,g.1.1,g.1.2,())) (True/\V7 λr=>r.1=ic (1:Int)->(L3 d.1.2/\L3 r.1.2)/\V7 λe=>e.1=ic (iv d.1-iv r.1)->J (e.1.1,e.1.2,g.1.1,g.1.2,())))) (J (d.1.1,d.1.2,f.1.1,f.1.2,()))))/\∀(p:C6e),let a:Prop:=(iv x.2.1≠0->(p.1,p.2.1)=ic b/\(p.2.2.1,p.2.2.2.1)=ic c/\true=true);Ty.bool.wf p.1/\(Ty.int u32).sl.wf p.2.1/\Ty.bool.wf p.2.2.1/\(Ty.int u32).sl.wf p.2.2.2.1/\True->J p->a/\a))
def dG:sx Nu UD:=λx g d=>by
 obtain⟨(b:Bool),(l:Wf),_⟩:=x;have f:l.length<=35184372088832:=d;simp only[UD,Q4];refine⟨ω,?_⟩;rintro⟨r,_⟩ _ a;simp only at a|-;rw[D1l,a,I5];have e:decide ((0:Int)<((nc (nv l)).length:Int))=decide (nv l≠0):=by
  rw[xJ];constructor
  . intro h c;rw[c,Q3]at h;simp at h
  . intro h;have:(nc (nv l)).length≠0:=λh1=>h (AF.1 (qT h1))
    omega
 rw[e]
def dJ:sx Nv UE:=λx b a=>by
 simp only[UE,V7];exact⟨a,λr _ h=>h⟩
def WF:sx Kg NZ:=λx f d=>by
 obtain⟨⟨(a:Bool),(l:Wf)⟩,⟨(b:Bool),(m:Wf)⟩,_⟩:=x;simp only[NZ];refine⟨λ_=>trivial,?_⟩;rintro⟨r,_⟩ c;simp only at c|-;by_cases h:a=b
 . subst h;have:=(c (by simp)).2;rw[this];simp[G9]
 . have:(a==b)=false:=by simpa using h
   rw[this];simp[G9,h]
def OA:sx Fy CP:=λx f _=>by
 obtain⟨(v:Int),_⟩:=x;have d:i64.min<=v/\v<=i64.max:=f.1;rw[Vi,EG]at d;have b:∀n:Nat,n<=9223372036854775808->Im (nc n):=λn hn=>by
  have:(nc n).length<=2:=Ds ω;show _ <=35184372088832;omega
 simp only[CP,iB,Q4,V7];refine⟨λh=>⟨trivial,?_⟩,λh=>⟨trivial,?_⟩⟩
 . have h:=qA h;rintro⟨r,_⟩ _ c;simp only at c|-;have e:(u64.wrap (u64.wrap (i64.wrap (-i64.wrap (v+1)))+1)).toNat=v.natAbs:=by
    rw[wv (a:=v+1) ω,wv ω,Z9 (a:= -(v+1)) ω ω,Z9 ω ω];omega
   rw[e]at c;subst c;refine⟨b _ ω,?_⟩;rintro⟨s,_⟩ _ b;simp only at b|-;rw[b,ZZ,F7];congr 1;omega
 . have h:=qB h;rintro⟨r,_⟩ _ c;simp only at c|-;have e:(u64.wrap v).toNat=v.natAbs:=by rw[Dk];omega
   rw[e]at c;subst c;refine⟨b _ ω,?_⟩;rintro⟨s,_⟩ _ b;simp only at b|-;rw[b,Kz,F7];congr 1;omega
def dK:sx Nw UG:=λx f d=>by
 obtain⟨c,_⟩:=x;simp only[UG,iB,V7];refine⟨d,?_⟩;rintro⟨r,_⟩ _ b;simp only at b|-;subst b;generalize iv c=v;refine⟨λh=>?_,λh=>⟨λa=>?_,λa=>?_⟩⟩
 . have h:v<0:=qA h;exact(xL h).symm
 . have a:=qA a;have:nc v.natAbs= []:=qT (by show(ic v).2.length=0;omega);rw[AF]at this;rw[(ω:v=0)];rfl
 . have h:¬v<0:=qB h;have a:=qB a;have:v≠0:=λh0=>a (by rw[h0,mP];rfl)
   exact(uZ ω).symm
def gC:sx Tl dI:=λx d b=>by
 obtain⟨⟨c,l⟩,_⟩:=x;simp only[dI,V7];refine⟨b,?_⟩;rintro⟨r,_⟩ _ a;simp only at a|-;rw[a,B8w]
def fZ:sx Ti dE:=λx r w=>by
 obtain⟨⟨b,l⟩,⟨c,m⟩,_⟩:=x;have u:A7 l:=A3 r.1.2.2;have v:A7 m:=A3 r.2.1.2.2;change Bool at b c;change Wf at l m;obtain⟨G,H⟩:l.length<=17592186044416/\m.length<=17592186044416:=w;have i:L3 l:=ω
 have j:L3 m:=ω
 have B:=D2 u;have D:=D2 v;have E:=QR (nv l) (nv m);simp only[dE,iB,Q4,V7];refine⟨λh=>⟨⟨i,j⟩,?_⟩,λh=>⟨⟨i,j⟩,?_⟩⟩
 . have h:b=c:=by simpa using h
   subst h;rintro⟨z,_⟩ _ o;simp only at o|-;subst o;refine⟨ω,?_⟩;rintro⟨s,_⟩ _ a;simp only at a|-;rw[a];congr 1;cases b
   . simp only[Kz,F7];omega
   . simp only[ZZ,F7];omega
 . have h:b≠c:=by simpa using h
   rintro⟨z,(y:Bool),_⟩ _ ⟨k,f⟩;simp only at k f|-;refine⟨λd=>?_,λd=>⟨⟨j,i⟩,?_⟩⟩
   . have t:nv m<=nv l:=by
      rcases sD (nv l) (nv m)with g|g
      . rw[(k g).2]at d;cases d
      . exact g
     rw[(f t).1];have:=J7 (ω:nv l-nv m<=nv l);refine⟨ω,?_⟩;rintro⟨s,_⟩ _ a;simp only at a|-;rw[a];congr 1;cases b<;>cases c<;>simp only[ZZ,Kz,F7]<;>first|omega|exact absurd rfl h
   . have A:nv l<nv m:=by
      rcases sD (nv l) (nv m)with g|g
      . exact g
      . rw[(f g).2]at d;cases d
     rintro⟨I,F,_⟩ _ ⟨_,n⟩;simp only at n|-;rw[(n ω).1];have:=J7 (ω:nv m-nv l<=nv m);refine⟨ω,?_⟩;rintro⟨s,_⟩ _ a;simp only at a|-;rw[a];congr 1;cases b<;>cases c<;>simp only[ZZ,Kz,F7]<;>first|omega|exact absurd rfl h
def gB:sx Tk dH:=λx f i=>by
 obtain⟨⟨a,l⟩,⟨b,m⟩,_⟩:=x;have g:A7 l:=A3 f.1.2.2;have h:A7 m:=A3 f.2.1.2.2;change Bool at a b;change Wf at l m;obtain⟨o,r⟩:l.length<=17592186044416/\m.length<=17592186044416:=i;have j:=D2 g;have k:=D2 h;have n:=Qy (nv l) (nv m);simp only[dH,Q4,V7];refine⟨⟨ω,ω⟩,?_⟩;rintro⟨s,_⟩ _ c;simp only at c|-;subst c;refine⟨ω,?_⟩;rintro⟨t,_⟩ _ d;simp only at d|-;rw[d];congr 1;cases a<;>cases b<;>simp[ZZ,Kz,F7,uY,Int.neg_mul,Int.mul_neg]
def fY:sx Tg dD:=λx d b=>by
 obtain⟨⟨c,l⟩,_⟩:=x;simp only[dD,V7];refine⟨b,?_⟩;rintro⟨r,_⟩ _ a;simp only at a|-;rw[a,J5,Kz]
def gE:sx Tm dL:=λx h g=>by
 obtain⟨c,b,_⟩:=x;have f:A7 b.2:=A3 h.2.1.2.2;change Lu at c b;obtain⟨i,k⟩:c.2.length<=17592186044416/\b.2.length<=17592186044416:=g;have j:=D2 f;simp only[dL,V7];refine⟨by show b.2.length<=35184372088832;omega,?_⟩;rintro⟨r,_⟩ _ a;simp only at a|-;refine⟨⟨i,by show r.2.length<= _;rw[a,Af,xK,J5];omega⟩,?_⟩;rintro⟨s,_⟩ _ d;simp only at d|-;rw[d,a,K7, <-Int.sub_eq_add_neg]
def gA:sx Tj dF:=λx f j=>by
 obtain⟨a,b,_⟩:=x;have g:A7 a.2:=A3 f.1.2.2;have i:A7 b.2:=A3 f.2.1.2.2;change Lu at a b;obtain⟨k,l⟩:a.2.length<=8796093022208/\b.2.length<=8796093022208:=j;have o:=D2 g;have s:=D2 i;simp only[dF,Q4,V7];refine⟨⟨k,l⟩,?_⟩;rintro⟨r,_⟩ _ c;simp only at c|-;have n:r.length<=8796093022209:=by
  rw[c];rcases vR (nv a.2)with h|h
  . rw[h,Nat.gcd_zero_left];omega
  . have:=J7 (g2a h (g5i (nv a.2) (nv b.2)));omega
 refine⟨by show r.length<=35184372088832;omega,?_⟩;rintro⟨t,_⟩ _ d;simp only at d|-;rw[d,Kz,c,F7]
def SU:sx Ib HN:=λx w O=>by
 obtain⟨⟨sa,a⟩,⟨sb,b⟩,_⟩:=x;have I:A7 a:=A3 w.1.2.2;have J:A7 b:=A3 w.2.1.2.2;change Bool at sa sb;change Wf at a b;obtain⟨U,V⟩:a.length<=8796093022208/\b.length<=8796093022208:=O;have a1:=D2 I;have a2:=D2 J;simp only[HN,iB,V7];refine⟨⟨U,V⟩,?_⟩;rintro⟨q,m,(P:Bool),_⟩ _ ⟨F,t⟩;simp only at F t|-;refine⟨λh N=>?_,λh=>?_⟩
 . have i:nv b≠0:=λe=>N (by unfold iv;simp[e])
   rw[(t i).2.2]at h;exact absurd h δ
 have i:nv b≠0:=λe=>by rw[F e]at h;exact absurd h δ
 obtain⟨r,o,_⟩:=t i;have a0:q.length<=8796093022208:=by
  have:=J7 (xB (nv a) (nv b));rw[r];omega
 have Z:m.length<=8796093022208:=by
  have:=J7 (vX (wL (nv a) (sX i)));rw[o];omega
 have E:nv q=nv a/nv b:=by rw[r,F7]
 have D:nv m=nv a%nv b:=by rw[o,F7]
 obtain⟨c1,G⟩:=C8j (sa:=sa) (sb:=sb) (A:=nv a) (B:=nv b) i (a:=iv (sa,a)) (b:=iv (sb,b)) (q:=iv (sa !=sb,q)) (m:=iv (sa,m)) rfl rfl (by rw[<-E];rfl) (by rw[<-D];rfl);refine⟨by show q.length<=35184372088832;omega,?_⟩;rintro⟨Q,_⟩ _ g;refine⟨by show m.length<=35184372088832;omega,?_⟩;rintro⟨M,_⟩ _ f;simp only at g f|-;have Y:Q.2.length<=8796093022208:=by
  have:(nc (nv q)).length=q.length:=by rw[E, <-r]
  rw[g,Af,J5];show(nc (nv q)).length<= _;omega
 have X:M.2.length<=8796093022208:=by
  have:(nc (nv m)).length=m.length:=by rw[D, <-o]
  rw[f,Af,J5];show(nc (nv m)).length<= _;omega
 refine⟨λp=>(p.1,p.2.1)=ic (iv (sa,a)/iv (sb,b))/\(p.2.2.1,p.2.2.2.1)=ic (iv (sa,a)%iv (sb,b)),⟨λc=>?_,λc=>?_⟩,?_⟩
 . have c:iv (sa,m)<0:=by rw[f]at c;exact qA c
   obtain⟨k,l,H⟩:=c1 c;refine⟨by show b.length<=35184372088832;omega,?_⟩;rintro⟨B,_⟩ _ j;simp only at j|-;rw[J5]at j;have W:B.2.length<=8796093022208:=by
    rw[j,Af,uA];show(nc (nv b)).length<= _;omega
   refine⟨⟨by show M.2.length<= _;omega,by show B.2.length<= _;omega⟩,?_⟩;rintro⟨R,_⟩ _ v;simp only at v|-;have u:R=ic (iv (sa,a)%iv (sb,b)):=by rw[v,f,j,K7,K7,k]
   refine⟨λn=>⟨trivial,?_⟩,λn=>⟨trivial,?_⟩⟩
   . rintro⟨s,_⟩ _ d;simp only at d|-;refine⟨⟨by show Q.2.length<= _;omega,by show s.2.length<= _;rw[d,A6s];show 1<= _;decide⟩,?_⟩;rintro⟨T,_⟩ _ hT;simp only at hT|-;exact⟨by show T= _;rw[hT,g,d,K7,K7,l n],u⟩
   . rintro⟨s,_⟩ _ d;simp only at d|-;refine⟨⟨by show Q.2.length<= _;omega,by show s.2.length<= _;rw[d,A6s];show 1<= _;decide⟩,?_⟩;rintro⟨T,_⟩ _ hT;simp only at hT|-;exact⟨by show T= _;rw[hT,g,d,K7,K7,H n],u⟩
 . have c:¬iv (sa,m)<0:=by rw[f]at c;exact qB c
   obtain⟨k,l⟩:=G c;exact⟨by show Q= _;rw[g,l],by show M= _;rw[f,k]⟩
 . rintro⟨a3,a4,a5,a6,_⟩ _ ⟨y,z⟩;exact⟨λ_=>⟨y,z,by trivial⟩,λ_=>⟨y,z,by trivial⟩⟩
def dZ:sx Ob UM:=λx a _=>by
 simp only[UM];exact B1e.symm
def WG:sx Kh OB:=λx g f=>by
 obtain⟨⟨c,l⟩,⟨d,m⟩,_⟩:=x;simp only[OB,Lh];refine⟨trivial,?_⟩;rintro⟨r,_⟩ _ a;refine⟨λ_=>trivial,?_⟩;rintro⟨s,_⟩ b;simp only at a b|-;by_cases h:c=d
 . subst h;have a:r=true:=by rw[a];simp
   have:=(b a).2;rw[this,a];simp[G9]
 . have a:r=false:=by rw[a];simp[h]
   rw[a];simp[G9,h]
def GN:sx Cj Ug:=λx f c=>by
 obtain⟨d,_⟩:=x;simp only[Ug,Lh,I9];refine⟨c,?_⟩;rintro⟨r,_⟩ _ a;refine⟨trivial,?_⟩;rintro⟨s,_⟩ _ b;simp only at a b|-;rw[b,a]
def gK:sx Tr eF:=λx d b=>by
 obtain⟨c,_⟩:=x;simp only[eF,I9];refine⟨b,?_⟩;rintro⟨r,_⟩ _ a;simp only at a|-;rw[a];unfold rc ic;simp
def OC:sx Fz CQ:=λx f _=>by
 obtain⟨(v:Int),_⟩:=x;have d:i64.min<=v/\v<=i64.max:=f.1;rw[Vi,EG]at d;simp only[CQ,I9,V7];refine⟨trivial,?_⟩;rintro⟨r,_⟩ _ a;refine⟨trivial,?_⟩;rintro⟨s,_⟩ _ b;simp only at a b|-;subst a b;have g:(ic v).2.length<=2:=by rw[Af];exact Ds ω
 refine⟨⟨ω,by rw[A6s];show 1<= _;decide⟩,?_⟩;rintro⟨t,_⟩ _ c;simp only at c|-;rw[c,A0z (K7 1),K7,oH]
def dU:sx Jn UI:=λx f b=>by
 obtain⟨(q:B7),_⟩:=x;obtain⟨c,d⟩:q.1.2.length<=2199023255552/\q.2.length<=2199023255552:=b;simp only[UI,I9];refine⟨⟨by show q.1.2.length<= _;omega,by show q.2.length<= _;omega⟩,?_⟩;rintro⟨r,_⟩ _ a;simp only at a|-;rw[a,C5n]
def dX:sx Oa UL:=λx f g=>by
 obtain⟨q,_⟩:=x;have h:A7 q.1.2:=A3 f.1.1.2.2;have i:A7 q.2:=A3 f.1.2.2;change B7 at q;obtain⟨a,b⟩:q.1.2.length<=2199023255552/\q.2.length<=2199023255552:=g;obtain⟨j,k⟩:=Nl h i a b δ;simp only[UL,Fg,I9];refine⟨⟨a,b⟩,?_⟩;rintro⟨r,_⟩ _ c;simp only at c|-;have e:r.1=ic (rv q).num:=by rw[c];rfl
 refine⟨by show r.1.2.length<= _;rw[e];omega,?_⟩;rintro⟨s,_⟩ _ d;simp only at d|-;rw[d,e,K7]
def gI:sx Tq dS:=λx h j=>by
 obtain⟨q,_⟩:=x;have k:A7 q.1.2:=A3 h.1.1.2.2;have l:A7 q.2:=A3 h.1.2.2;change B7 at q;obtain⟨b,c⟩:q.1.2.length<=2199023255552/\q.2.length<=2199023255552:=j;obtain⟨n,o⟩:=Nl k l b c δ;simp only[dS,I9,V7];refine⟨⟨b,c⟩,?_⟩;rintro⟨r,_⟩ _ f;simp only at f|-;have e:r.1=ic (rv q).num:=by rw[f];rfl
 refine⟨by show r.1.2.length<= _;rw[e];omega,?_⟩;rintro⟨s,_⟩ _ a;refine⟨⟨b,c⟩,?_⟩;rintro⟨i,_⟩ _ d;simp only at a d|-;rw[e,K7]at a;refine⟨⟨by show s.2.length<= _;rw[a,Af,xK, <-Af];omega,by show i.2.length<= _;rw[d,Af,uA];omega⟩,?_⟩;rintro⟨t,_⟩ _ g;simp only at g|-;rw[g];unfold Lx;rw[a,d,K7,K7,A1b]
def dO:sx Ny UH:=λx D O=>by
 obtain⟨c,b,_⟩:=x;have Q:A7 c.2:=A3 D.1.2.2;have R:A7 b.2:=A3 D.2.1.2.2;change Lu at c b;obtain⟨E,F⟩:c.2.length<=8796093022208/\b.2.length<=8796093022208:=O;have a1:=D2 Q;have a2:=D2 R;simp only[UH,iB,Fg,I9,V7];refine⟨by show b.2.length<=35184372088832;omega,?_⟩;rintro⟨a5,_⟩ _ n;simp only at n|-;refine⟨λh=>⟨trivial,?_⟩,λh=>⟨by show b.2.length<=35184372088832;omega,?_⟩⟩
 . have h:=qA h;rw[n]at h;rintro⟨T,_⟩ _ i;simp only at i|-;rw[i,B2x (xQ.1 h)]
 have h:=qB h;have M:iv b≠0:=λe=>h (by rw[n,e];rfl)
 rintro⟨m,_⟩ _ z;simp only at z|-;refine⟨λ_=>trivial,?_⟩;rintro⟨e,_⟩ v;simp only at v|-;refine⟨λa=>⟨by show c.2.length<=35184372088832;omega,?_⟩,λ_=>⟨⟨E,F⟩,?_⟩⟩
 . rw[I5,qC]at a;have k:=(v a.1).2;rw[a.2]at k;have t:m.2= [1]:=qA k.symm;have I:m.1=false:=by simpa using a.1
   have J:iv b=1:=by
    have H:m=(false,[1]):=g3v I t;rw[<-K7 (iv b), <-z,H];rfl
   rintro⟨T,_⟩ _ i;simp only at i|-;rw[i,t,A0z J,oH];rfl
 . rintro⟨g,_⟩ _ l;simp only at l|-;have N:iv g=((Nat.gcd (nv c.2) (nv b.2):Nat):Int):=by rw[l,K7]
   obtain⟨G0,Gs,Gn,Gp⟩:=B9j (A:=iv c) (B:=iv b) M (G:=Nat.gcd (nv c.2) (nv b.2)) (by rw[J5,J5]);have X:nv b.2≠0:=by rw[<-J5];omega
   have y:g.2.length<=8796093022208:=by
    rw[l,Af,uA];have:=J7 (g2a ω (yW (nv c.2) (nv b.2)));omega
   rw[<-N]at Gs Gn Gp;have w:iv g≠0:=ω
   refine⟨⟨E,y⟩,?_⟩;rintro⟨s,a0,a4,_⟩ _ f;refine⟨⟨F,y⟩,?_⟩;rintro⟨j,W,a3,_⟩ _ d;simp only at f d|-;have f:=(f w).1;have d:=(d w).1;have Z:s.2.length<=8796093022208:=by
    rw[f,Af];have a:=J7 (xP (iv c) (iv g));rw[J5 c]at a;omega
   have Y:j.2.length<=8796093022208:=by
    rw[d,Af];have a:=J7 (xP (iv b) (iv g));rw[J5 b]at a;omega
   have u:j.1=decide (iv b/iv g<0):=by rw[d];rfl
   refine⟨λp=>((p.1,p.2.1),p.2.2.2.1)=rc (Lx c b),⟨λa=>⟨by show s.2.length<=35184372088832;omega,?_⟩,λa=>?_⟩,?_⟩
   . rw[u]at a;have a:=Gs.1 (qA a);rintro⟨U,_⟩ _ o;refine⟨by show j.2.length<=35184372088832;omega,?_⟩;rintro⟨V,_⟩ _ r;simp only at o r|-;show(U,V.2)= _;rw[f,K7]at o;rw[d,K7]at r;rw[o,r];exact Gn a
   . rw[u]at a;have a:¬iv b<0:=λk=>(qB a) (Gs.2 k)
     show(s,j.2)= _;rw[f,d];exact Gp a
   . rintro⟨a6,a7,a8,a9,_⟩ _ P;exact P
def HS:An:= {}
def PG:An:= {}
def Zl:An:= {}
def HT:An:= {}
def Oj(x:En):Prop:=True/\Lh λr=>r.1=false->True/\Lh λa=>a.1=false->(iB r.1 ((iB a.1 ((0:Int)=P6 x.1 x.2.1) ((-1:Int)=P6 x.1 x.2.1))) ((iB a.1 ((1:Int)=P6 x.1 x.2.1) ((iB (decide (x.1<x.2.1)) ((-1:Int)=P6 x.1 x.2.1) ((iB (decide (x.2.1<x.1)) ((1:Int)=P6 x.1 x.2.1) ((0:Int)=P6 x.1 x.2.1))))))))
def SP(x:C8):Prop:=decide (x.1≠x.1)=false
def Kv(x:En):Prop:=True/\Lh λr=>r.1=false->True/\Lh λa=>a.1=false->(iB r.1 ((iB a.1 ((0:Int)=P6 x.1 x.2.1) ((-1:Int)=P6 x.1 x.2.1))) ((iB a.1 ((1:Int)=P6 x.1 x.2.1) ((iB (decide (x.1<x.2.1)) ((-1:Int)=P6 x.1 x.2.1) ((iB (decide (x.2.1<x.1)) ((1:Int)=P6 x.1 x.2.1) ((0:Int)=P6 x.1 x.2.1))))))))
def JP(x:C8):Prop:=decide (x.1≠x.1)=false
def Yw:sx Y5 Oj:=λx f _=>by
 obtain⟨(c:Int),(d:Int),_⟩:=x;simp only[Oj,iB,Lh];refine⟨trivial,?_⟩;rintro⟨r,_⟩ _ a;refine⟨trivial,?_⟩;rintro⟨s,_⟩ _ b;change Bool at r s;simp only at a b;rw[a,b];refine⟨λh=>(by cases h),λ_=>⟨λh=>(by cases h),λ_=>⟨λh=>?_,λh=>⟨λh2=>?_,λh2=>?_⟩⟩⟩⟩
 . simp[P6,qA h]
 . simp[P6,qB h,qA h2]
 . simp[P6,qB h,qB h2]
def GH (x:A2 Cg.args) (a:awf Cg.args x) (_:Cg.pre x):SP x:=rC λh=>h rfl
def Yx (x:A2 Y6.args) (a:awf Y6.args x) (_:Y6.pre x):JP x:=rC λh=>h rfl
def Ub:sx T6 Kv:=λx f _=>by
 obtain⟨(c:Int),(d:Int),_⟩:=x;simp only[Kv,iB,Lh];refine⟨trivial,?_⟩;rintro⟨r,_⟩ _ a;refine⟨trivial,?_⟩;rintro⟨s,_⟩ _ b;change Bool at r s;simp only at a b;rw[a,b];refine⟨λh=>(by cases h),λ_=>⟨λh=>(by cases h),λ_=>⟨λh=>?_,λh=>⟨λh2=>?_,λh2=>?_⟩⟩⟩⟩
 . simp[P6,qA h]
 . simp[P6,qB h,qA h2]
 . simp[P6,qB h,qB h2]
def Pz (z:Int):(z<0/\z.sign= -1)\/(z=0/\z.sign=0)\/(0<z/\z.sign=1):=by
 rcases g0f z 0 with h|h|h
 . exact .inl ⟨h,xL h⟩
 . exact .inr (.inl ⟨h,by rw[h];rfl⟩)
 . exact .inr (.inr ⟨h,uZ h⟩)
def Yy:sx Y7 Om:=λx o _=>by
 obtain⟨(p:Lu),(q:Lu),_⟩:=x;simp only[Om,iB,Fg];refine⟨trivial,?_⟩;rintro⟨r,_⟩ _ l;refine⟨trivial,?_⟩;rintro⟨s,_⟩ _ n;change Int at r s;simp only at l n|-;have np:=J5 p;have t:=J5 q;refine⟨λh=>?_,λh=>⟨λc=>?_,λc=>⟨λg=>⟨trivial,?_⟩,λg=>⟨trivial,?_⟩⟩⟩⟩
 . have h:=qA h;have:iv p<iv q:=by rcases Pz (iv p)with⟨a,b⟩ | ⟨a,b⟩ | ⟨a,b⟩<;>rcases Pz (iv q)with⟨d,f⟩ | ⟨d,f⟩ | ⟨d,f⟩<;>omega
   unfold P6;rw[qN this]
 . have c:=qA c;have:iv q<iv p:=by rcases Pz (iv p)with⟨a,b⟩ | ⟨a,b⟩ | ⟨a,b⟩<;>rcases Pz (iv q)with⟨d,f⟩ | ⟨d,f⟩ | ⟨d,f⟩<;>omega
   unfold P6;rw[qG ω,qN this]
 . have h:=qB h;have c:=qB c;have g:=qA g;rintro⟨u,_⟩ _ i;simp only at i|-;rw[i];have j:iv p<0:=by rcases Pz (iv p)with⟨a,b⟩ | ⟨a,b⟩ | ⟨a,b⟩<;>omega
   have k:iv q<0:=by rcases Pz (iv q)with⟨a,b⟩ | ⟨a,b⟩ | ⟨a,b⟩<;>omega
   unfold Dt P6
   (repeat' split)<;>first|rfl|omega
 . have h:=qB h;have c:=qB c;have g:=qB g;rintro⟨u,_⟩ _ i;simp only at i|-;rw[i];have j:0<=iv p:=by rcases Pz (iv p)with⟨a,b⟩ | ⟨a,b⟩ | ⟨a,b⟩<;>omega
   have k:0<=iv q:=by rcases Pz (iv q)with⟨a,b⟩ | ⟨a,b⟩ | ⟨a,b⟩<;>omega
   unfold Dt P6
   (repeat' split)<;>first|rfl|omega
def Ww:sx V9 Lp:=λx i P=>by
 obtain⟨p,q,_⟩:=x;have a9:A7 p.1.2:=A3 i.1.1.2.2;have aa:A7 p.2:=A3 i.1.2.2;have ab:A7 q.1.2:=A3 i.2.1.1.2.2;have ac:A7 q.2:=A3 i.2.1.2.2;change B7 at p q;obtain⟨T,W⟩:F4 p/\F4 q:=P;obtain⟨Q,R⟩:=T;obtain⟨U,V⟩:=W;simp only[Lp,iB,Fg,V7];refine⟨trivial,?_⟩;rintro⟨Y,_⟩ _ v;refine⟨trivial,?_⟩;rintro⟨Z,_⟩ _ w;change Int at Y Z;simp only at v w|-;refine⟨λh=>⟨trivial,?_⟩,λh=>⟨trivial,?_⟩⟩
 . have h:=qA h;rintro⟨a0,_⟩ _ d;simp only at d|-;rw[v,w]at h d;rw[d,B2o h]
 rintro⟨o,n,a1,_⟩ _ ⟨j,l⟩;refine⟨trivial,?_⟩;rintro⟨t,bd,a2,_⟩ _ ⟨r,s⟩;change Int at o n t bd;simp only at j l r s|-;refine⟨λh=>⟨trivial,?_⟩,λ_=>⟨trivial,?_⟩⟩
 . rw[I5,qC]at h;have A:J9 p:=qR λhn=>by have:=l hn;rw[this]at h;exact absurd h.1 δ
   have B:J9 q:=qR λhn=>by have:=s hn;rw[this]at h;exact absurd h.2 δ
   obtain⟨F,H,_⟩:=j A;obtain⟨G,I,_⟩:=r B;obtain⟨ag,ah,ai,aj⟩:=Mn A;obtain⟨ak,am,an,ao⟩:=Mn B;have f:=Sj (a:=o) (b:=bd) (M:=2147483647) (N:=2147483647) ω ω ω ω;have g:=Sj (a:=t) (b:=n) (M:=2147483647) (N:=2147483647) ω ω ω ω;rintro⟨X,_⟩ _ c;simp only at c|-;rw[wv ω,wv ω]at c;rw[c, <-Vr p, <-Vr q, <-F, <-H, <-G, <-I,YV ω ω,sB ω,sB ω]
 . rintro⟨z,u,_⟩ ⟨a8,a5,_⟩ f;refine⟨trivial,?_⟩;rintro⟨m,e,_⟩ ⟨a7,a6,_⟩ g;change Lu at z m;change Wf at u e;simp only at f g|-;obtain⟨D,J⟩:=Ni f;obtain⟨E,O⟩:=Ni g;obtain⟨ae,a3⟩:=Jj (k:=2199023255552) f Q R δ;obtain⟨ad,a4⟩:=Jj (k:=2199023255552) g U V δ;rw[J,O];refine⟨⟨by show z.2.length<= _;omega,by show e.length<= _;omega⟩,?_⟩;rintro⟨a0,_⟩ _ d;refine⟨⟨by show m.2.length<= _;omega,by show u.length<= _;omega⟩,?_⟩;rintro⟨af,_⟩ _ y;simp only at d y|-;refine⟨trivial,?_⟩;rintro⟨X,_⟩ _ c;simp only at c|-;rw[c,d,y,K7,K7,Kz,Kz,YV D E]
def C5o (q:B7):rv ((!q.1.1,q.1.2),q.2)= -rv q:=by
 unfold rv;rw[Rat.neg_mkRat];congr 1;unfold iv;cases h:q.1.1<;>simp
def KI:sx W5 Xy:=λx c b=>by
 obtain⟨(p:B7),(q:B7),_⟩:=x;simp only[Xy,I9];refine⟨b,?_⟩;rintro⟨r,_⟩ _ a;simp only at a|-;rw[a,C5o,tC]
def C4t {n:Nat} (h:n≠0):mkRat (n:Int) n=1:=by
 rw[yE];rw[tZ];exact vS _ (λe=>h (Rat.natCast_eq_zero_iff.1 e))
def C5p {q:B7} (h:rv q≠0):rv ((q.1.1,q.2),q.1.2)=(rv q)⁻¹:=by
 have b:nv q.2≠0:=λe=>h (by unfold rv;rw[e,zC])
 have a:nv q.1.2≠0:=λe=>h (by unfold rv iv;rw[e];split<;>simp)
 have c:rv ((q.1.1,q.2),q.1.2)*rv q=1:=by
  unfold rv;have e:iv (q.1.1,q.2)*iv q.1=((nv q.1.2*nv q.2:Nat):Int):=by
   unfold iv;rw[uY,g2q (nv q.1.2:Int)];cases q.1.1<;>simp[Int.neg_mul_neg]
  rw[g1h,e];exact C4t (zV a b)
 rw[<-tR (rv ((q.1.1,q.2),q.1.2)), <-vS _ h, <-tO,c,tG]
def KD:sx Eh Xu:=λx j g=>by
 obtain⟨(p:B7),(q:B7),_⟩:=x;obtain⟨i,c⟩:F4 p/\F4 q:=g;simp only[Xu,iB,Fg,I9];refine⟨trivial,?_⟩;rintro⟨(s:Int),_⟩ _ b;simp only at b|-;refine⟨λh=>?_,λh=>⟨⟨i,c.2,c.1⟩,?_⟩⟩
 . have f:=BE (b▸qA h);exact⟨λ_=>by trivial,λa=>absurd f a⟩
 . have h:=qB h;have a:rv q≠0:=λe=>h (by rw[b,e];rfl)
   rintro⟨r,_⟩ _ d;simp only at d|-;refine⟨λe=>absurd e a,λ_=>⟨?_,by trivial⟩⟩;rw[d,C5p a, <-tZ]
def Zm:An:= {loop:= [(8,⟨[2,6,36],[0,2],[(37,false,vI)],[],[]⟩)],plan:= [(10,[2,5,8,11],[],true, .done),(11,[10,21,22],[],true, .done)]}
def Kw(x:D2i):Prop:=let q:=(1:Int);let j:=(0:Int);let g:Prop:=(j<=x.2.1/\x.2.1<=16384);let e:Prop:=(false=true↔Iu x.1 x.2.1);g/\Lh λr=>r.1=decide (N7 x.1.1 x.2.1)->((!r.1)=false->g)/\∀(v:W9),((!r.1)=false->(True/\True)/\v.1=decide (N7 x.1.2.1 x.2.1))->(iB ((G9 (!r.1) true !v.1)) (e) (True/\Lh λt=>t.1=decide (sqr x.1.2.2.1 x.2.1)->((!t.1)=false->True)/\∀(w:W9),((!t.1)=false->(True/\True)/\w.1=decide (sqr x.1.2.2.2 x.2.1))->(iB ((G9 (!t.1) true !w.1)) (e) (True/\I9 λr=>r.1=ri q->∃(I:C8->Prop),∃(a: _->Nat),I (j,())/\∀(p:C8),let m:=(i64.wrap (p.1+q),());let k:=(gx [] x.1.2.2.2.2.2 p.1);let h:=(gx [] x.1.2.2.1.2.2 p.1);let l:=(↑h.length:Int);let i:=(gx G4 h (i64.wrap (l-q)));let g:Prop:=((gx G4 k j).1≠p.1);let d:Prop:=((↑k.length:Int)=j);let c:Prop:=(j<=i64.wrap (l-q)/\i64.wrap (l-q)<l);let b:Prop:=(l=j);let n:=(decide b);let f:Prop:=(i.1≠p.1);let o:=(decide f);(Ty.int i64).wf p.1/\True->I p->(iB (decide (p.1<x.2.1)) ((j<=p.1/\p.1<(x.1.2.2.1.2.2.length:Int))/\(j<=p.1/\p.1<(x.1.2.2.2.2.2.length:Int))/\(decide b=false->c)/\(G9 n true o=false->c)/\(G9 n true o=false->F4 i.2/\F4 r.1)/\∀(u:C8),let s:=(decide (u.1≠j));(G9 n true o=false->(G5 u.1/\True)/\u.1=YU (rv i.2) (rv r.1))->(iB (G9 (G9 n true o) true s) (e) ((decide d=false->j<=j/\j<(↑k.length:Int))/\(iB (G9 (decide d) true (decide g)) (e) (I m/\a m<a p))))) ((true=true↔Iu x.1 x.2.1)))))))
end Go.Proofs.YtknoakmaeleclaaGreat
