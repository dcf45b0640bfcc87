/- Part. -/
import Derived.Test.YtdbnghliccifcaaGreatKLH
set_option linter.all false
namespace Go.Proofs.YtdbnghliccifcaaGreat
open Go.Proofs.Tryz
open Go.Vc Go.Gw
open Go.IntKind (i64 u64 u32)
def bG:su Mw SR:=λx g d=>by
 obtain⟨(b:Bool),(l:Wf),_⟩:=x;have f:l.length<=35184372088832:=d;simp only[SR,R4];refine⟨ω,?_⟩;rintro⟨r,_⟩ _ a;simp only at a|-;rw[C5w,a,J7];have e:decide ((0:Int)<((nc (nv l)).length:Int))=decide (nv l≠0):=by
  rw[vR];constructor
  . intro h c;rw[c,R3]at h;simp at h
  intro h;have:(nc (nv l)).length≠0:=λh1=>h (Zw.1 (qN h1))
  omega
 rw[e]
def bJ:su Mx SS:=λx b a=>by
 simp only[SS,W8];exact⟨a,λr _ h=>h⟩
def UU:su Jt NU:=λx f d=>by
 obtain⟨⟨(a:Bool),(l:Wf)⟩,⟨(b:Bool),(m:Wf)⟩,_⟩:=x;simp only[NU];refine⟨λ_=>trivial,?_⟩;rintro⟨r,_⟩ c;simp only at c|-;by_cases h:a=b
 . subst h;have:=(c (by simp)).2;rw[this];simp[L5]
 have:(a==b)=false:=by simpa using h
 rw[this];simp[L5,h]
def NV:su Fl CF:=λx f _=>by
 obtain⟨(v:Int),_⟩:=x;have d:i64.min<=v/\v<=i64.max:=f.1;rw[Uv,DR]at d;have b:∀n:Nat,n<=9223372036854775808->Ht (nc n):=λn hn=>by
  have:(nc n).length<=2:=Fv ω;show _ <=35184372088832;omega
 simp only[CF,iB,R4,W8];refine⟨λh=>⟨trivial,?_⟩,λh=>⟨trivial,?_⟩⟩
 . have h:=qA h;rintro⟨r,_⟩ _ c;simp only at c|-;have e:(u64.wrap (u64.wrap (i64.wrap (-i64.wrap (v+1)))+1)).toNat=v.natAbs:=by
    rw[wv (a:=v+1) ω,wv ω,Y5 (a:= -(v+1)) ω ω,Y5 ω ω];omega
   rw[e]at c;subst c;refine⟨b _ ω,?_⟩;rintro⟨s,_⟩ _ b;simp only at b|-;rw[b,YB,F6];congr 1;omega
 have h:=qB h;rintro⟨r,_⟩ _ c;simp only at c|-;have e:(u64.wrap v).toNat=v.natAbs:=by rw[Cy];omega
 rw[e]at c;subst c;refine⟨b _ ω,?_⟩;rintro⟨s,_⟩ _ b;simp only at b|-;rw[b,Kh,F6];congr 1;omega
def bK:su My SU:=λx f d=>by
 obtain⟨c,_⟩:=x;simp only[SU,iB,W8];refine⟨d,?_⟩;rintro⟨r,_⟩ _ b;simp only at b|-;subst b;generalize iv c=v;refine⟨λh=>?_,λh=>⟨λa=>?_,λa=>?_⟩⟩
 . have h:v<0:=qA h;exact(xJ h).symm
 . have a:=qA a;have:nc v.natAbs= []:=qN (by show(ic v).2.length=0;omega);rw[Zw]at this;rw[(ω:v=0)];rfl
 have h:¬v<0:=qB h;have a:=qB a;have:v≠0:=λh0=>a (by rw[h0,jL];rfl)
 exact(uW ω).symm
def dO:su Sy bI:=λx d b=>by
 obtain⟨⟨c,l⟩,_⟩:=x;simp only[bI,W8];refine⟨b,?_⟩;rintro⟨r,_⟩ _ a;simp only at a|-;rw[a,B3t]
def dL:su Sv bE:=λx r w=>by
 obtain⟨⟨b,l⟩,⟨c,m⟩,_⟩:=x;have u:A9 l:=A6 r.1.2.2;have v:A9 m:=A6 r.2.1.2.2;change Bool at b c;change Wf at l m;obtain⟨G,H⟩:l.length<=17592186044416/\m.length<=17592186044416:=w;have i:N8 l:=ω
 have j:N8 m:=ω
 have B:=D6 u;have D:=D6 v;have E:=QA (nv l) (nv m);simp only[bE,iB,R4,W8];refine⟨λh=>⟨⟨i,j⟩,?_⟩,λh=>⟨⟨i,j⟩,?_⟩⟩
 . have h:b=c:=by simpa using h
   subst h;rintro⟨z,_⟩ _ o;simp only at o|-;subst o;refine⟨ω,?_⟩;rintro⟨s,_⟩ _ a;simp only at a|-;rw[a];congr 1;cases b
   . simp only[Kh,F6];omega
   simp only[YB,F6];omega
 have h:b≠c:=by simpa using h
 rintro⟨z,(y:Bool),_⟩ _ ⟨k,f⟩;simp only at k f|-;refine⟨λd=>?_,λd=>⟨⟨j,i⟩,?_⟩⟩
 . have t:nv m<=nv l:=by
    rcases sH (nv l) (nv m)with g|g
    . rw[(k g).2]at d;cases d
    exact g
   rw[(f t).1];have:=K9 (ω:nv l-nv m<=nv l);refine⟨ω,?_⟩;rintro⟨s,_⟩ _ a;simp only at a|-;rw[a];congr 1;cases b<;>cases c<;>simp only[YB,Kh,F6]<;>first|omega|exact absurd rfl h
 have A:nv l<nv m:=by
  rcases sH (nv l) (nv m)with g|g
  . exact g
  rw[(f g).2]at d;cases d
 rintro⟨I,F,_⟩ _ ⟨_,n⟩;simp only at n|-;rw[(n ω).1];have:=K9 (ω:nv m-nv l<=nv m);refine⟨ω,?_⟩;rintro⟨s,_⟩ _ a;simp only at a|-;rw[a];congr 1;cases b<;>cases c<;>simp only[YB,Kh,F6]<;>first|omega|exact absurd rfl h
def dN:su Sx bH:=λx f i=>by
 obtain⟨⟨a,l⟩,⟨b,m⟩,_⟩:=x;have g:A9 l:=A6 f.1.2.2;have h:A9 m:=A6 f.2.1.2.2;change Bool at a b;change Wf at l m;obtain⟨o,r⟩:l.length<=17592186044416/\m.length<=17592186044416:=i;have j:=D6 g;have k:=D6 h;have n:=Qk (nv l) (nv m);simp only[bH,R4,W8];refine⟨⟨ω,ω⟩,?_⟩;rintro⟨s,_⟩ _ c;simp only at c|-;subst c;refine⟨ω,?_⟩;rintro⟨t,_⟩ _ d;simp only at d|-;rw[d];congr 1;cases a<;>cases b<;>simp[YB,Kh,F6,uV,Int.neg_mul,Int.mul_neg]
def dK:su Su bD:=λx d b=>by
 obtain⟨⟨c,l⟩,_⟩:=x;simp only[bD,W8];refine⟨b,?_⟩;rintro⟨r,_⟩ _ a;simp only at a|-;rw[a,K8,Kh]
def dR:su Sz bL:=λx h g=>by
 obtain⟨c,b,_⟩:=x;have f:A9 b.2:=A6 h.2.1.2.2;change Lb at c b;obtain⟨i,k⟩:c.2.length<=17592186044416/\b.2.length<=17592186044416:=g;have j:=D6 f;simp only[bL,W8];refine⟨by show b.2.length<=35184372088832;omega,?_⟩;rintro⟨r,_⟩ _ a;simp only at a|-;refine⟨⟨i,by show r.2.length<= _;rw[a,De,yP,K8];omega⟩,?_⟩;rintro⟨s,_⟩ _ d;simp only at d|-;rw[d,a,P6, <-Int.sub_eq_add_neg]
def dM:su Sw bF:=λx f j=>by
 obtain⟨a,b,_⟩:=x;have g:A9 a.2:=A6 f.1.2.2;have i:A9 b.2:=A6 f.2.1.2.2;change Lb at a b;obtain⟨k,l⟩:a.2.length<=8796093022208/\b.2.length<=8796093022208:=j;have o:=D6 g;have s:=D6 i;simp only[bF,R4,W8];refine⟨⟨k,l⟩,?_⟩;rintro⟨r,_⟩ _ c;simp only at c|-;have n:r.length<=8796093022209:=by
  rw[c];rcases vN (nv a.2)with h|h
  . rw[h,Nat.gcd_zero_left];omega
  have:=K9 (g3x h (g4v (nv a.2) (nv b.2)));omega
 refine⟨by show r.length<=35184372088832;omega,?_⟩;rintro⟨t,_⟩ _ d;simp only at d|-;rw[d,Kh,c,F6]
def RP:su Hn HM:=λx y P=>by
 obtain⟨⟨sa,a⟩,⟨sb,b⟩,_⟩:=x;have J:A9 a:=A6 y.1.2.2;have N:A9 b:=A6 y.2.1.2.2;change Bool at sa sb;change Wf at a b;obtain⟨V,W⟩:a.length<=8796093022208/\b.length<=8796093022208:=P;have a2:=D6 J;have a3:=D6 N;simp only[HM,iB,W8];refine⟨⟨V,W⟩,?_⟩;rintro⟨q,m,(U:Bool),_⟩ _ ⟨G,u⟩;simp only at G u|-;refine⟨λh O=>?_,λh=>?_⟩
 . have j:nv b≠0:=λe=>O (by unfold iv;simp[e])
   rw[(u j).2.2]at h;exact absurd h δ
 have j:nv b≠0:=λe=>by rw[G e]at h;exact absurd h δ
 obtain⟨s,r,_⟩:=u j;have a1:q.length<=8796093022208:=by
  have:=K9 (xB (nv a) (nv b));rw[s];omega
 have a0:m.length<=8796093022208:=by
  have:=K9 (wI (wJ (nv a) (tF j)));rw[r];omega
 have F:nv q=nv a/nv b:=by rw[s,F6]
 have E:nv m=nv a%nv b:=by rw[r,F6]
 obtain⟨c1,H⟩:=C2s (sa:=sa) (sb:=sb) (A:=nv a) (B:=nv b) j (a:=iv (sa,a)) (b:=iv (sb,b)) (q:=iv (sa !=sb,q)) (m:=iv (sa,m)) rfl rfl (by rw[<-F];rfl) (by rw[<-E];rfl);refine⟨by show q.length<=35184372088832;omega,?_⟩;rintro⟨Q,_⟩ _ g;refine⟨by show m.length<=35184372088832;omega,?_⟩;rintro⟨M,_⟩ _ f;simp only at g f|-;have Z:Q.2.length<=8796093022208:=by
  have:(nc (nv q)).length=q.length:=by rw[F, <-s]
  rw[g,De,K8];show(nc (nv q)).length<= _;omega
 have Y:M.2.length<=8796093022208:=by
  have:(nc (nv m)).length=m.length:=by rw[E, <-r]
  rw[f,De,K8];show(nc (nv m)).length<= _;omega
 refine⟨λp=>(p.1,p.2.1)=ic (iv (sa,a)/iv (sb,b))/\(p.2.2.1,p.2.2.2.1)=ic (iv (sa,a)%iv (sb,b)),⟨λc=>?_,λc=>?_⟩,?_⟩
 . have c:iv (sa,m)<0:=by rw[f]at c;exact qA c
   obtain⟨l,n,I⟩:=c1 c;refine⟨by show b.length<=35184372088832;omega,?_⟩;rintro⟨B,_⟩ _ k;simp only at k|-;rw[K8]at k;have X:B.2.length<=8796093022208:=by
    rw[k,De,vB];show(nc (nv b)).length<= _;omega
   refine⟨⟨by show M.2.length<= _;omega,by show B.2.length<= _;omega⟩,?_⟩;rintro⟨R,_⟩ _ w;simp only at w|-;have v:R=ic (iv (sa,a)%iv (sb,b)):=by rw[w,f,k,P6,P6,l]
   refine⟨λo=>⟨trivial,?_⟩,λo=>⟨trivial,?_⟩⟩
   . rintro⟨t,_⟩ _ d;simp only at d|-;refine⟨⟨by show Q.2.length<= _;omega,by show t.2.length<= _;rw[d,A2o];show 1<= _;decide⟩,?_⟩;rintro⟨T,_⟩ _ i;simp only at i|-;exact⟨by show T= _;rw[i,g,d,P6,P6,n o],v⟩
   rintro⟨t,_⟩ _ d;simp only at d|-;refine⟨⟨by show Q.2.length<= _;omega,by show t.2.length<= _;rw[d,A2o];show 1<= _;decide⟩,?_⟩;rintro⟨T,_⟩ _ i;simp only at i|-;exact⟨by show T= _;rw[i,g,d,P6,P6,I o],v⟩
 . have c:¬iv (sa,m)<0:=by rw[f]at c;exact qB c
   obtain⟨l,n⟩:=H c;exact⟨by show Q= _;rw[g,n],by show M= _;rw[f,l]⟩
 rintro⟨a4,a5,a6,a7,_⟩ _ ⟨z,D⟩;exact⟨λ_=>⟨z,D,by trivial⟩,λ_=>⟨z,D,by trivial⟩⟩
def bT:su Nc TA:=λx a _=>by
 simp only[TA];exact A6y.symm
def UV:su Ju NW:=λx g f=>by
 obtain⟨⟨c,l⟩,⟨d,m⟩,_⟩:=x;simp only[NW,Jp];refine⟨trivial,?_⟩;rintro⟨r,_⟩ _ a;refine⟨λ_=>trivial,?_⟩;rintro⟨s,_⟩ b;simp only at a b|-;by_cases h:c=d
 . subst h;have a:r=true:=by rw[a];simp
   have:=(b a).2;rw[this,a];simp[L5]
 have a:r=false:=by rw[a];simp[h]
 rw[a];simp[L5,h]
def GK:su Bz Tt:=λx f c=>by
 obtain⟨d,_⟩:=x;simp only[Tt,N2,Jp];refine⟨c,?_⟩;rintro⟨r,_⟩ _ a;refine⟨trivial,?_⟩;rintro⟨s,_⟩ _ b;simp only at a b|-;rw[b,a]
def dX:su Td bU:=λx d b=>by
 obtain⟨c,_⟩:=x;simp only[bU,N2];refine⟨b,?_⟩;rintro⟨r,_⟩ _ a;simp only at a|-;rw[a];unfold rc ic;simp
def NX:su Cm CG:=λx f _=>by
 obtain⟨(v:Int),_⟩:=x;have d:i64.min<=v/\v<=i64.max:=f.1;rw[Uv,DR]at d;simp only[CG,N2,W8];refine⟨trivial,?_⟩;rintro⟨r,_⟩ _ a;refine⟨trivial,?_⟩;rintro⟨s,_⟩ _ b;simp only at a b|-;subst a b;have g:(ic v).2.length<=2:=by rw[De];exact Fv ω
 refine⟨⟨ω,by rw[A2o];show 1<= _;decide⟩,?_⟩;rintro⟨t,_⟩ _ c;simp only at c|-;rw[c,nJ (P6 1),P6,QN]
def bR:su Na SY:=λx f b=>by
 obtain⟨(q:C7),_⟩:=x;obtain⟨c,d⟩:q.1.2.length<=2199023255552/\q.2.length<=2199023255552:=b;simp only[SY,N2];refine⟨⟨by show q.1.2.length<= _;omega,by show q.2.length<= _;omega⟩,?_⟩;rintro⟨r,_⟩ _ a;simp only at a|-;rw[a,B9u]
def bS:su Nb SZ:=λx f g=>by
 obtain⟨q,_⟩:=x;have h:A9 q.1.2:=A6 f.1.1.2.2;have i:A9 q.2:=A6 f.1.2.2;change C7 at q;obtain⟨a,b⟩:q.1.2.length<=2199023255552/\q.2.length<=2199023255552:=g;obtain⟨j,k⟩:=Mo h i a b δ;simp only[SZ,N2,Et];refine⟨⟨a,b⟩,?_⟩;rintro⟨r,_⟩ _ c;simp only at c|-;have e:r.1=ic (rv q).num:=by rw[c];rfl
 refine⟨by show r.1.2.length<= _;rw[e];omega,?_⟩;rintro⟨s,_⟩ _ d;simp only at d|-;rw[d,e,P6]
def dW:su Tc bQ:=λx h j=>by
 obtain⟨q,_⟩:=x;have k:A9 q.1.2:=A6 h.1.1.2.2;have l:A9 q.2:=A6 h.1.2.2;change C7 at q;obtain⟨b,c⟩:q.1.2.length<=2199023255552/\q.2.length<=2199023255552:=j;obtain⟨n,o⟩:=Mo k l b c δ;simp only[bQ,N2,W8];refine⟨⟨b,c⟩,?_⟩;rintro⟨r,_⟩ _ f;simp only at f|-;have e:r.1=ic (rv q).num:=by rw[f];rfl
 refine⟨by show r.1.2.length<= _;rw[e];omega,?_⟩;rintro⟨s,_⟩ _ a;refine⟨⟨b,c⟩,?_⟩;rintro⟨i,_⟩ _ d;simp only at a d|-;rw[e,P6]at a;refine⟨⟨by show s.2.length<= _;rw[a,De,yP, <-De];omega,by show i.2.length<= _;rw[d,De,vB];omega⟩,?_⟩;rintro⟨t,_⟩ _ g;simp only at g|-;rw[g];unfold Oc;rw[a,d,P6,P6,nN]
def bO:su Mz SX:=λx D O=>by
 obtain⟨c,b,_⟩:=x;have Q:A9 c.2:=A6 D.1.2.2;have R:A9 b.2:=A6 D.2.1.2.2;change Lb at c b;obtain⟨E,F⟩:c.2.length<=8796093022208/\b.2.length<=8796093022208:=O;have a1:=D6 Q;have a2:=D6 R;simp only[SX,iB,N2,Et,W8];refine⟨by show b.2.length<=35184372088832;omega,?_⟩;rintro⟨a5,_⟩ _ n;simp only at n|-;refine⟨λh=>⟨trivial,?_⟩,λh=>⟨by show b.2.length<=35184372088832;omega,?_⟩⟩
 . have h:=qA h;rw[n]at h;rintro⟨T,_⟩ _ i;simp only at i|-;rw[i,A8n (zA.1 h)]
 have h:=qB h;have M:iv b≠0:=λe=>h (by rw[n,e];rfl)
 rintro⟨m,_⟩ _ z;simp only at z|-;refine⟨λ_=>trivial,?_⟩;rintro⟨e,_⟩ v;simp only at v|-;refine⟨λa=>⟨by show c.2.length<=35184372088832;omega,?_⟩,λ_=>⟨⟨E,F⟩,?_⟩⟩
 . rw[J7,qC]at a;have k:=(v a.1).2;rw[a.2]at k;have t:m.2= [1]:=qA k.symm;have I:m.1=false:=by simpa using a.1
   have J:iv b=1:=by
    have H:m=(false,[1]):=Prod.ext I t;rw[<-P6 (iv b), <-z,H];rfl
   rintro⟨T,_⟩ _ i;simp only at i|-;rw[i,t,nJ J,QN];rfl
 rintro⟨g,_⟩ _ l;simp only at l|-;have N:iv g=((Nat.gcd (nv c.2) (nv b.2):Nat):Int):=by rw[l,P6]
 obtain⟨G0,Gs,Gn,Gp⟩:=B4e (A:=iv c) (B:=iv b) M (G:=Nat.gcd (nv c.2) (nv b.2)) (by rw[K8,K8]);have X:nv b.2≠0:=by rw[<-K8];omega
 have y:g.2.length<=8796093022208:=by
  rw[l,De,vB];have:=K9 (g3x ω (yO (nv c.2) (nv b.2)));omega
 rw[<-N]at Gs Gn Gp;have w:iv g≠0:=ω
 refine⟨⟨E,y⟩,?_⟩;rintro⟨s,a0,a4,_⟩ _ f;refine⟨⟨F,y⟩,?_⟩;rintro⟨j,W,a3,_⟩ _ d;simp only at f d|-;have f:=(f w).1;have d:=(d w).1;have Z:s.2.length<=8796093022208:=by
  rw[f,De];have a:=K9 (xN (iv c) (iv g));rw[K8 c]at a;omega
 have Y:j.2.length<=8796093022208:=by
  rw[d,De];have a:=K9 (xN (iv b) (iv g));rw[K8 b]at a;omega
 have u:j.1=decide (iv b/iv g<0):=by rw[d];rfl
 refine⟨λp=>((p.1,p.2.1),p.2.2.2.1)=rc (Oc c b),⟨λa=>⟨by show s.2.length<=35184372088832;omega,?_⟩,λa=>?_⟩,?_⟩
 . rw[u]at a;have a:=Gs.1 (qA a);rintro⟨U,_⟩ _ o;refine⟨by show j.2.length<=35184372088832;omega,?_⟩;rintro⟨V,_⟩ _ r;simp only at o r|-;show(U,V.2)= _;rw[f,P6]at o;rw[d,P6]at r;rw[o,r];exact Gn a
 . rw[u]at a;have a:¬iv b<0:=λk=>(qB a) (Gs.2 k)
   show(s,j.2)= _;rw[f,d];exact Gp a
 rintro⟨a6,a7,a8,a9,_⟩ _ P;exact P
def HP:An:= {}
def OL:An:= {}
def Za:An:= {}
def HQ:An:= {}
def Nk(x:Ch):Prop:=True/\Jp λr=>r.1=false->True/\Jp λa=>a.1=false->(iB r.1 ((iB a.1 ((0:Int)=N3 x.1 x.2.1) ((-1:Int)=N3 x.1 x.2.1))) ((iB a.1 ((1:Int)=N3 x.1 x.2.1) ((iB (decide (x.1<x.2.1)) ((-1:Int)=N3 x.1 x.2.1) ((iB (decide (x.2.1<x.1)) ((1:Int)=N3 x.1 x.2.1) ((0:Int)=N3 x.1 x.2.1))))))))
def RG(x:D7):Prop:=decide (x.1≠x.1)=false
def Ka(x:Ch):Prop:=True/\Jp λr=>r.1=false->True/\Jp λa=>a.1=false->(iB r.1 ((iB a.1 ((0:Int)=N3 x.1 x.2.1) ((-1:Int)=N3 x.1 x.2.1))) ((iB a.1 ((1:Int)=N3 x.1 x.2.1) ((iB (decide (x.1<x.2.1)) ((-1:Int)=N3 x.1 x.2.1) ((iB (decide (x.2.1<x.1)) ((1:Int)=N3 x.1 x.2.1) ((0:Int)=N3 x.1 x.2.1))))))))
def JM(x:D7):Prop:=decide (x.1≠x.1)=false
def Yn:su X5 Nk:=λx f _=>by
 obtain⟨(c:Int),(d:Int),_⟩:=x;simp only[Nk,iB,Jp];refine⟨trivial,?_⟩;rintro⟨r,_⟩ _ a;refine⟨trivial,?_⟩;rintro⟨s,_⟩ _ b;change Bool at r s;simp only at a b;rw[a,b];refine⟨λh=>(by cases h),λ_=>⟨λh=>(by cases h),λ_=>⟨λh=>?_,λh=>⟨λh2=>?_,λh2=>?_⟩⟩⟩⟩
 . simp[N3,qA h]
 . simp[N3,qB h,qA h2]
 simp[N3,qB h,qB h2]
def GF (x:A3 Bu.args) (a:awf Bu.args x) (_:Bu.pre x):RG x:=rC λh=>h rfl
def Yo (x:A3 X6.args) (a:awf X6.args x) (_:X6.pre x):JM x:=rC λh=>h rfl
def Tn:su T6 Ka:=λx f _=>by
 obtain⟨(c:Int),(d:Int),_⟩:=x;simp only[Ka,iB,Jp];refine⟨trivial,?_⟩;rintro⟨r,_⟩ _ a;refine⟨trivial,?_⟩;rintro⟨s,_⟩ _ b;change Bool at r s;simp only at a b;rw[a,b];refine⟨λh=>(by cases h),λ_=>⟨λh=>(by cases h),λ_=>⟨λh=>?_,λh=>⟨λh2=>?_,λh2=>?_⟩⟩⟩⟩
 . simp[N3,qA h]
 . simp[N3,qB h,qA h2]
 simp[N3,qB h,qB h2]
def Pb (z:Int):(z<0/\z.sign= -1)\/(z=0/\z.sign=0)\/(0<z/\z.sign=1):=by
 rcases zX z 0 with h|h|h
 . exact .inl ⟨h,xJ h⟩
 . exact .inr (.inl ⟨h,by rw[h];rfl⟩)
 exact .inr (.inr ⟨h,uW h⟩)
def Yp:su X7 Nm:=λx o _=>by
 obtain⟨(p:Lb),(q:Lb),_⟩:=x;simp only[Nm,iB,Et];refine⟨trivial,?_⟩;rintro⟨r,_⟩ _ l;refine⟨trivial,?_⟩;rintro⟨s,_⟩ _ n;change Int at r s;simp only at l n|-;have np:=K8 p;have t:=K8 q;refine⟨λh=>?_,λh=>⟨λc=>?_,λc=>⟨λg=>⟨trivial,?_⟩,λg=>⟨trivial,?_⟩⟩⟩⟩
 . have h:=qA h;have:iv p<iv q:=by rcases Pb (iv p)with⟨a,b⟩ | ⟨a,b⟩ | ⟨a,b⟩<;>rcases Pb (iv q)with⟨d,f⟩ | ⟨d,f⟩ | ⟨d,f⟩<;>omega
   unfold N3;rw[qR this]
 . have c:=qA c;have:iv q<iv p:=by rcases Pb (iv p)with⟨a,b⟩ | ⟨a,b⟩ | ⟨a,b⟩<;>rcases Pb (iv q)with⟨d,f⟩ | ⟨d,f⟩ | ⟨d,f⟩<;>omega
   unfold N3;rw[qL ω,qR this]
 . have h:=qB h;have c:=qB c;have g:=qA g;rintro⟨u,_⟩ _ i;simp only at i|-;rw[i];have j:iv p<0:=by rcases Pb (iv p)with⟨a,b⟩ | ⟨a,b⟩ | ⟨a,b⟩<;>omega
   have k:iv q<0:=by rcases Pb (iv q)with⟨a,b⟩ | ⟨a,b⟩ | ⟨a,b⟩<;>omega
   unfold Dg N3
   (repeat' split)<;>first|rfl|omega
 have h:=qB h;have c:=qB c;have g:=qB g;rintro⟨u,_⟩ _ i;simp only at i|-;rw[i];have j:0<=iv p:=by rcases Pb (iv p)with⟨a,b⟩ | ⟨a,b⟩ | ⟨a,b⟩<;>omega
 have k:0<=iv q:=by rcases Pb (iv q)with⟨a,b⟩ | ⟨a,b⟩ | ⟨a,b⟩<;>omega
 unfold Dg N3
 (repeat' split)<;>first|rfl|omega
def Wi:su V6 Kt:=λx i P=>by
 obtain⟨p,q,_⟩:=x;have a9:A9 p.1.2:=A6 i.1.1.2.2;have aa:A9 p.2:=A6 i.1.2.2;have ab:A9 q.1.2:=A6 i.2.1.1.2.2;have ac:A9 q.2:=A6 i.2.1.2.2;change C7 at p q;obtain⟨T,W⟩:J8 p/\J8 q:=P;obtain⟨Q,R⟩:=T;obtain⟨U,V⟩:=W;simp only[Kt,iB,Et,W8];refine⟨trivial,?_⟩;rintro⟨Y,_⟩ _ v;refine⟨trivial,?_⟩;rintro⟨Z,_⟩ _ w;change Int at Y Z;simp only at v w|-;refine⟨λh=>⟨trivial,?_⟩,λh=>⟨trivial,?_⟩⟩
 . have h:=qA h;rintro⟨a0,_⟩ _ d;simp only at d|-;rw[v,w]at h d;rw[d,A8d h]
 rintro⟨o,n,a1,_⟩ _ ⟨j,l⟩;refine⟨trivial,?_⟩;rintro⟨t,bd,a2,_⟩ _ ⟨r,s⟩;change Int at o n t bd;simp only at j l r s|-;refine⟨λh=>⟨trivial,?_⟩,λ_=>⟨trivial,?_⟩⟩
 . rw[J7,qC]at h;have A:L3 p:=rB λhn=>by have:=l hn;rw[this]at h;exact absurd h.1 δ
   have B:L3 q:=rB λhn=>by have:=s hn;rw[this]at h;exact absurd h.2 δ
   obtain⟨F,H,_⟩:=j A;obtain⟨G,I,_⟩:=r B;obtain⟨ag,ah,ai,aj⟩:=Lr A;obtain⟨ak,am,an,ao⟩:=Lr B;have f:=Rw (a:=o) (b:=bd) (M:=2147483647) (N:=2147483647) ω ω ω ω;have g:=Rw (a:=t) (b:=n) (M:=2147483647) (N:=2147483647) ω ω ω ω;rintro⟨X,_⟩ _ c;simp only at c|-;rw[wv ω,wv ω]at c;rw[c, <-Vf p, <-Vf q, <-F, <-H, <-G, <-I,XB ω ω,sV ω,sV ω]
 rintro⟨z,u,_⟩ ⟨a8,a5,_⟩ f;refine⟨trivial,?_⟩;rintro⟨m,e,_⟩ ⟨a7,a6,_⟩ g;change Lb at z m;change Wf at u e;simp only at f g|-;obtain⟨D,J⟩:=Mn f;obtain⟨E,O⟩:=Mn g;obtain⟨ae,a3⟩:=Ir (k:=2199023255552) f Q R δ;obtain⟨ad,a4⟩:=Ir (k:=2199023255552) g U V δ;rw[J,O];refine⟨⟨by show z.2.length<= _;omega,by show e.length<= _;omega⟩,?_⟩;rintro⟨a0,_⟩ _ d;refine⟨⟨by show m.2.length<= _;omega,by show u.length<= _;omega⟩,?_⟩;rintro⟨af,_⟩ _ y;simp only at d y|-;refine⟨trivial,?_⟩;rintro⟨X,_⟩ _ c;simp only at c|-;rw[c,d,y,P6,P6,Kh,Kh,XB D E]
def B9v (q:C7):rv ((!q.1.1,q.1.2),q.2)= -rv q:=by
 unfold rv;rw[Rat.neg_mkRat];congr 1;unfold iv;cases h:q.1.1<;>simp
def KC:su Dt Xk:=λx c b=>by
 obtain⟨(p:C7),(q:C7),_⟩:=x;simp only[Xk,N2];refine⟨b,?_⟩;rintro⟨r,_⟩ _ a;simp only at a|-;rw[a,B9v,tL]
def B8w {n:Nat} (h:n≠0):mkRat (n:Int) n=1:=by
 rw[yW];rw[uQ];exact wP _ (λe=>h (Rat.natCast_eq_zero_iff.1 e))
def B9w {q:C7} (h:rv q≠0):rv ((q.1.1,q.2),q.1.2)=(rv q)⁻¹:=by
 have b:nv q.2≠0:=λe=>h (by unfold rv;rw[e,yS])
 have a:nv q.1.2≠0:=λe=>h (by unfold rv iv;rw[e];split<;>simp)
 have c:rv ((q.1.1,q.2),q.1.2)*rv q=1:=by
  unfold rv;have e:iv (q.1.1,q.2)*iv q.1=((nv q.1.2*nv q.2:Nat):Int):=by
   unfold iv;rw[uV,g2h (nv q.1.2:Int)];cases q.1.1<;>simp[Int.neg_mul_neg]
  rw[g0z,e];exact B8w (zN a b)
 rw[<-uL (rv ((q.1.1,q.2),q.1.2)), <-wP _ h, <-uF,c,uR]
def JY:su Ds Xg:=λx j g=>by
 obtain⟨(p:C7),(q:C7),_⟩:=x;obtain⟨i,c⟩:J8 p/\J8 q:=g;simp only[Xg,iB,N2,Et];refine⟨trivial,?_⟩;rintro⟨(s:Int),_⟩ _ b;simp only at b|-;refine⟨λh=>?_,λh=>⟨⟨i,c.2,c.1⟩,?_⟩⟩
 . have f:=AV (b▸qA h);exact⟨λ_=>by trivial,λa=>absurd f a⟩
 have h:=qB h;have a:rv q≠0:=λe=>h (by rw[b,e];rfl)
 rintro⟨r,_⟩ _ d;simp only at d|-;refine⟨λe=>absurd e a,λ_=>⟨?_,by trivial⟩⟩;rw[d,B9w a, <-uQ]
def Zb:An:= {loop:= [(8,⟨[2,6,36],[0,2],[(37,false,vI)],[],[]⟩)],plan:= [(10,[2,5,8,11],[],true, .done),(11,[10,21,22],[],true, .done)]}
abbrev C7a:=(Wf×Wf×MM×Int×Int×List (List EE))×Int×Unit
def Kb(x:C7a):Prop:=let q:=(1:Int);let j:=(0:Int);let g:Prop:=(j<=x.2.1/\x.2.1<=16384);let e:Prop:=(false=true↔Bo x.1 x.2.1);g/\Jp λr=>r.1=decide (K7 x.1.1 x.2.1)->((!r.1)=false->g)/\∀(v:W4),((!r.1)=false->(True/\True)/\v.1=decide (K7 x.1.2.1 x.2.1))->(iB ((L5 (!r.1) true !v.1)) (e) (True/\Jp λt=>t.1=decide (sqr x.1.2.2.1 x.2.1)->((!t.1)=false->True)/\∀(w:W4),((!t.1)=false->(True/\True)/\w.1=decide (sqr x.1.2.2.2 x.2.1))->(iB ((L5 (!t.1) true !w.1)) (e) (True/\N2 λr=>r.1=ri q->∃(I:D7->Prop),∃(a: _->Nat),I (j,())/\∀(p:D7),let m:=(i64.wrap (p.1+q),());let k:=(gx [] x.1.2.2.2.2.2 p.1);let h:=(gx [] x.1.2.2.1.2.2 p.1);let l:=(↑h.length:Int);let i:=(gx D8 h (i64.wrap (l-q)));let g:Prop:=((gx D8 k j).1≠p.1);let d:Prop:=((↑k.length:Int)=j);let c:Prop:=(j<=i64.wrap (l-q)/\i64.wrap (l-q)<l);let b:Prop:=(l=j);let n:=(decide b);let f:Prop:=(i.1≠p.1);let o:=(decide f);(Ty.int i64).wf p.1/\True->I p->(iB (decide (p.1<x.2.1)) ((j<=p.1/\p.1<(x.1.2.2.1.2.2.length:Int))/\(j<=p.1/\p.1<(x.1.2.2.2.2.2.length:Int))/\(decide b=false->c)/\(L5 n true o=false->c)/\(L5 n true o=false->J8 i.2/\J8 r.1)/\∀(u:D7),let s:=(decide (u.1≠j));(L5 n true o=false->(O5 u.1/\True)/\u.1=XA (rv i.2) (rv r.1))->(iB (L5 (L5 n true o) true s) (e) ((decide d=false->j<=j/\j<(↑k.length:Int))/\(iB (L5 (decide d) true (decide g)) (e) (I m/\a m<a p))))) ((true=true↔Bo x.1 x.2.1)))))))
def Oh:su Q4 Hq:=λx d _=>by
 obtain⟨(m:G9),(n:Int),_⟩:=x;simp only[Hq,J7];refine⟨λ_=>trivial,?_⟩;rintro⟨(r:Bool),_⟩ c;simp only at c|-;by_cases a:m.1=n
 . by_cases b:m.2.1=n
   . rw[(c (by rw[rA a,rA b];rfl)).2,rA a,rA b,g0l,g0l];exact vR.2 ⟨λh=>⟨a,b,h⟩,λh=>h.2.2⟩
   rw[rC b,Bool.and_false,g1b];exact(rC λh=>b h.2.1).symm
 rw[rC a,g1b,g1b];exact(rC λh=>a h.1).symm
def pA {v:List D5} (h:asc v) (g:v≠ []):gx D8 v ((v.length:Int)-1)∈v/\∀x∈v,x.1<=(gx D8 v ((v.length:Int)-1)).1:=by
 have n:0<v.length:=vK.2 g;have a:=H1 (d:=D8) (l:=v) (i:=(v.length:Int)-1) ω ω;refine⟨F4 ω ω,λx j=>?_⟩;obtain⟨k,c,rfl⟩:=vE.1 j;rw[(ω:((v.length:Int)-1).toNat=v.length-1)]at a;have b:v[v.length-1]' ω=gx D8 v ((v.length:Int)-1):=by
  rw[qM ω]at a;exact xQ a
 rw[<-b];by_cases f:k=v.length-1
 . subst f;exact qG _
 exact xR (uH.1 h k (v.length-1) c ω ω)
def A6i {v:List D5} {n:Int} (h:E3 v n) {i:Nat} (u:(i:Int)<n):(v≠ []/\(gx D8 v ((v.length:Int)-1)).1=(i:Int)/\rv (gx D8 v ((v.length:Int)-1)).2=1)↔(∀j:Nat,(j:Int)<n->i<j->A5 v (j:Int)=0)/\A5 v (i:Int)=1:=by
 constructor
 . rintro⟨c,f,a⟩;obtain⟨b,g⟩:=pA h.1 c;refine⟨λj _ w=>D4 λe d t=>?_,?_⟩
   . have:=g e d;omega
   rw[<-f,O0 h.1 b,a]
 rintro⟨f,a⟩;have c:v≠ []:=λe=>by subst e;rw[Rn]at a;exact absurd a δ
 obtain⟨b,g⟩:=pA h.1 c;obtain⟨x,l,z⟩:=DD (show A5 v (i:Int)≠0 from by rw[a];decide);have s:=g x l;obtain⟨o,r,k⟩:=h.2 _ b;have d:(gx D8 v ((v.length:Int)-1)).1=(i:Int):=by
  refine rB λy=>k ?_
  have:=f (gx D8 v ((v.length:Int)-1)).1.toNat ω ω;rw[(ω:(((gx D8 v ((v.length:Int)-1)).1.toNat:Nat):Int)=(gx D8 v ((v.length:Int)-1)).1),O0 h.1 b]at this;exact this
 refine⟨c,d,?_⟩;rw[<-O0 h.1 b,d,a]
def B6q {v:List D5} {n:Int} (h:E3 v n) {i:Nat} :(v≠ []/\(gx D8 v 0).1=(i:Int))↔(∀j:Nat,j<i->A5 v (j:Int)=0)/\A5 v (i:Int)≠0:=by
 cases v with
 |nil=>exact⟨λa=>absurd rfl a.1,λa=>absurd (Rn _) a.2⟩
 |cons e r=>
  have g:gx D8 (e::r) 0=e:=rfl;rw[g];have c:=(h.2 e rD);constructor
  . rintro⟨_,a⟩;exact⟨λj k=>DC h.1 ω,by rw[<-a,N9 h.1];exact c.2.2⟩
  rintro⟨a,d⟩;refine⟨by simp,rB λf=>?_⟩;rcases Int.lt_or_gt_of_ne f with b|b
  . refine c.2.2 ?_;rw[<-N9 h.1];have:=a e.1.toNat ω;rwa[(ω:((e.1.toNat:Nat):Int)=e.1)]at this
  exact d (DC h.1 b)
def pY (L U:G9) (n:Int) (i:Nat):Prop:=(∀j:Nat,(j:Int)<n->i<j->el L i j=0)/\el L i i=1/\(∀j:Nat,j<i->el U i j=0)/\el U i i≠0
def A8z {P Q:Wf} {L U:G9} {n:Int} (d:K7 P n) (f:K7 Q n) (g:sqr L n) (k:sqr U n):Bo (P,Q,L,U) n↔∀i:Nat,(i:Int)<n->pY L U n i:=by
 constructor
 . rintro⟨_,_,_,_,h⟩ i a;exact⟨λj b c=>(h i j a b).1 c,(h i i a a).2.1,λj b=>(h i j a ω).2.2.1 b,(h i i a a).2.2.2⟩
 intro h;exact⟨d,f,g,k,λi j a b=>⟨λc=>(h i a).1 j b c,(h i a).2.1,λb=>(h i a).2.2.1 j b,(h i a).2.2.2⟩⟩
def A5d {p q:Rat} :XA p q=0↔p=q:=by
 unfold XA;by_cases a:p<q
 . rw[qR a];exact⟨λh=>ω,λh=>by subst h;exact absurd a (Rat.lt_irrefl)⟩
 rw[qL a];by_cases b:q<p
 . rw[qR b];exact⟨λh=>ω,λh=>by subst h;exact absurd b (Rat.lt_irrefl)⟩
 rw[qL b];exact⟨λ_=>Rat.le_antisymm (Rat.not_lt.1 b) (Rat.not_lt.1 a),λ_=>rfl⟩
def QC {p:Prop} (h:¬p):(false=true↔p):=⟨λa=>(by cases a),λhp=>absurd hp h⟩
def Tp:su T7 Kb:=λx ar a9=>by
 obtain⟨⟨P,Q,(L:G9),(U:G9)⟩,(n:Int),_⟩:=x;obtain⟨J,V,a7,am⟩:0<=n/\n<=16384/\N4 K1 L/\N4 K1 U:=a9;simp only[Kb,iB,N2,Jp,H3];refine⟨⟨J,V⟩,?_⟩;rintro⟨(af:Bool),_⟩ _ D;simp only at D|-;refine⟨λ_=>⟨J,V⟩,?_⟩;rintro⟨(ag:Bool),_⟩ k;simp only at k|-;by_cases w:K7 P n
 case neg=>
  rw[D,rC w];exact⟨λ_=>QC λh=>w h.1,λh=>by simp at h⟩
 have k:=(k (by rw[D,rA w];rfl)).2;by_cases G:K7 Q n
 case neg=>
  rw[k,rC G];exact⟨λ_=>QC λh=>G h.2.1,λh=>by simp at h⟩
 rw[D,k,rA w,rA G];refine⟨λh=>by simp at h,λ_=>⟨trivial,?_⟩⟩;rintro⟨(ah:Bool),_⟩ _ E;simp only at E|-;refine⟨λ_=>trivial,?_⟩;rintro⟨(ai:Bool),_⟩ l;simp only at l|-;by_cases g:sqr L n
 case neg=>
  rw[E,rC g];exact⟨λ_=>QC λh=>g h.2.2.1,λh=>by simp at h⟩
 have l:=(l (by rw[E,rA g];rfl)).2;by_cases y:sqr U n
 case neg=>
  rw[l,rC y];exact⟨λ_=>QC λh=>y h.2.2.2.1,λh=>by simp at h⟩
 rw[E,l,rA g,rA y];refine⟨λh=>by simp at h,λ_=>⟨trivial,?_⟩⟩;rintro⟨(one:C7),_⟩ _ M;simp only at M|-;have T:=A8z w G g y;obtain⟨ad,ae,Y⟩:=g;obtain⟨aj,ak,a0⟩:=y;have ao:(L.2.2.length:Int)=n:=Y.2.2.2.2.1.trans ad;have aq:(U.2.2.length:Int)=n:=a0.2.2.2.2.1.trans aj;have W:rv one=1:=by rw[M];exact MR 1
 have aa:J8 one:=by rw[M, <-QN];exact Cq (IX δ) δ
 refine⟨λp=>0<=p.1/\p.1<=n/\∀i:Nat,(i:Int)<p.1->pY L U n i,λp=>(n-p.1).toNat,⟨qG _,J,λi R=>ω⟩,?_⟩;rintro⟨(t:Int),_⟩ _ o;simp only at o|-;obtain⟨z,au,o⟩:=o;refine⟨λs=>?_,λs=>?_⟩
 . have s:=qA s;have X:E3 (gx [] L.2.2 t) n:=by have:=Y.2.2.2.2.2 _ (F4 (d:= []) z (ω:t<(L.2.2.length:Int)));rwa[ae]at this
   have ac:E3 (gx [] U.2.2 t) n:=by have:=a0.2.2.2.2.2 _ (F4 (d:= []) z (ω:t<(U.2.2.length:Int)));rwa[ak]at this
   have ab:=a7 _ (F4 (d:= []) z (ω:t<(L.2.2.length:Int)));have O:((t.toNat:Nat):Int)=t:=ω
   have Z:=A6i X (i:=t.toNat) ω;have a1:=B6q ac (i:=t.toNat);rw[O]at Z a1;have F:pY L U n t.toNat↔((∀j:Nat,(j:Int)<n->t.toNat<j->A5 (gx [] L.2.2 t) (j:Int)=0)/\A5 (gx [] L.2.2 t) t=1)/\(∀j:Nat,j<t.toNat->A5 (gx [] U.2.2 t) (j:Int)=0)/\A5 (gx [] U.2.2 t) t≠0:=by
    unfold pY el;rw[O];exact(and_assoc (a:=∀j:Nat,(j:Int)<n->t.toNat<j->A5 (L.2.2.getD t.toNat []) (j:Int)=0)).symm
   rw[<-Z, <-a1]at F;have N:¬pY L U n t.toNat->¬Bo (P,Q,L,U) n:=λh hh=>h (T.1 hh t.toNat ω)
   have c:∀ {v:List D5},((v.length:Int)=0)↔v= []:=λ{v} =>⟨λh=>qN ω,λh=>by rw[h];rfl⟩
   have an:=Eb X;have u:(gx [] L.2.2 t)≠ []->i64.wrap (((gx [] L.2.2 t).length:Int)-1)=((gx [] L.2.2 t).length:Int)-1:=λh=>by
    have:=vK.2 h;exact wv ω
   refine⟨⟨z,ω⟩,⟨z,ω⟩,λh=>?_,λh=>?_,λh=>?_,?_⟩
   . have h:=mt c.2 (qB h);have:=vK.2 h;rw[u h];omega
   . simp only[rE]at h;have h:=mt c.2 (qB h.1);have:=vK.2 h;rw[u h];omega
   . simp only[rE]at h;have h:=mt c.2 (qB h.1);have ap:=vK.2 h;rw[u h];exact⟨N1 (ab _ (F4 ω ω)) δ,aa⟩
   rintro⟨(a2:Int),_⟩ b;simp only at b|-;refine⟨λh=>QC (N λr=>?_),λh=>⟨λf=>⟨qG _,?_⟩,λf=>QC (N λr=>?_),λf=>?_⟩⟩
   . obtain⟨⟨B,I,a6⟩,_⟩:=F.1 r;rw[u B]at b h;have A:decide (((gx [] L.2.2 t).length:Int)=0)=false:=rC (mt c.1 B);have H:decide ((gx D8 (gx [] L.2.2 t) (((gx [] L.2.2 t).length:Int)-1)).1≠t)=false:=rC (by rw[sF];exact I);rw[A,H]at b h;have b:=(b rfl).2;rw[W,a6]at b;rw[b,A5d.2 rfl]at h;simp at h
   . have:=mt c.2 (qB f);have:=vK.2 this;omega
   . obtain⟨_,B,I⟩:=F.1 r;rw[rC (mt c.1 B),rC (by rw[sF];exact I)]at f;simp at f
   simp only[rE]at h f;have A:=mt c.2 (qB h.1.1);rw[u A]at b h;have H:=sF.1 (qB h.1.2);have a3:=sF.1 (qB h.2);have b:=(b (by rw[h.1.1,h.1.2];rfl)).2;rw[a3,W]at b;have a4:=mt c.2 (qB f.1);have a5:=sF.1 (qB f.2);have r:=F.2 ⟨⟨A,H,A5d.1 b.symm⟩,a4,a5⟩;rw[wv ω];refine⟨⟨ω,ω,λi R=>?_⟩,ω⟩;by_cases a8:i=t.toNat
   . subst a8;exact r
   exact o i ω
 have s:=qB s;exact⟨λ_=>T.2 λi R=>o i ω,λ_=>trivial⟩
noncomputable def FX:G1:= [(144,Cn)]
def ER:An:= {loop:= [(3,⟨[1,3,24],[0,1,2,3,4,5,6,7,8,9,10,13],[(25,false,vI)],[],[(11, .nest qe 204 4),(12, .row qb 3)]⟩),(13,⟨[3,5,44,45,46,59,60],[0,1,2,3,4,5,6,7,9,10,12,13],[(61,false,vI)],[],[(11, .nest qe 204 4)]⟩),(9,⟨[3,44,45],[0,1,2,3,4,5,6,7,10,12,13],[(46,false,vI)],[],[(9, .row qd 49),(11, .nest qe 204 4)]⟩)],plan:= [(1,[1,4,7,10],[],true,(.p 0 (.q 1 (.p 3 (.q 4 (.p 6 (.q 7 (.p 9 (.q 10 (.al [2,5,8,11] [12] (.e 13 (.p 14 .done)))))))))))),(11,[3],[8],true, .done),(15,[3,5],[9],false, .done)]}
noncomputable def Vt:G1:= []
def Ud:An:= {plan:= [(1,[0,3,4,7,10],[],false,(.q 0 (.p 1 (.p 2 (.q 3 (.q 4 (.p 5 (.p 6 (.q 7 (.p 8 (.p 9 (.q 10 (.p 11 (.e 12 (.e 13 (.p 14 .done))))))))))))))))]}
noncomputable def Vu:G1:= []
def Ue:An:= {plan:= [(1,[0,3,4,7,10],[],false,(.q 0 (.p 1 (.p 2 (.q 3 (.q 4 (.p 5 (.p 6 (.q 7 (.p 8 (.p 9 (.q 10 (.p 11 (.e 12 (.e 13 (.p 14 .done))))))))))))))))]}
noncomputable def Vv:G1:= []
def Uf:An:= {plan:= [(1,[0,3,4,7,10],[],false,(.q 0 (.p 1 (.p 2 (.q 3 (.q 4 (.p 5 (.p 6 (.q 7 (.p 8 (.p 9 (.q 10 (.p 11 (.e 12 (.e 13 (.p 14 .done))))))))))))))))]}
noncomputable def Vw:G1:= []
def Ug:An:= {plan:= [(1,[0,3,4,7,10],[],false,(.q 0 (.p 1 (.p 2 (.q 3 (.q 4 (.p 5 (.p 6 (.q 7 (.p 8 (.p 9 (.q 10 (.p 11 (.e 12 (.e 13 (.p 14 .done))))))))))))))))]}
noncomputable def FY:G1:= [(183,W1 (Md ⟨prog,US⟩ [(20,Vt,Ud),(23,Vu,Ue),(28,Vv,Uf),(33,Vw,Ug)] f183.results.toList (f183.body.getD .skip) f183.ntmps))]
def ES:An:= {join:= [(8,⟨[1,6,14,15],[1,2,3,4,5,6,7,9,10,13,14,15],[(5,false,vI)],[],[(11, .nest qe 204 4)]⟩),(10,⟨[1,6],[1,2,3,4,5,6,7,9,10,13,14,15],[(5,false,vI)],[],[(11, .nest qe 204 4)]⟩),(14,⟨[1,3],[1,2,3,4,5,6,7,15],[],[(13,176,[.fix 9, .fix 10, .fix 11, .own qb 3])],[(9, .row qd 49),(10, .nest qd 49 105),(11, .nest qe 204 4)]⟩),(20,⟨[3],[1,2,3,4,5,6,7,9,10,13,17],[(2,false,vI)],[],[(11, .nest qe 204 4)]⟩)],loop:= [(4,⟨[1,6,14],[1,2,3,4,5,6,7,9,10,13,14,15],[(5,false,vI),(15,false,vI)],[],[(11, .nest qe 204 4)]⟩),(16,⟨[1,3,66],[1,2,3,4,5,6,7,9,10,11,13,15,17],[(2,false,vI)],[],[(19, .itM false qb false .bool 18)]⟩)],plan:= [(13,[1,4,7,10],[14,17],false, .done),(18,[3,6,9,11,14,17,22,25,28,30,33,36],[],true, .done)],bump:=18}
noncomputable def Vx:G1:= []
def Uh:An:= {loop:= [(1,⟨[0,2,6,7],[1,2,3,4,5,6,7,9,10,13,15,16,17],[(8,false,vI)],[],[(11, .nest qe 204 4)]⟩)],plan:= [(3,[0,3,5],[9],false, .done)]}
noncomputable def Ti:G1:= []
def Rf:An:= {loop:= [(1,⟨[0,2,6,7],[1,2,3,4,5,6,7,9,10,13,15,16,17,18,19],[(8,false,vI)],[],[(11, .nest qe 204 4)]⟩)],plan:= [(3,[0,3,5],[9],false, .done)]}
noncomputable def FZ:G1:= [(63,Au),(110,N7),(123,V7),(185,Ar),(186,Eh),(184,W1 (Md ⟨prog,US⟩ [(29,Vx,Uh),(107,Ti,Rf)] f184.results.toList (f184.body.getD .skip) f184.ntmps))]
def ET:An:= {join:= [(10,⟨[1,3,4,8,9,10],[1,2,3,4,5,6,7,9,10,13,15,16,17,18],[(12,false,[.own qb 3])],[],[(11, .nest qe 204 4)]⟩),(14,⟨[1,3,4,8,9,10,15,53,54,55],[1,2,3,4,5,6,7,9,10,11,13,15,16,17,18,19],[(16,false,[.fixB 20])],[(20,58,[.val .bool, .val qa, .val qa])],[]⟩),(15,⟨[1,3,4,8,9,10,15,16,53,54,55],[1,2,3,4,5,6,7,9,11,13,15,16,17,18,19,20],[],[],[(10, .nest qd 49 105)]⟩)],loop:= [(7,⟨[1,3,4,8,9,10,44],[1,2,3,4,5,6,7,9,10,11,13,15,16,17,18],[(12,false,[.own qb 3])],[],[(20, .itM false qb false .bool 19)]⟩),(18,⟨[1,3,4,8,9,10,15,53,54,55,114,115],[1,2,3,4,5,6,7,9,10,13,15,16,17,18,19],[(116,false,vI)],[],[(11, .nest qe 204 4)]⟩),(11,⟨[1,3,4,8,9,10,53,54],[1,2,3,4,5,6,7,13,15,16,17,18,19],[(55,false,vI)],[],[(9, .row qd 49),(10, .nest qd 49 105),(11, .nest qe 204 4)]⟩)],plan:= [(13,[0,3,6,9],[12],true, .done),(14,[5,8,13],[16,18],false, .done),(15,[0,3,5,8,11,12,14],[17],true, .done),(20,[0,3,5],[9],false, .done)]}
def Re:An:= {join:= [(13,⟨[2,5,6,7,8,45,46],[1,2,3,4,5,6,7],[(9,false,vI),(10,false,vI),(11,false,[.val .bool])],[(13,176,[.fix 9, .fix 10, .fix 11, .own qb 3])],[(9, .row qd 49),(10, .nest qd 49 105),(11, .nest qe 204 4)]⟩),(16,⟨[2,5,6,7,8,9,10,45,46],[1,4,5,6,9,10,11,13,15],[],[],[(2, .row qb 3),(3, .row qb 3),(7, .row qb 3)]⟩),(22,⟨[2,5,6,7,12,13,79,80,81],[1,2,3,5,6,9,11,13,14],[],[],[(4, .row qd 49),(10, .nest qd 49 105)]⟩)],loop:= [(10,⟨[2,5,6,7,45],[1,4,5,6],[(46,false,vI)],[(13,176,[.fix 9, .fix 10, .fix 11, .own qb 3])],[(2, .row qb 3),(3, .row qb 3),(7, .row qb 3),(9, .row qd 49),(10, .nest qd 49 105),(11, .nest qe 204 4)]⟩),(19,⟨[2,5,7,79,80],[1,2,3,6,9,11,13,14],[(6,false,[.val qf]),(81,false,vI)],[],[(4, .row qd 49),(5, .row qd 49),(10, .nest qd 49 105)]⟩)],plan:= [(6,[],[16],true,(.p 0 (.p 2 (pZ9 4 3 (pZ9 9 3 (.al [1,3,7,12,15] [8,13,14] (.e 16 .done))))))),(15,[1],[12,14,16],false, .done),(21,[7],[15,17],false, .done),(22,[2,7,10],[17],true, .done)]}
noncomputable def Tg:G1:= [(52,K2),(58,N6),(143,U8),(140,W1 (Md ⟨prog,US⟩ [(44,FX,ER)] f140.results.toList (f140.body.getD .skip) f140.ntmps)),(141,W1 (Md ⟨prog,US⟩ [(51,FY,ES)] f141.results.toList (f141.body.getD .skip) f141.ntmps)),(142,W1 (Md ⟨prog,US⟩ [(76,FZ,ET)] f142.results.toList (f142.body.getD .skip) f142.ntmps))]
abbrev C6v:=(List (List EE)×List Nat)×Unit
abbrev C7g:=Int×(List (Int×Bool)×List (Int×Bool))×Unit
abbrev C7h:=Int×(List (List (Int×Bool))×List Nat)×Wf×Unit
abbrev NC:=Int×(List (List (Int×Bool))×List Nat)×Unit
abbrev C7i:=Int×Int×(List (List (Int×Bool))×List Nat)×Unit
abbrev C7j:=Int×Int×Bool×Wf×List (List EE)×(List (List EE)×List Nat)×(List (List (Int×Bool))×List Nat)×Unit
abbrev C7n:=Int×List (List EE)×(List (List (Int×Bool))×List Nat)×Unit
abbrev C7o:=Int×List (List EE)×(List (List EE)×List Nat)×(List (List (Int×Bool))×List Nat)×Unit
abbrev C7p:=Int×Wf×Wf×Wf×Wf×List (List EE)×(List (List EE)×List Nat)×(List (List (Int×Bool))×List Nat)×Unit
abbrev C7t:=List (List EE)×(List (List EE)×List Nat)×Unit
abbrev C7y:=Wf×(List (Int×Bool)×List (Int×Bool))×Unit
abbrev C7z:=Wf×(List (List (Int×Bool))×List Nat)×Unit
abbrev C8c:=Wf×Int×List (List EE)×List (List EE)×(List (List EE)×List Nat)×Unit
abbrev C8e:=Wf×List (List EE)×(List (List EE)×List Nat)×(List (List (Int×Bool))×List Nat)×Unit
abbrev C8g:=Wf×Wf×Wf×Unit
def Jb(x:Cg):Prop:=let b5:=(281474976710656:Int);let bd:=x.1.2.1.toNat;let a6:=(6:Int);let a5:=(4:Int);let b1:=(9223372036854775807:Int);let ad:=(140737488355328:Nat);let a7:=x.1.1.toNat;let f:=(1:Int);let U:=(0:Int);let bw:Prop:=(U<=x.1.2.1/\x.1.2.1<=x.1.2.1/\(↑(8:Nat):Int)*x.1.2.1<=b5/\x.1.2.1<=b1);let ac:Prop:=(∀(v:List EE),v∈ []->V2 v);let ba:(Nat)->(Nat)->Prop:=(λi k=>i<x.1.1.toNat->k<x.1.1.toNat->luM ([],[],(U,U,[]),U,U,[]) x.1.1.toNat i k=el x.1 (ix [] i) (ix [] k));let m:Prop:=(U<=x.1.1/\x.1.1<=x.1.1/\(↑(8:Nat):Int)*x.1.1<=b5/\x.1.1<=b1);let b8:Prop:=(∀(T:Nat),(1:Nat)<=T->cR x.1.1.toNat x.1.1.toNat (el x.1) T->∀(i k:Nat),i<x.1.1.toNat->qs (T+T) (el (U,U,[]) i k)/\qs (T+T) (el (U,U,[]) i k));let e:Prop:=(U<=x.1.1/\x.1.1<=x.1.1/\(↑(24:Nat):Int)*x.1.1<=b5/\x.1.1<=b1);True/\∀(r:W4),True/\True->r.1=decide (A4 x.1)->((!r.1)=true->(¬A4 x.1->([],[],(U,U,[]),U,U,[])=lY/\f=f)/\(A4 x.1->(x.1.1≠x.1.2.1->([],[],(U,U,[]),U,U,[])=lY/\f=a5)/\(x.1.1=x.1.2.1->(¬nonsing x.1.1.toNat (el x.1)->([],[],(U,U,[]),U,U,[])=lY/\f=a6)/\(nonsing x.1.1.toNat (el x.1)->Bo ([],[],(U,U,[]),U,U,[]) x.1.1/\f=U/\ac/\ac/\b8/\∀(i k:Nat),ba i k))))/\((!r.1)=false->(decide (x.1.1≠x.1.2.1)=true->(¬A4 x.1->([],[],(U,U,[]),U,U,[])=lY/\a5=f)/\(A4 x.1->(x.1.1≠x.1.2.1->([],[],(U,U,[]),U,U,[])=lY/\a5=a5)/\(x.1.1=x.1.2.1->(¬nonsing x.1.1.toNat (el x.1)->([],[],(U,U,[]),U,U,[])=lY/\a5=a6)/\(nonsing x.1.1.toNat (el x.1)->Bo ([],[],(U,U,[]),U,U,[]) x.1.1/\a5=U/\ac/\ac/\b8/\∀(i k:Nat),ba i k))))/\(decide (x.1.1≠x.1.2.1)=false->m/\m/\e/\e/\m/\e/\e/\bw/\bw/\∃(I:C7h->Prop),∃(j: _->Nat),I (U,(List.replicate bd [],Ql (Ty.mp false (Ty.int i64) false Ty.bool) bd),List.replicate bd U,())/\∀(p:C7h),let ab:=p.1.toNat;(Ty.int i64).wf p.1/\p.2.1.1.length.le 9223372036854775807/\WA p.2.2.1/\True->I p->(decide (p.1<x.1.2.1)=true->(U<=p.1/\p.1<(↑p.2.1.1.length:Int))/\(U<=p.1/\p.1<(p.2.2.1.length:Int))/\I (i64.wrap (p.1+f),(p.2.1.1.set ab [],RB ab p.2.1.2),List.set p.2.2.1 ab p.1,())/\j (i64.wrap (p.1+f),(p.2.1.1.set ab [],RB ab p.2.1.2),List.set p.2.2.1 ab p.1,())<j p)/\(decide (p.1<x.1.2.1)=false->∃(I:C7n->Prop),∃(j: _->Nat),I (U,List.replicate a7 [],p.2.1,())/\∀(l:C7n),let ao:=(gx [] x.1.2.2 l.1);let K:Prop:=(l.1<(x.1.2.2.length:Int));(Ty.int i64).wf l.1/\Oa l.2.1/\l.2.2.1.1.length.le 9223372036854775807/\True->I l->(decide K=true->(U<=l.1/\K)/\Kn ao/\∀(r:Qs),KN r.1/\True->KH (A5 ao) r.1->(U<=l.1/\l.1<(l.2.1.length:Int))/\∃(I_1:NC->Prop),∃(ag: _->Nat),I_1 (U,l.2.2.1,())/\∀(p:NC),let bk:=(i64.wrap (l.1+f),List.set l.2.1 l.1.toNat r.1,p.2.1,());let ak:=(gx D8 ao p.1);let ai:=ak.1.toNat;let G:Prop:=(p.1<(↑ao.length:Int));(Ty.int i64).wf p.1/\p.2.1.1.length.le 9223372036854775807/\True->I_1 p->(decide G=true->(U<=p.1/\G)/\(U<=ak.1/\ak.1<(↑p.2.1.1.length:Int))/\¬Int.toNat ak.1∈p.2.1.2/\I_1 (i64.wrap (p.1+f),(p.2.1.1.set ai (Ev (Ty.int i64) l.1 true (p.2.1.1.getD ai [])),p.2.1.2),())/\ag (i64.wrap (p.1+f),(p.2.1.1.set ai (Ev (Ty.int i64) l.1 true (p.2.1.1.getD ai [])),p.2.1.2),())<ag p)/\(decide G=false->I bk/\j bk<j l))/\(decide K=false->∃(I:C7p->Prop),∃(j: _->Nat),I (U,p.2.2.1,List.replicate a7 U,List.replicate a7 U,List.replicate a7 U,l.2.1,(List.replicate a7 [],Ql tE.sl a7),l.2.2.1,())/\∀(b:C7p),let bn:=(b.2.2.1.length:Int);let z:=(↑b.2.1.length:Int);(Ty.int i64).wf b.1/\(Ty.int i64).sl.wf b.2.1/\WA b.2.2.1/\WA b.2.2.2.1/\WA b.2.2.2.2.1/\Oa b.2.2.2.2.2.1/\b.2.2.2.2.2.2.1.1.length.le 9223372036854775807/\b.2.2.2.2.2.2.2.1.1.length.le 9223372036854775807/\True->I b->(decide (b.1<x.1.1)=true->∃(J:C7j->Prop),(∃(J_1:NC->Prop),(∃(I:C7i->Prop),∃(j: _->Nat),I (U,U,b.2.2.2.2.2.2.2.1,())/\∀(a:C7i),let bp:=(↑a.2.2.1.1.length:Int);let a3:=a.1.toNat;let t:=a.2.1.toNat;let M:Prop:=(a.2.1<z);let bv:Prop:=((↑(a.2.2.1.1.getD (b.2.1.getD t U).toNat []).length:Int)<(↑((a.2.2.1.1.set (b.2.1.getD t U).toNat (a.2.2.1.1.getD (b.2.1.getD t U).toNat [])).getD (b.2.1.getD a3 U).toNat []).length:Int));(Ty.int i64).wf a.1/\(Ty.int i64).wf a.2.1/\a.2.2.1.1.length.le 9223372036854775807/\True->I a->(decide M=true->∃(J:NC->Prop),((U<=a.2.1/\M)/\(U<=b.2.1.getD t U/\b.2.1.getD t U<bp)/\¬(b.2.1.getD t U).toNat∈a.2.2.1.2/\(a.2.2.1.1.getD (b.2.1.getD t U).toNat []).length<=9223372036854775807/\(U<=a.1/\a.1<z)/\(U<=b.2.1.getD a3 U/\b.2.1.getD a3 U<bp)/\¬(b.2.1.getD a3 U).toNat∈a.2.2.1.2/\((a.2.2.1.1.set (b.2.1.getD t U).toNat (a.2.2.1.1.getD (b.2.1.getD t U).toNat [])).getD (b.2.1.getD a3 U).toNat []).length<=9223372036854775807/\(decide bv=true->J (a.2.1,((a.2.2.1.1.set (b.2.1.getD t U).toNat (a.2.2.1.1.getD (b.2.1.getD t U).toNat [])).set (b.2.1.getD a3 U).toNat ((a.2.2.1.1.set (b.2.1.getD t U).toNat (a.2.2.1.1.getD (b.2.1.getD t U).toNat [])).getD (b.2.1.getD a3 U).toNat []),a.2.2.1.2),()))/\(decide bv=false->J (a.1,((a.2.2.1.1.set (b.2.1.getD t U).toNat (a.2.2.1.1.getD (b.2.1.getD t U).toNat [])).set (b.2.1.getD a3 U).toNat ((a.2.2.1.1.set (b.2.1.getD t U).toNat (a.2.2.1.1.getD (b.2.1.getD t U).toNat [])).getD (b.2.1.getD a3 U).toNat []),a.2.2.1.2),())))/\∀(c:NC),let a0:=c.1.toNat;let E:Prop:=((↑(c.2.1.1.getD (b.2.1.getD a0 U).toNat []).length:Int)<=f);(Ty.int i64).wf c.1/\c.2.1.1.length.le 9223372036854775807/\True->J c->(U<=c.1/\c.1<z)/\(U<=b.2.1.getD a0 U/\b.2.1.getD a0 U<(↑c.2.1.1.length:Int))/\¬(b.2.1.getD a0 U).toNat∈c.2.1.2/\(c.2.1.1.getD (b.2.1.getD a0 U).toNat []).length<=9223372036854775807/\(decide E=true->J_1 (c.1,(c.2.1.1.set (b.2.1.getD a0 U).toNat (c.2.1.1.getD (b.2.1.getD a0 U).toNat []),c.2.1.2),()))/\(decide E=false->I (c.1,i64.wrap (a.2.1+f),(c.2.1.1.set (b.2.1.getD a0 U).toNat (c.2.1.1.getD (b.2.1.getD a0 U).toNat []),c.2.1.2),())/\j (c.1,i64.wrap (a.2.1+f),(c.2.1.1.set (b.2.1.getD a0 U).toNat (c.2.1.1.getD (b.2.1.getD a0 U).toNat []),c.2.1.2),())<j a))/\(decide M=false->J_1 (a.1,a.2.2.1,())))/\∀(a:NC),let az:=(i64.wrap (a.1+f));let n:=a.1.toNat;let R:Prop:=(U<=a.1/\a.1<z);let F:Prop:=((↑(a.2.1.1.getD (b.2.1.getD n U).toNat []).length:Int)=U);(Ty.int i64).wf a.1/\a.2.1.1.length.le 9223372036854775807/\True->J_1 a->R/\(U<=b.2.1.getD n U/\b.2.1.getD n U<(↑a.2.1.1.length:Int))/\¬(b.2.1.getD n U).toNat∈a.2.1.2/\(a.2.1.1.getD (b.2.1.getD n U).toNat []).length<=9223372036854775807/\(decide F=true->J (U,U,false,b.2.1,b.2.2.2.2.2.1,b.2.2.2.2.2.2.1,(a.2.1.1.set (b.2.1.getD n U).toNat (a.2.1.1.getD (b.2.1.getD n U).toNat []),a.2.1.2),()))/\(decide F=false->R/\∃(J_2:C8e->Prop),let bt:Prop:=(((Int.toNat a.1+(List.drop az.toNat (List.take z.toNat b.2.1)).length)*(8:Nat)<=ad/\Int.toNat a.1+(List.drop az.toNat (List.take z.toNat b.2.1)).length<=9223372036854775807)/\J_2 (List.take n b.2.1++List.drop az.toNat (List.take z.toNat b.2.1),b.2.2.2.2.2.1,b.2.2.2.2.2.2.1,(a.2.1.1.set (b.2.1.getD n U).toNat (a.2.1.1.getD (b.2.1.getD n U).toNat []),a.2.1.2),()));((U<=U/\U<=a.1/\a.1<=z)/\(U<=i64.wrap (a.1+f)/\i64.wrap (a.1+f)<=z/\z<=z)/\bt/\bt)/\∀(c:C8e),let bq:=(c.2.1.length:Int);(Ty.int i64).sl.wf c.1/\Oa c.2.1/\c.2.2.1.1.length.le 9223372036854775807/\c.2.2.2.1.1.length.le 9223372036854775807/\True->J_2 c->∃(J_3:NC->Prop),((U<=b.2.1.getD n U/\b.2.1.getD n U<(↑c.2.2.2.1.1.length:Int))/\¬(b.2.1.getD n U).toNat∈c.2.2.2.1.2/\∃(I:C7g->Prop),∃(j: _->Nat),I ((-1:Int),(c.2.2.2.1.1.getD (b.2.1.getD n U).toNat [],c.2.2.2.1.1.getD (b.2.1.getD n U).toNat []),())/\∀(d:C7g),let ah:=(decide (d.1<U));let bf:=(↑(List.getD c.2.1 d.1.toNat []).length:Int);let O:Prop:=(U<=d.1/\d.1<bq);(Ty.int i64).wf d.1/\(∀(x:Int×Bool),x∈d.2.1.2->O5 x.1/\True)/\True->I d->(d.2.1.2= []->(false=true->False)/\(false=false->J_3 (d.1,(c.2.2.2.1.1.set (b.2.1.getD n U).toNat d.2.1.1,c.2.2.2.1.2),())))/\∀(ae:List (Int×Bool)) (y:Int×Bool) (af:List (Int×Bool)),let bg:=(↑(List.getD c.2.1 y.1.toNat []).length:Int);let ap:=(d.2.1.1,ae++af);let Q:Prop:=(U<=y.1/\y.1<bq);let D:Prop:=(bg=bf);let bl:=(L5 (decide D) (decide (y.1<d.1)) false);let bz:Prop:=(bg<bf);let av:=(decide bz);d.2.1.2=ae++y::af->(true=true->(decide (d.1<U)=false->Q)/\(decide (d.1<U)=false->O)/\(L5 ah true av=false->Q)/\(L5 ah true av=false->O)/\(L5 (L5 ah true av) true bl=true->I (y.1,ap,())/\j (y.1,ap,())<j d)/\(L5 (L5 ah true av) true bl=false->I (d.1,ap,())/\j (d.1,ap,())<j d))/\(true=false->J_3 (d.1,(c.2.2.2.1.1,(b.2.1.getD n U).toNat::c.2.2.2.1.2),())))/\∀(p:NC),(Ty.int i64).wf p.1/\p.2.1.1.length.le 9223372036854775807/\True->J_3 p->J (p.1,b.2.1.getD n U,true,c.1,c.2.1,c.2.2.1,p.2.1,())))/\∀(a:C7j),let aq:=a.2.1.toNat;let V:=(List.getD a.2.2.2.2.1 a.1.toNat []);(Ty.int i64).wf a.1/\(Ty.int i64).wf a.2.1/\Ty.bool.wf a.2.2.1/\(Ty.int i64).sl.wf a.2.2.2.1/\Oa a.2.2.2.2.1/\a.2.2.2.2.2.1.1.length.le 9223372036854775807/\a.2.2.2.2.2.2.1.1.length.le 9223372036854775807/\True->J a->((!a.2.2.1)=true->(¬A4 x.1->([],[],(U,U,[]),U,U,[])=lY/\a6=f)/\(A4 x.1->(x.1.1≠x.1.2.1->([],[],(U,U,[]),U,U,[])=lY/\a6=a5)/\(x.1.1=x.1.2.1->(¬nonsing x.1.1.toNat (el x.1)->([],[],(U,U,[]),U,U,[])=lY/\a6=a6)/\(nonsing x.1.1.toNat (el x.1)->Bo ([],[],(U,U,[]),U,U,[]) x.1.1/\a6=U/\ac/\ac/\b8/\∀(i k:Nat),ba i k))))/\((!a.2.2.1)=false->∃(J:C8g->Prop),let bu:Prop:=((U<=b.1/\b.1<(b.2.2.2.1.length:Int))/\(U<=a.2.1/\a.2.1<(b.2.2.2.2.1.length:Int))/\J (List.set b.2.2.1 b.1.toNat a.1,List.set b.2.2.2.1 b.1.toNat a.2.1,List.set b.2.2.2.2.1 aq b.1,()));((U<=b.1/\b.1<bn)/\bu/\bu)/\∀(c:C8g),WA c.1/\WA c.2.1/\WA c.2.2.1/\True->J c->(U<=a.1/\a.1<(a.2.2.2.2.1.length:Int))/\∃(I_1:NC->Prop),∃(ag: _->Nat),I_1 (U,a.2.2.2.2.2.2.1,())/\∀(d:NC),let bs:=(↑d.2.1.1.length:Int);let an:=(gx D8 V d.1);let aj:=an.1.toNat;let B:Prop:=(d.1<(↑V.length:Int));(Ty.int i64).wf d.1/\d.2.1.1.length.le 9223372036854775807/\True->I_1 d->(decide B=true->(U<=d.1/\B)/\(U<=an.1/\an.1<bs)/\¬Int.toNat an.1∈d.2.1.2/\I_1 (i64.wrap (d.1+f),(d.2.1.1.set aj (Qj (Ty.int i64) a.1 (d.2.1.1.getD aj [])),d.2.1.2),())/\ag (i64.wrap (d.1+f),(d.2.1.1.set aj (Qj (Ty.int i64) a.1 (d.2.1.1.getD aj [])),d.2.1.2),())<ag d)/\(decide B=false->ED K1 V/\∀(a1:C8),RR a1.1/\True->a1.1=rc (A5 V a.2.1)->J8 a1.1/\∀(a9:iC),RR a9.1/\True/\True->(rv a1.1=(0:Rat)->a9.2.1=false)/\(rv a1.1≠(0:Rat)->a9.1=rc (rv a1.1)⁻¹/\a9.2.1=true)->∃(J:C7z->Prop),((U<=a.2.1/\a.2.1<bs)/\¬Int.toNat a.2.1∈d.2.1.2/\∃(I:C7y->Prop),∃(j: _->Nat),I ([],(d.2.1.1.getD aq [],d.2.1.1.getD aq []),())/\∀(p:C7y),(Ty.int i64).sl.wf p.1/\(∀(x:Int×Bool),x∈p.2.1.2->O5 x.1/\True)/\True->I p->(p.2.1.2= []->(false=true->False)/\(false=false->J (p.1,(d.2.1.1.set aq p.2.1.1,d.2.1.2),())))/\∀(ae:List (Int×Bool)) (y:Int×Bool) (af:List (Int×Bool)),let bm:=(p.1++ [y.1],(p.2.1.1,ae++af),());p.2.1.2=ae++y::af->(true=true->((p.1.length+ [y.1].length)*(8:Nat)<=ad/\p.1.length+ [y.1].length<=9223372036854775807)/\I bm/\j bm<j p)/\(true=false->J (p.1,(d.2.1.1,Int.toNat a.2.1::d.2.1.2),())))/\∀(g:C7z),(Ty.int i64).sl.wf g.1/\g.2.1.1.length.le 9223372036854775807/\True->J g->∃(I_2:C7o->Prop),∃(bx: _->Nat),I_2 (U,a.2.2.2.2.1,a.2.2.2.2.2.1,g.2.1,())/\∀(h:C7o),let bh:=(i64.wrap (b.1+f),a.2.2.2.1,c.1,c.2.1,c.2.2.1,h.2.1,h.2.2.1,h.2.2.2.1,());let Y:=h.1.toNat;let aa:=(List.getD h.2.1 (g.1.getD Y U).toNat []);let P:Prop:=(h.1<(↑g.1.length:Int));let C:Prop:=(U<=g.1.getD Y U/\g.1.getD Y U<(↑h.2.2.1.1.length:Int));let q:Prop:=(U<=g.1.getD Y U/\g.1.getD Y U<(h.2.1.length:Int));(Ty.int i64).wf h.1/\Oa h.2.1/\h.2.2.1.1.length.le 9223372036854775807/\h.2.2.2.1.1.length.le 9223372036854775807/\True->I_2 h->(decide P=true->(U<=h.1/\P)/\∃(J:B0g->Prop),let A:(C8)->(C8)->Prop:=(λr w=>RR w.1/\True->w.1=rc (rv r.1*rv a9.1)->J (w.1.1.1,w.1.1.2,w.1.2,()));let S:(C8)->Prop:=(λr=>(J8 r.1/\J8 a9.1)/\∀(w:C8),A r w);(q/\(ED K1 aa/\∀(r:C8),RR r.1/\True->r.1=rc (A5 aa a.2.1)->(S r)/\(J8 r.1/\J8 a9.1)/\∀(w:C8),A r w)/\ED K1 aa/\∀(r:C8),RR r.1/\True->r.1=rc (A5 aa a.2.1)->S r)/\∀(a4:B0g),let b6:=(a4.1,a4.2.1);let b3:=(b.1,b6,a4.2.2.1);Ty.bool.wf a4.1/\(Ty.int u32).sl.wf a4.2.1/\(Ty.int u32).sl.wf a4.2.2.1/\True->J a4->∃(J:C6v->Prop),let u:Prop:=((((h.2.2.1.1.getD (g.1.getD Y U).toNat []).length+ [b3].length)*(64:Nat)<=ad/\(h.2.2.1.1.getD (g.1.getD Y U).toNat []).length+ [b3].length<=9223372036854775807)/\C/\(g.1.getD Y U).toNat=(g.1.getD Y U).toNat/\J ((h.2.2.1.1.set (g.1.getD Y U).toNat (h.2.2.1.1.getD (g.1.getD Y U).toNat []++ [b3]),h.2.2.1.2),()));let bc:Prop:=(¬(g.1.getD Y U).toNat∈h.2.2.1.2/\u);let L:Prop:=(bc/\¬(g.1.getD Y U).toNat∈h.2.2.1.2/\u/\u);(C/\((bc/\bc)/\(¬(g.1.getD Y U).toNat∈h.2.2.1.2/\u/\u/\u)/\L)/\(¬(g.1.getD Y U).toNat∈h.2.2.1.2/\(u/\u/\u)/\(u/\u)/\u)/\L/\¬(g.1.getD Y U).toNat∈h.2.2.1.2/\(u/\u)/\u)/\∀(bb:C6v),bb.1.1.length.le 9223372036854775807/\True->J bb->q/\J8 (b6,a4.2.2.1)/\∀(w:C8),RR w.1/\True->w.1=rc (-rv (b6,a4.2.2.1))->(ED K1 aa/\sz K1 w.1/\ED K1 V)/\∀(ax:Qs),let b2:=(List.set h.2.1 (g.1.getD Y U).toNat ax.1);KN ax.1/\True->KH (fun(i:Int)=>A5 aa i+rv w.1*A5 V i) ax.1->q/\∃(I:NC->Prop),∃(j: _->Nat),I (U,h.2.2.2.1,())/\∀(o:NC),let am:=(gx D8 V o.1);let ar:=am.1.toNat;let be:Prop:=(o.1<(↑V.length:Int));(Ty.int i64).wf o.1/\o.2.1.1.length.le 9223372036854775807/\True->I o->(decide be=true->(U<=o.1/\be)/\(U<=am.1/\am.1<(↑o.2.1.1.length:Int))/\¬Int.toNat am.1∈o.2.1.2/\I (i64.wrap (o.1+f),(o.2.1.1.set ar (Qj (Ty.int i64) (g.1.getD Y U) (o.2.1.1.getD ar [])),o.2.1.2),())/\j (i64.wrap (o.1+f),(o.2.1.1.set ar (Qj (Ty.int i64) (g.1.getD Y U) (o.2.1.1.getD ar [])),o.2.1.2),())<j o)/\(decide be=false->(U<=g.1.getD Y U/\g.1.getD Y U<(↑b2.length:Int))/\∃(I:NC->Prop),∃(j: _->Nat),I (U,o.2.1,())/\∀(s:NC),let al:=(i64.wrap (h.1+f),List.set h.2.1 (g.1.getD Y U).toNat ax.1,bb.1,s.2.1,());let X:=(gx D8 (b2.getD (g.1.getD Y U).toNat []) s.1);let au:=X.1.toNat;let b9:Prop:=(s.1<(↑(b2.getD (g.1.getD Y U).toNat []).length:Int));(Ty.int i64).wf s.1/\s.2.1.1.length.le 9223372036854775807/\True->I s->(decide b9=true->(U<=s.1/\b9)/\(U<=X.1/\X.1<(↑s.2.1.1.length:Int))/\¬Int.toNat X.1∈s.2.1.2/\I (i64.wrap (s.1+f),(s.2.1.1.set au (Ev (Ty.int i64) (g.1.getD Y U) true (s.2.1.1.getD au [])),s.2.1.2),())/\j (i64.wrap (s.1+f),(s.2.1.1.set au (Ev (Ty.int i64) (g.1.getD Y U) true (s.2.1.1.getD au [])),s.2.1.2),())<j s)/\(decide b9=false->I_2 al/\bx al<bx h)))/\(decide P=false->I bh/\j bh<j b))))/\(decide (b.1<x.1.1)=false->∃(I:C8c->Prop),∃(j: _->Nat),I (b.2.2.2.2.1,U,List.replicate a7 [],List.replicate a7 [],b.2.2.2.2.2.2.1,())/\∀(a:C8c),let bo:=(x.1.1,x.1.1,a.2.2.1);let b0:=(a.1.length:Int);let a2:=a.2.1.toNat;let Z:=(b.2.2.1,b.2.2.2.1,bo,x.1.1,x.1.1,a.2.2.2.1);let W:=(List.getD b.2.2.1 a2 U);let b4:=(List.getD b.2.2.2.2.2.1 W.toNat []);let H:Prop:=(a.2.1<bn);let ay:Prop:=(U<=a.2.1/\a.2.1<(a.2.2.1.length:Int));let b7:(C8)->Prop:=(λr=>((a.2.2.2.2.1.1.getD W.toNat []).length+ [(a.2.1,r.1)].length)*(64:Nat)<=ad/\(a.2.2.2.2.1.1.getD W.toNat []).length+ [(a.2.1,r.1)].length<=9223372036854775807);(Ty.int i64).sl.wf a.1/\(Ty.int i64).wf a.2.1/\Oa a.2.2.1/\Oa a.2.2.2.1/\a.2.2.2.2.1.1.length.le 9223372036854775807/\True->I a->(decide H=true->(U<=a.2.1/\H)/\∃(J:C7t->Prop),let a8:(C8)->Prop:=(λr=>let bj:=(a.2.1,r.1);(((a.2.2.2.2.1.1.getD W.toNat []).length+ [bj].length)*(64:Nat)<=ad/\(a.2.2.2.2.1.1.getD W.toNat []).length+ [bj].length<=9223372036854775807)/\ay/\J (List.set a.2.2.1 a2 (a.2.2.2.2.1.1.getD W.toNat []++ [bj]),(a.2.2.2.2.1.1,W.toNat::a.2.2.2.2.1.2),()));let N:Prop:=(True/\∀(r:C8),RR r.1/\True->r.1=ri f->a8 r);let aw:(C8)->Prop:=(λr=>¬W.toNat∈a.2.2.2.2.1.2/\a8 r);((U<=List.getD b.2.2.1 a2 U/\List.getD b.2.2.1 a2 U<(↑a.2.2.2.2.1.1.length:Int))/\((¬W.toNat∈a.2.2.2.2.1.2/\N)/\True/\∀(r:C8),RR r.1/\True->r.1=ri f->(aw r)/\¬W.toNat∈a.2.2.2.2.1.2/\(b7 r)/\ay/\J (List.set a.2.2.1 a2 (a.2.2.2.2.1.1.getD W.toNat []++ [(a.2.1,r.1)]),(a.2.2.2.2.1.1,W.toNat::a.2.2.2.2.1.2),()))/\(¬W.toNat∈a.2.2.2.2.1.2/\N/\True/\∀(r:C8),RR r.1/\True->r.1=ri f->(a8 r)/\(a8 r)/\(b7 r)/\ay/\J (List.set a.2.2.1 a2 (a.2.2.2.2.1.1.getD W.toNat []++ [(a.2.1,r.1)]),(a.2.2.2.2.1.1,W.toNat::a.2.2.2.2.1.2),()))/\True/\∀(r:C8),RR r.1/\True->r.1=ri f->((aw r)/\aw r)/\(¬W.toNat∈a.2.2.2.2.1.2/\(a8 r)/\(a8 r)/\a8 r)/\(aw r)/\¬W.toNat∈a.2.2.2.2.1.2/\(a8 r)/\(b7 r)/\ay/\J (List.set a.2.2.1 a2 (a.2.2.2.2.1.1.getD W.toNat []++ [(a.2.1,r.1)]),(a.2.2.2.2.1.1,W.toNat::a.2.2.2.2.1.2),()))/\∀(c:C7t),Oa c.1/\c.2.1.1.length.le 9223372036854775807/\True->J c->(U<=List.getD b.2.2.1 a2 U/\List.getD b.2.2.1 a2 U<(b.2.2.2.2.2.1.length:Int))/\(ED K1 b4/\List.length a.1<=100000)/\∀(a1:List EE×Bool×Unit),let bi:=(a.1,i64.wrap (a.2.1+f),c.1,List.set a.2.2.2.1 a2 a1.1,c.2.1,());KN a1.1/\True/\True->(K7 a.1 b0->(∀(k:Int),A5 b4 k≠(0:Rat)->U<=k/\k<b0)->KH (fun(i:Int)=>if U<=i/\i<b0 then A5 b4 (↑(List.idxOf i a.1):Int)else(0:Rat)) a1.1/\a1.2.1=true)->(U<=a.2.1/\a.2.1<(a.2.2.2.1.length:Int))/\I bi/\j bi<j a)/\(decide H=false->(¬A4 x.1->Z=lY/\U=f)/\(A4 x.1->(x.1.1≠x.1.2.1->Z=lY/\U=a5)/\(x.1.1=x.1.2.1->(¬nonsing x.1.1.toNat (el x.1)->Z=lY/\U=a6)/\(nonsing x.1.1.toNat (el x.1)->Bo Z x.1.1/\U=U/\(∀(v:List EE),v∈a.2.2.1->V2 v)/\(∀(v:List EE),v∈a.2.2.2.1->V2 v)/\(∀(T:Nat),(1:Nat)<=T->cR x.1.1.toNat x.1.1.toNat (el x.1) T->∀(i k:Nat),i<x.1.1.toNat->qs (T+T) (el bo i k)/\qs (T+T) (el (x.1.1,x.1.1,a.2.2.2.1) i k))/\∀(i k:Nat),i<x.1.1.toNat->k<x.1.1.toNat->luM Z x.1.1.toNat i k=el x.1 (ix b.2.2.1 i) (ix b.2.2.2.1 k))))))))))
def GG (x:A3 P7.args):C4h prog US Tg Re P7 f103 x=Jb x:=by kernel_rfl
def C9a (n:Nat) (M:G9) (b:Wf) (rows c:List (List D5)) (a:List T4) (q:Int×Int×Bool×Wf×List (List D5)×NR×NB×Unit):Prop:=q.2.2.2.2.1=rows/\q.2.2.2.2.2.1.1=c/\lW n q.2.2.2.2.2.1.2/\q.2.2.2.2.2.2.1.1=a/\lW n q.2.2.2.2.2.2.1.2/\(q.2.2.1=false->¬nonsing n (el M))/\(q.2.2.1=true->q.2.1∈b/\q.1∈S5 (a.getD q.2.1.toNat [])/\q.2.2.2.1.Nodup/\∀x,x∈q.2.2.2.1↔x∈b/\x≠q.2.1)
def C1c (n:Nat) (b:Wf) (a:List T4) (q:Int×NB×Unit):Prop:=0<=q.1/\q.1<(b.length:Int)/\q.2.1.1=a/\lW n q.2.1.2
def C5l (n:Nat) (a:Wf) (b:List T4) (q:Int×Int×NB×Unit):Prop:=0<=q.1/\q.1<(a.length:Int)/\0<=q.2.1/\q.2.1<=(a.length:Int)/\q.2.2.1.1=b/\lW n q.2.2.1.2
def C9b (n:Nat) (a:Wf) (b:Nat) (rows d:List (List D5)) (c:List T4) (q:Wf×List (List D5)×NR×NB×Unit):Prop:=q.1=a.take b++a.drop (b+1)/\q.2.1=rows/\q.2.2.1.1=d/\lW n q.2.2.1.2/\q.2.2.2.1.1=c/\lW n q.2.2.2.1.2
def C9h (es:T4) (q:Int×(T4×T4)×Unit):Prop:=q.2.1.1=es/\(∀y∈q.2.1.2,y∈es)/\((q.1<0/\q.2.1.2.length=es.length)\/q.1∈S5 es)
def C9i (n:Nat) (a:List T4) (c:Int) (q:Int×NB×Unit):Prop:=q.1∈S5 (a.getD c.toNat [])/\q.2.1.1=a/\lW n q.2.1.2
def C9f (es:T4) (q:Wf×(T4×T4)×Unit):Prop:=q.2.1.1=es/\(q.1++S5 q.2.1.2).Perm (S5 es)
def C9g (n:Nat) (a:List T4) (c:Int) (q:Wf×NB×Unit):Prop:=q.1.Perm (S5 (a.getD c.toNat []))/\q.2.1.1=a/\lW n q.2.1.2
def K4 (n:Nat) (M:G9) (k:Nat) (d P:Wf) (rows b:List (List D5)) (r c:Int) (a:Wf) (q:Int×List (List D5)×NR×NB×Unit):Prop:=0<=q.1/\q.1<=(a.length:Int)/\(∀s,1<=s->cR n n (el M) s->CI n k (s+s) d P rows b r c (a.take q.1.toNat) q.2.1 q.2.2.1.1 q.2.2.2.1.1)/\lW n q.2.2.1.2/\lW n q.2.2.2.1.2
def C5q (x:Rat) (q:Bool×Wf×Wf×Unit):Prop:=((q.1,q.2.1),q.2.2.1)=rc x
def C9c (n:Nat) (P place:Wf) (rows b:List (List D5)) (q:Wf×Int×List (List D5)×List (List D5)×NR×Unit):Prop:=q.1=place/\0<=q.2.1/\q.2.1<=(n:Int)/\q.2.2.1.length=n/\q.2.2.2.1.length=n/\q.2.2.2.2.1.1=b/\(∀m∈q.2.2.2.2.1.2,n<=m\/∃a:Nat,(a:Int)<q.2.1/\m=ix P a)/\(∀a:Nat,(a:Int)<q.2.1->q.2.2.1.getD a []=b.getD (ix P a) []++ [((a:Int),rc 1)])/\∀a:Nat,(a:Int)<q.2.1->KH (λi=>if 0<=i/\i<(n:Int)then A5 (rows.getD (ix P a) []) ((List.idxOf i place:Nat):Int)else 0) (q.2.2.2.1.getD a [])
def EI.okFin {n k:Nat} {S:Nat->Nat} {A:Nat->Nat->Rat} {g P Q place:Wf} {rows c:List (List D5)} {b:List T4} (h:EI n k S A g P Q place rows c b) (i:n<=16384) {a:Nat} (d:a<k) (f:S a<=K1):ED K1 (rows.getD (ix P a) []):=by
 obtain⟨b,c,_⟩:=h.can _ (h.elim.plt a d);have:=Eb (n:=(n:Int)) (v:=rows.getD (ix P a) []) ⟨b.1,λe he=>⟨(c e he).1,(c e he).2,(b.2 e he).1⟩⟩;exact⟨b.1,Un b λj=>G3 (h.fin a d j) f,ω⟩
def EI.cnt {n k:Nat} {S:Nat->Nat} {A:Nat->Nat->Rat} {a P Q place:Wf} {rows c:List (List D5)} {b:List T4} (h:EI n k S A a P Q place rows c b) (d:n<=16384) {i:Int} (f:0<=i) (g:i<(a.length:Int)):(0<=a.getD i.toNat 0/\a.getD i.toNat 0<((b.length:Nat):Int))/\(a.getD i.toNat 0).toNat<n/\(b.getD (a.getD i.toNat 0).toNat []).length<=9223372036854775807/\a.getD i.toNat 0∈a:=by
 have b:a.getD i.toNat 0∈a:=C6 ω;obtain⟨a,c1⟩:=h.crange b;have:=h.colLen b;rw[h.lcols];exact⟨⟨a,c1⟩,ω,ω,b⟩
set_option maxHeartbeats 4000000
def GH:su P7 Jb:=λx c0 fb=>by
 obtain⟨⟨R,C,D⟩,_⟩:=x;have f3:LR (R,C,D):=Oo c0.1.2.2.2;change Int at R C;change List (List D5)at D;obtain⟨fk,ez⟩:N4 K1 (R,C,D)/\(A4 (R,C,D)->R=C->∃T:Nat,1<=T/\8*T+8<=K1/\cR R.toNat R.toNat (el (R,C,D)) T):=fb;simp only[Jb];refine⟨trivial,?_⟩;rintro⟨u,_⟩ _ I;simp only at I|-;by_cases a7:A4 (R,C,D)
 case neg=>
  have I:u=false:=by rw[I];exact rC a7
  rw[I];exact⟨λ_=>⟨λ_=>⟨rfl,trivial⟩,λh=>absurd h a7⟩,λh=>(by cases h)⟩
 have I:u=true:=by rw[I];exact rA a7
 rw[I];obtain⟨g5,g6,g7,g8,ef,eg⟩:=id a7;simp only at g5 g6 g7 g8 ef eg;refine⟨λh=>(by cases h),λ_=>⟨λbu=>?_,λcg=>?_⟩⟩
 . have bu:=qA bu;exact⟨λh=>absurd a7 h,λ_=>⟨λ_=>⟨rfl,trivial⟩,λh=>absurd h bu⟩⟩
 have cg:R=C:=rB (qB cg);subst cg;obtain⟨n,rfl⟩:∃n:Nat,R=(n:Int):=⟨R.toNat,ω⟩;obtain⟨V,cr,gy,bz⟩:=ez a7 rfl;rw[qQ]at bz;simp only[qQ];have b1:0<=(n:Int)/\(n:Int)<=(n:Int)/\8*(n:Int)<=281474976710656/\(n:Int)<=9223372036854775807:=⟨ω,qG _,ω,ω⟩;have bi:0<=(n:Int)/\(n:Int)<=(n:Int)/\24*(n:Int)<=281474976710656/\(n:Int)<=9223372036854775807:=⟨ω,qG _,ω,ω⟩;refine⟨b1,b1,bi,bi,b1,bi,bi,b1,b1,LU n,λp=>((n:Int)-p.1).toNat,LU.init,?_⟩;rintro⟨(bf:Int),⟨(ag:List T4),em⟩,left,_⟩ _ H;simp only;have bt:=H.1;have dr:=H.2.1;have f4:ag.length=n:=H.2.2.1;have f5:left.length=n:=H.2.2.2.2.2.1;simp only at bt dr;refine⟨λf=>?_,λf=>?_⟩
 . have f:=qA f;rw[wv ω];exact⟨⟨bt,ω⟩,⟨bt,ω⟩,H.next f,ω⟩
 have f:=qB f;have cn:(n:Int)<=bf:=ω
 have gp:(D.length:Int)=(n:Int):=ef;refine⟨HA n D,λp=>((n:Int)-p.1).toNat,HA.init H cn,?_⟩;rintro⟨(X:Int),ed,⟨a1,d3⟩,_⟩ _ an;change List (List D5)at ed;change List T4 at a1;simp only;have av:=an.1;have dz:=an.2.1;have fh:ed.length=n:=an.2.2.1;simp only at av dz;refine⟨λw=>?_,λw=>?_⟩
 . have w:=qA w;have fl:X<(n:Int):=ω
   have cm:=F4 (d:=([]:List D5)) av w;rw[Il av w]at cm|-;have cu:=eg _ cm;have a6:=Mq a7 fk cm;refine⟨⟨av,w⟩, .inl ⟨a6.1,a6.2.1,a6.2.2⟩,?_⟩;rintro⟨(ax:List D5),_⟩ _ c0;simp only at c0|-;refine⟨⟨av,ω⟩,SB n (λi=>A5 (D.getD i [])) X (D.getD X.toNat []),λp=>(((D.getD X.toNat []).length:Int)-p.1).toNat,an.row,?_⟩;rintro⟨(c3:Int),⟨(cols2:List T4),d4⟩,_⟩ _ b8;simp only;have ex:=b8.1;have ey:=b8.2.1;simp only at ex ey;have e2:∀e∈D.getD X.toNat [],0<=e.1/\e.1<(n:Int):=λe a2=>⟨(cu.2 e a2).1,(cu.2 e a2).2.1⟩
   have f9:=a6.2.2;refine⟨λE=>?_,λE=>?_⟩
   . have E:=qA E;rw[wv ω];obtain⟨r,s,a9⟩:=b8.rng e2 E;exact⟨r,s,a9,b8.next e2 E,ω⟩
   have E:=qB E;rw[wv ω];exact⟨an.next fl cu c0 b8 ω,ω⟩
 have w:=qB w;have ds:(n:Int)<=X:=ω
 refine⟨B9f n ((n:Int),(n:Int),D),λp=>((n:Int)-p.1).toNat,B9f.init a7 f3 rfl rfl H cn an ds,?_⟩;clear H bt dr f4 f5 an av dz fh f cn w ds;rintro⟨(o:Int),(M:Wf),(P:Wf),(Q:Wf),(place:Wf),rows,⟨c2,gi⟩,⟨ag,em⟩,_⟩ _ ⟨cx,fo,ak,b3,d5⟩;change List (List D5)at rows c2;change List T4 at ag;simp only at cx fo ak b3 d5|-;have a:=ak V cr bz;refine⟨λb9=>?_,λb9=>?_⟩
 . have b9:=qA b9;have cl:o.toNat<n:=ω
   have b6:V+V<=K1:=ω
   have gv:=a.more cl;have bb:=a.lrows;have dn:=a.llow;have dm:=a.lcols;have gw:M.length<=n:=QD a.rnd λx hx=>a.crange hx
   refine⟨C9a n ((n:Int),(n:Int),D) M rows c2 ag,⟨C1c n M ag,⟨C5l n M ag,λq=>((M.length:Int)-q.2.1).toNat,⟨qG _,by simp only;omega,qG _,by simp only;omega,rfl,d5⟩,?_⟩,?_⟩,?_⟩
   . rintro⟨(b:Int),(j:Int),⟨b2,d2⟩,_⟩ _ ⟨a0,a3,ab,cw,rfl,N⟩;simp only at a0 a3 ab cw N|-;refine⟨λk=>?_,λk=>⟨a0,a3,rfl,N⟩⟩;have k:=qA k;obtain⟨c5,bg,c6,ay⟩:=a.cnt ω ab k;obtain⟨ei,ej,ek,gc⟩:=a.cnt ω a0 a3;simp only[MS];refine⟨C1c n M b2,⟨⟨ab,k⟩,c5,N _ bg,c6,⟨a0,a3⟩,ei,N _ ej,ek,λ_=>⟨ab,k,rfl,N⟩,λ_=>⟨a0,a3,rfl,N⟩⟩,?_⟩;rintro⟨(eh:Int),⟨cols2,d4⟩,_⟩ _ ⟨az,b0,rfl,ah⟩;simp only at az b0 ah|-;obtain⟨bj,bk,bl,gm⟩:=a.cnt ω az b0;rw[wv ω];exact⟨⟨az,b0⟩,bj,ah _ bk,bl,λ_=>⟨az,b0,rfl,ah⟩,λ_=>⟨⟨az,b0,by simp only;omega,by simp only;omega,rfl,ah⟩,ω⟩⟩
   . rintro⟨(b:Int),⟨b2,d2⟩,_⟩ _ ⟨a0,a3,rfl,N⟩;simp only at a0 a3 N|-;obtain⟨c5,bg,c6,ay⟩:=a.cnt ω a0 a3;simp only[MS];refine⟨⟨a0,a3⟩,c5,N _ bg,c6,λaj=>?_,λaj=>?_⟩
     . have aj:=qA aj;exact⟨rfl,rfl,b3,rfl,N,λ_=>a.stuck ay (qN (g3s.1 aj)),λh=>(by cases h)⟩
     have aj:=qB aj;rw[wv ω];simp only[qQ,vD];rw[(ω:(b+1).toNat=b.toNat+1)];have ba:b.toNat+(List.drop (b.toNat+1) M).length<=n:=by rw[sS];omega
     generalize ac:M.getD b.toNat 0=c at*;obtain⟨bh,c1⟩:=a.crange ay;have co:=a.pick (b:=b.toNat) ω;rw[ac]at co;refine⟨⟨a0,a3⟩,C9b n M b.toNat rows c2 b2,⟨⟨qG _,a0,ω⟩,⟨ω,ω,qG _⟩,⟨⟨ω,ω⟩,rfl,rfl,rfl,b3,rfl,N⟩,⟨ω,ω⟩,rfl,rfl,rfl,b3,rfl,N⟩,?_⟩;rintro⟨(fx:Wf),ec,⟨h0,gj⟩,⟨cols2,d4⟩,_⟩ _ ⟨ai,rfl,rfl,b4,rfl,aq⟩;simp only at ai b4 aq|-;obtain⟨gs,dc⟩:=a.col c ay;have fi:∀y:Int×Bool,y∈cols2.getD c.toNat []->0<=y.1/\y.1<(ec.length:Int):=λy a8=>by
      obtain⟨cb,g9,_⟩:=(dc y.1).1 (oZ a8);rw[bb];exact⟨cb,g9⟩
     have bu:0<(cols2.getD c.toNat []).length:=by
      rcases vN (cols2.getD c.toNat []).length with J|J
      . exact absurd (g3s.2 J) aj
      exact J
     have ce:c<(cols2.length:Int):=by rw[dm];exact c1
     refine⟨C9i n cols2 c,⟨⟨bh,ce⟩,aq _ bg,C9h (cols2.getD c.toNat []),λq=>q.2.1.2.length,⟨rfl,λy a8=>a8, .inl ⟨by show(-1:Int)<0;decide,rfl⟩⟩,?_⟩,?_⟩
     . rintro⟨(i:Int),⟨eo,(left:T4)⟩,_⟩ _ ⟨rfl,ae,B⟩;simp only at ae B|-;refine⟨λa4=>⟨λh=>(by cases h),λ_=>⟨?_,MS _ _ _,aq⟩⟩,λl1 y l2 a4=>⟨λ_=>?_,λh=>(by cases h)⟩⟩
       . rcases B with⟨_,B⟩ |B
         . rw[a4]at B;simp only[yF]at B;omega
         exact B
       have a8:=fi y (ae y (by rw[a4];simp));have fm:y.1∈S5 (cols2.getD c.toNat []):=oZ (ae y (by rw[a4];simp));have e0:∀z∈l1++l2,z∈cols2.getD c.toNat []:=λz J=>ae z (by
        rw[a4];rcases qU.1 J with J|J
        . exact sE _ J
        exact sQ _ (qI _ J))
       have bq:(l1++l2).length<left.length:=by rw[a4,rQ,rQ,rK];omega
       have ad:¬i<0->i∈S5 (cols2.getD c.toNat [])/\0<=i/\i<(ec.length:Int):=λh=>by
        rcases B with⟨E,_⟩ |E
        . exact absurd E h
        obtain⟨cb,g9,_⟩:=(dc i).1 E;rw[bb];exact⟨E,cb,g9⟩
       have f6:∀ {q:Bool},L5 (decide (i<0)) true q=false->¬i<0:=λ{q} h E=>by
        rw[rA E]at h;cases h
       refine⟨λ_=>a8,λh=>(ad (qB h)).2,λ_=>a8,λh=>(ad (f6 h)).2,λ_=>⟨⟨rfl,e0, .inr fm⟩,bq⟩,λh=>⟨⟨rfl,e0, .inr (ad ?_).1⟩,bq⟩⟩;intro E;rw[rA E]at h;cases h
     rintro⟨i,⟨ga,gf⟩,_⟩ _ ⟨ae,rfl,be⟩;exact⟨rfl,rfl,b4,rfl,be,λh=>(by cases h),λ_=>⟨ay,ae,ai▸co.1,ai▸co.2⟩⟩
   rintro⟨(u:Int),(c:Int),(e7:Bool),(fw:Wf),l,⟨Y,c9⟩,⟨b2,d2⟩,_⟩ _ ⟨rfl,rfl,N,rfl,ah,e5,e6⟩;simp only at N ah e5 e6|-;cases e7 with
   |false=>exact⟨λ_=>⟨λh=>absurd a7 h,λ_=>⟨λh=>absurd rfl h,λ_=>⟨λ_=>⟨rfl,trivial⟩,λh=>absurd h (e5 rfl)⟩⟩⟩,λh=>(by cases h)⟩
   |true=>
   obtain⟨ac,I,ff,fg⟩:=e6 rfl;obtain⟨bh,c1⟩:=a.crange ac;obtain⟨fr,fs,fu,eb⟩:=a.row ac I;have er:=a.lP;have gq:=a.lQ;have bx:=a.lpl;refine⟨λh=>(by cases h),λ_=>?_⟩;have fq:0<=o/\o<(P.length:Int):=⟨cx,ω⟩;have e8:0<=o/\o<(Q.length:Int):=⟨cx,ω⟩;have e9:0<=c/\c<(place.length:Int):=⟨bh,ω⟩;refine⟨λq=>q.1=P.set o.toNat u/\q.2.1=Q.set o.toNat c/\q.2.2.1=place.set c.toNat o,⟨fq,⟨e8,e9,rfl,rfl,rfl⟩,e8,e9,rfl,rfl,rfl⟩,?_⟩;rintro⟨P',Q',ea,_⟩ _ ⟨bj,bk,bl⟩;simp only at bj bk bl|-;have cq:ED K1 (l.getD u.toNat []):=a.okRow b6 ω ω;have bc:∀e∈l.getD u.toNat [],0<=e.1/\e.1<(n:Int):=(a.can u.toNat ω).2.1;have fd:=(a.can u.toNat ω).2.2;have dw:W3 l u.toNat c.toNat=A5 (l.getD u.toNat []) c:=by unfold W3;rw[(ω:((c.toNat:Nat):Int)=c)]
   rw[dw]at eb;generalize cp:l.getD u.toNat []=t at*;have gu:=cq.2.2;refine⟨⟨fr,by rw[bb];exact fs⟩,IG n M (inC b2) u t,λp=>((t.length:Int)-p.1).toNat,⟨qG _,qF _,dm,ah,λj k=>⟨a.crange k,nF ⟨(a.col j k).1,λx=>xX⟩⟩⟩,?_⟩;rintro⟨(bf:Int),⟨(a1:List T4),d3⟩,_⟩ _ A;simp only;have fy:=A.1;have fz:=A.2.1;simp only at fy fz;refine⟨λf=>?_,λf=>?_⟩
   . have f:=qA f;rw[wv ω];obtain⟨r,s,a9⟩:=A.rng bc f;exact⟨r,s,a9,A.next bc f,ω⟩
   have f:=qB f;have ci:∀W,1<=W->cR n n (el ((n:Int),(n:Int),D)) W->CI n o.toNat (W+W) M P l Y u c [] l Y a1:=λW r s=>CI.init (ak W r s) ac I A.2.2.1 λj k=>by
    have cb:=(A.2.2.2.2 j k).2;simp only at cb;rw[E8 (ω:(t.length:Int)<=bf)]at cb;rw[cp];exact cb
   have d6:lW n d3:=A.2.2.2.1;have f2:a1.length=n:=A.2.2.1;clear A;obtain⟨ck,bp⟩:=(ci V cr bz).col c ac;have dj:∀x∈S5 (a1.getD c.toNat []),0<=x/\x<(n:Int):=λx hx=>⟨((bp x).1 hx).2.1,((bp x).1 hx).2.2.1⟩
   have di:(S5 (a1.getD c.toNat [])).length<=n:=QD ck dj;refine⟨cq,?_⟩;rintro⟨(v:C7),_⟩ _ cs;simp only at cs|-;have ct:qs (V+V) (A5 t c):=fd c;refine⟨by rw[cs];exact Cq (G3 ct b6) δ,?_⟩;rintro⟨(cv:C7),h4,_⟩ _ au;simp only at au|-;rw[cs,H6]at au;obtain⟨au,_⟩:=au.2 eb;have ce:c<(a1.length:Int):=by rw[f2];exact c1
   refine⟨C9g n a1 c,⟨⟨bh,ce⟩,d6 _ ω,C9f (a1.getD c.toNat []),λq=>q.2.1.2.length,⟨rfl,wR _⟩,?_⟩,?_⟩
   . rintro⟨(c7:Wf),⟨eo,(left:T4)⟩,_⟩ _ ⟨rfl,B⟩;simp only at B|-;refine⟨λa4=>⟨λh=>(by cases h),λ_=>⟨?_,MS _ _ _,d6⟩⟩,λl1 y l2 a4=>⟨λ_=>?_,λh=>(by cases h)⟩⟩
     . subst a4;rw[show S5 []= []from rfl,vX]at B;exact B
     subst a4;have dv:(c7++ [y.1]++S5 (l1++l2)).Perm (S5 (a1.getD c.toNat [])):=by
      refine List.Perm.trans ?_ B;rw[uC];refine g2x c7 ?_;unfold S5;rw[vY,vY,rW,g2z];exact g4t.symm
     have es:=dv.length_eq;rw[rQ,rQ,qY]at es;have bq:(l1++l2).length<(l1++y::l2).length:=by rw[rQ,rQ,rK];omega
     exact⟨⟨by rw[qY];omega,by rw[qY];omega⟩,⟨rfl,dv⟩,bq⟩
   rintro⟨(Z:Wf),⟨gb,gg⟩,_⟩ _ ⟨b5,rfl,d7⟩;simp only at b5 d7|-;have fa:Z.Nodup:=b5.nodup_iff.2 ck;have dt:∀x,x∈Z↔x≠u/\0<=x/\x<(n:Int)/\(∀g,g<o.toNat->x.toNat≠ix P g)/\W3 l x.toNat c.toNat≠0:=λx=>by rw[b5.mem_iff];exact bp x
   have f9:Z.length<=n:=by
    rw[b5.length_eq];exact di
   refine⟨K4 n ((n:Int),(n:Int),D) o.toNat M P l Y u c Z,λq=>((Z.length:Int)-q.1).toNat,⟨qG _,qF _,ci,N,d7⟩,?_⟩;clear ci ck bp dj di b5;rintro⟨(X:Int),cz,⟨cy,en⟩,⟨c8,gh⟩,_⟩ _ ⟨c4,g4,hG,bm,ca⟩;simp only at c4 g4 hG bm ca|-;have am:=hG V cr bz;refine⟨λw=>?_,λw=>?_⟩
   . have w:=qA w;have f1:Z.getD X.toNat 0∈Z:=C6 ω;have cj:Z.getD X.toNat 0∉Z.take X.toNat:=λhh=>by
      obtain⟨g,O,ar⟩:=vE.1 hh;rw[qZ]at O;rw[g1p,G6 _ _ (ω:X.toNat<Z.length)]at ar;have:=(wB fa).1 ar;omega
     have e1:=Lu (d:=(0:Int)) c4 w;rw[K6 c4 w]at e1;obtain⟨ae,B,be,e4,gz⟩:=(dt _).1 f1;generalize Z.getD X.toNat 0=i at*;have aa:i.toNat<n:=ω
     have df:((i.toNat:Nat):Int)=i:=ω
     have fj:cz.getD i.toNat []=l.getD i.toNat []:=am.ru _ aa (by rw[df];exact cj);have dq:cy.getD i.toNat []=Y.getD i.toNat []:=by rw[am.lo _ aa,qL (by rw[df];exact cj)]
     have ba:=a.lowLen aa;have gn:=a.two (i:=u.toNat) (j:=i.toNat) ω aa ω fu e4;have a6:=a.okRow b6 ω aa;have dy:=(a.can _ aa).2.2;have ad:0<=i/\i<(cz.length:Int):=⟨B,by rw[am.lrows];exact be⟩;have dh:0<=i/\i<(cy.length:Int):=⟨B,by rw[am.llow];exact be⟩;have eu:i.toNat∉en:=bm _ aa;rw[fj,dq];have et:W3 l i.toNat c.toNat=A5 (l.getD i.toNat []) c:=by unfold W3;rw[(ω:((c.toNat:Nat):Int)=c)]
     have gr:4*(V+V)+1<=K1:=ω
     have fe:qs (V+V+(V+V)) (A5 (l.getD i.toNat []) c/A5 t c):=QM (dy c) ct;have F:∀(af:QQ×Unit),RR af.1/\True->af.1=rc (A5 (l.getD i.toNat []) c)->(J8 af.1/\J8 cv)/\∀(aw:QQ×Unit),RR aw.1/\True->aw.1=rc (rv af.1*rv cv)->C5q (A5 (l.getD i.toNat []) c/A5 t c) (aw.1.1.1,aw.1.1.2,aw.1.2,()):=λaf _ h1=>by
      refine⟨⟨by rw[h1];exact Cq (G3 (dy c) b6) δ,by rw[au];exact Cq (G3 (B5o ct) b6) δ⟩,λaw _ cb=>?_⟩;rw[h1,au,H6,H6, <-uQ]at cb;exact cb
     refine⟨⟨c4,w⟩,C5q (A5 (l.getD i.toNat []) c/A5 t c),⟨ad,⟨a6,λaf ax h=>⟨F af ax h,F af ax h⟩⟩,a6,F⟩,?_⟩;rintro⟨(d9:Bool),(da:Wf),(db:Wf),_⟩ _ ch;have ch:((d9,da),db)=rc (A5 (l.getD i.toNat []) c/A5 t c):=ch;simp only;rw[ch];refine⟨λq=>q.1.1=cy.set i.toNat (Y.getD i.toNat []++ [(o,rc (A5 (l.getD i.toNat []) c/A5 t c))])/\lW n q.1.2,?_,?_⟩
     . have L1:((Y.getD i.toNat []).length+ [(o,rc (A5 (l.getD i.toNat []) c/A5 t c))].length)*64<=140737488355328/\(Y.getD i.toNat []).length+ [(o,rc (A5 (l.getD i.toNat []) c/A5 t c))].length<=9223372036854775807:=by
        have J:∀z:Nat,z<=n->(z+1)*64<=140737488355328/\z+1<=9223372036854775807:=λz J=>⟨ω,ω⟩
        exact J _ (qX ba ω)
       repeat' apply And.intro
       all_goals first
        |exact dh.1
        |exact dh.2
        |exact eu
        |exact L1.1
        |exact L1.2
        |exact rfl
        |exact bm
        |exact True.intro
     rintro⟨⟨h3,gl⟩,_⟩ _ ⟨dk,d8⟩;simp only at dk d8|-;have dx:qs K1 (A5 (l.getD i.toNat []) c/A5 t c):=G3 fe ω;refine⟨ad,Cq dx δ,?_⟩;rintro⟨(fp:C7),_⟩ _ bv;simp only at bv|-;rw[H6]at bv;refine⟨⟨a6,by rw[bv];exact Nh (kV dx),cq⟩,?_⟩;rintro⟨(nw:List D5),_⟩ _ a5;simp only at a5|-;have a5:KH (λj=>A5 (l.getD i.toNat []) j-A5 (l.getD i.toNat []) c/A5 t c*A5 t j) nw:=⟨a5.1,λj=>(a5.2 j).trans (by dsimp only;rw[bv,H6,Rat.neg_mul, <-tL])⟩;have bw:∀e∈nw,0<=e.1/\e.1<(n:Int):=λe a2=>rB λhh=>by
      refine(a5.1.2 e a2).1 ?_;rw[<-O0 a5.1.1 a2];refine(a5.2 e.1).trans ?_;dsimp only;rw[D4 (v:=l.getD i.toNat []) (i:=e.1) λy a8 cb=>hh (by rw[<-cb];exact(a.can _ aa).2.1 y a8),D4 (v:=t) (i:=e.1) λy a8 cb=>hh (by rw[<-cb];exact bc y a8),tA,tL,wK,rH]
     have gt:nw.length<=n:=by
      have:=Eb (n:=(n:Int)) (v:=nw) ⟨a5.1.1,λe a2=>⟨(bw e a2).1,(bw e a2).2,(a5.1.2 e a2).1⟩⟩;omega
     refine⟨ad,IG n M (inC c8) i t,λp=>((t.length:Int)-p.1).toNat,⟨qG _,qF _,am.lcols,ca,λj k=>⟨a.crange k,nF ⟨(am.col j k).1,λx=>xX⟩⟩⟩,?_⟩;rintro⟨(c3:Int),⟨(d0:List T4),gd⟩,_⟩ _ A;simp only;have g0:=A.1;have g1:=A.2.1;simp only at g0 g1;refine⟨λf=>?_,λf=>?_⟩
     . have f:=qA f;rw[wv ω];obtain⟨r,s,a9⟩:=A.rng bc f;exact⟨r,s,a9,A.next bc f,ω⟩
     have f:=qB f;have dp:∀j:Int,j∈M->nE (inC c8) i t j (d0.getD j.toNat []):=λj k=>by
      have cb:=(A.2.2.2.2 j k).2;simp only at cb;rwa[E8 (ω:(t.length:Int)<=c3)]at cb
     rw[show(cz.set i.toNat nw).getD i.toNat []=nw from C1 (by rw[am.lrows];exact aa)];refine⟨by rw[qT];exact ad,fF n M (λj x=>inC c8 j x/\¬(x=i/\∃e∈t,e.1=j)) i nw,λp=>((nw.length:Int)-p.1).toNat,⟨qG _,qF _,A.2.2.1,A.2.2.2.1,λj k=>⟨a.crange k,B1w ⟨(dp j k).1,(dp j k).2⟩⟩⟩,?_⟩;rintro⟨(ee:Int),⟨(d1:List T4),ge⟩,_⟩ _ G;simp only;have g2:=G.1;have g3:=G.2.1;simp only at g2 g3;refine⟨λf=>?_,λf=>?_⟩
     . have f:=qA f;rw[wv ω];obtain⟨r,s,a9⟩:=G.rng bw f;exact⟨r,s,a9,G.next bw f,ω⟩
     have f:=qB f;rw[wv ω];refine⟨⟨by simp only;omega,by simp only;omega,λW r s=>?_,d8,G.2.2.2.1⟩,ω⟩;have f8:=CI.next (ak W r s) ac I (hG W r s) B be ae e4 cj (q:=A5 (l.getD i.toNat []) c/A5 t c) (by rw[et,dw]) (nw:=nw) (by rw[cp];exact a5) (cols2:=d1) G.2.2.1 λj k=>by
      have cb:=(G.2.2.2.2 j k).2;simp only at cb;rw[E8 (ω:(nw.length:Int)<=ee)]at cb;rw[cp];exact cb
     simp only;rw[e1,dk, <-dq];rwa[(ω:((o.toNat:Nat):Int)=o)]at f8
   have w:=qB w;rw[wv ω];refine⟨⟨by simp only;omega,by simp only;omega,λW r s=>?_,bm,ca⟩,ω⟩;have de:=hG W r s;rw[E8 ω]at de;have ew:=CI.doneT (ak W r s) r s ac I de dt ff fg;simp only;rw[(ω:(o+1).toNat=o.toNat+1),bj,bk,bl];rwa[(ω:((o.toNat:Nat):Int)=o)]at ew
 have b9:=qB b9;have cl:o=(n:Int):=ω
 subst cl;simp only[qQ]at ak a;have bb:=a.lrows;have dn:=a.llow;have er:=a.lP;have fc:=a.places;refine⟨C9c n P place rows c2,λq=>((n:Int)-q.2.1).toNat,⟨rfl,qG _,qF _,rG,rG,rfl,λm H=> .inl (Nat.le_of_not_lt λh=>b3 m h H),λg O=>by simp only at O;omega,λg O=>by simp only at O;omega⟩,?_⟩;rintro⟨ea,(j:Int),L,U,⟨Y,c9⟩,_⟩ _ ⟨rfl,ab,cw,ao,ap,rfl,cf,cc,cd⟩;change List (List D5)at L U;simp only at ab cw ao ap cf cc cd|-;refine⟨λk=>?_,λk=>?_⟩
 . have k:=qA k;have G:j.toNat<n:=ω
   have ep:P.getD j.toNat 0=(ix P j.toNat:Int):=a.P0 _ G;have bs:=a.elim.plt _ G;have ba:=a.lowLen bs;have f7:ix P j.toNat∉c9:=λH=>by
    rcases cf _ H with h| ⟨g,O,ar⟩
    . omega
    have:=a.elim.pinj _ _ G (ω:g<n) ar;omega
   have a6:=a.okFin ω G (ω:V+V<=K1);rw[ep];simp only[qQ];have r:0<=j/\j<(P.length:Int):=⟨ab,k⟩;have s:0<=(ix P j.toNat:Int)/\(ix P j.toNat:Int)<(Y.length:Int):=⟨qF _,by rw[dn];exact sY.2 bs⟩;have a9:0<=j/\j<(L.length:Int):=⟨ab,by rw[ao];omega⟩;have J:∀z:Nat,z<=n->(z+1)*64<=140737488355328/\z+1<=9223372036854775807:=λz J=>⟨ω,ω⟩
   refine⟨r,λq=>q.1=L.set j.toNat (Y.getD (ix P j.toNat) []++ [(j,rc 1)])/\q.2.1.1=Y/\q.2.1.2=ix P j.toNat::c9,?_,?_⟩
   . repeat' first
      |exact f7
      |exact True.intro
      |exact r.1
      |exact r.2
      |exact s.1
      |exact s.2
      |exact a9.1
      |exact a9.2
      |exact rfl
      |exact(J _ (qX ba (qV _))).1
      |exact(J _ (qX ba (qV _))).2
      |apply And.intro
      | (rintro⟨u,_⟩ _ I
         have I:u=rc 1:=I.trans (ZV 1);subst I)
   rintro⟨L4,⟨h2,gk⟩,_⟩ _ ⟨ai,b4,aq⟩;simp only at ai b4 aq|-;refine⟨⟨s.1,by rw[bb];exact sY.2 bs⟩,⟨a6,by rw[a.lpl];omega⟩,?_⟩;rintro⟨(ax:List D5),h5,_⟩ _ du;simp only at du|-;have bx:=a.lpl;obtain⟨e3,_⟩:=du (by rw[bx];exact fc.1) λi f0=>by
    rw[bx];obtain⟨e,a2,rfl⟩:=DD f0;exact(a.can _ bs).2.1 e a2
   rw[bx]at e3;rw[wv ω];refine⟨⟨ab,by rw[ap];omega⟩,⟨rfl,by simp only;omega,by simp only;omega,by simp only;rw[ai,qT];exact ao,by simp only;rw[qT];exact ap,b4,λm H=>?_,λg O=>?_,λg O=>?_⟩,ω⟩
   . simp only at H|-;rw[aq]at H;rcases qW.1 H with h|h
     . exact .inr ⟨j.toNat,ω,h⟩
     rcases cf m h with h| ⟨g,O,ar⟩
     . exact .inl h
     exact .inr ⟨g,ω,ar⟩
   . simp only at O|-;rw[ai];by_cases b7:g=j.toNat
     . subst b7;rw[C1 (by rw[ao];exact G),(ω:((j.toNat:Nat):Int)=j)]
     rw[E5 b7];exact cc g ω
   simp only at O|-;by_cases b7:g=j.toNat
   . subst b7;rw[C1 (by rw[ap];exact G)];exact e3
   rw[E5 b7];exact cd g ω
 have k:=qB k;have G:j=(n:Int):=ω
 subst G;have bn:∀g,g<n->L.getD g []=Y.getD (ix P g) []++ [((g:Int),rc 1)]:=λg O=>cc g ω
 have bo:∀g,g<n->KH (λi=>if 0<=i/\i<(n:Int)then A5 (rows.getD (ix P g) []) ((List.idxOf i ea:Nat):Int)else 0) (U.getD g []):=λg O=>cd g ω
 have dd:=a.done ω ao ap bn bo;exact⟨λh=>absurd a7 h,λ_=>⟨λh=>absurd rfl h,λ_=>⟨λh=>absurd a.elim.nonsing h,λ_=>⟨dd.1,trivial,(a.cans ao ap bn bo).1,(a.cans ao ap bn bo).2,λW r s g b O=>(ak W r s).sizes (λg=>ω) bn bo O b,dd.2⟩⟩⟩⟩
def KO:An:= {}
abbrev C7b:=(Wf×Wf×MM×Int×Int×List (List EE))×List QQ×Unit
def Pe(x:C7b):Prop:=let e:=(4:Int);let d:=(1:Int);let c:=(0:Int);let b:=(↑x.1.1.length:Int);let a:=(x.1.1.length:Int);let f:Prop:=((x.2.1.length:Int)≠a);(c<=a/\a<=(16384:Int)/\N4 K1 x.1.2.2.1/\N4 K1 x.1.2.2.2)/\Jp λr=>(r.1=true↔Bo x.1 a)->(iB ((!r.1)) ((¬Bo x.1 b->d=d)/\(Bo x.1 b->(x.2.1.length≠x.1.1.length->d=e)/\(x.2.1.length=x.1.1.length->d=c))) ((iB (decide f) ((¬Bo x.1 b->e=d)/\(Bo x.1 b->(x.2.1.length≠x.1.1.length->e=e)/\(x.2.1.length=x.1.1.length->e=c))) ((¬Bo x.1 b->c=d)/\(Bo x.1 b->(x.2.1.length≠x.1.1.length->c=e)/\(x.2.1.length=x.1.1.length->c=c))))))
def TG:An:= {loop:= [(12,⟨[1,2,7,8,9,30,31,55,56],[0],[(57,false,vI)],[],[(1, .row tQ 58)]⟩),(7,⟨[1,2,7,8,30],[0],[(31,false,vI)],[],[(1, .row tQ 58)]⟩),(24,⟨[2,7,8,13,15,16,80,81,95,96],[0,2],[(97,false,vI)],[],[(1, .row tQ 58)]⟩),(19,⟨[2,7,8,13,80],[0],[(81,false,vI)],[],[(1, .row tQ 58),(2, .row tQ 58)]⟩)],plan:= [(14,[5,7,10,12],[15],true, .done),(26,[5,7,10,12],[15],true, .done),(28,[5,9],[15],true, .done),(29,[2,5,9],[11],true, .done)]}
abbrev C7s:=Int×List QQ×List QQ×Unit
def Ww(x:C7b):Prop:=let C:=(↑x.1.1.length:Int);let v:=(1:Int);let q:=(0:Int);let n:=(x.1.1.length:Int);let d:Prop:=(q<=n/\n<=n/\(↑(56:Nat):Int)*n<=(281474976710656:Int)/\n<=(9223372036854775807:Int));(List.length x.1.1<=16384/\N4 K1 x.1.2.2.1/\N4 K1 x.1.2.2.2)/\Et λr=>(¬Bo x.1 n->r.1=v)/\(Bo x.1 n->(List.length x.2.1≠List.length x.1.1->r.1=4)/\(List.length x.2.1=List.length x.1.1->r.1=q))->(iB (decide (r.1≠q)) ((¬Bo x.1 C->Er QQ= []/\r.1=v)/\(Bo x.1 C->(x.2.1.length≠x.1.1.length->Er QQ= []/\r.1=4)/\(x.2.1.length=x.1.1.length->r.1=q/\0=x.1.1.length/\(∀(e:QQ),e∈ []->e=rc (rv e))/\∀(i:Nat),i<x.1.1.length->(B8 x.1.1.length fun(j:Nat)=>luM x.1 x.1.1.length i j*rv ([].getD (ix x.1.2.1 j) zr))=rv (x.2.1.getD (ix x.1.1 i) zr)))) (d/\∃(I:GE->Prop),∃(a: _->Nat),I (q,List.replicate n.toNat dQ,())/\∀(p:GE),let F:=p.1.toNat;let t:=(gx [] x.1.2.2.1.2.2 p.1);let D:=(↑t.length:Int);let N:=(i64.wrap (D-v));let f:Prop:=(p.1<n);(Ty.int i64).wf p.1/\WB p.2.1/\True->I p->(iB (decide f) ((q<=p.1/\f)/\(q<=gx q x.1.1 p.1/\gx q x.1.1 p.1<(x.2.1.length:Int))/\(q<=p.1/\p.1<(p.2.1.length:Int))/\(q<=p.1/\p.1<(x.1.2.2.1.2.2.length:Int))/\(q<=q/\q<=i64.wrap (D-v)/\i64.wrap (D-v)<=D)/\∃(I_1:GE->Prop),∃(b: _->Nat),I_1 (q,List.set p.2.1 F (gx dQ x.2.1 (gx q x.1.1 p.1)),())/\∀(O:GE),let M:=(List.getD O.2.1 F dQ);let H:=(O.2.1.length:Int);let G:=(i64.wrap (p.1+v),O.2.1,());let l:=(gx D8 (List.drop q.toNat (List.take N.toNat t)) O.1);let w:=(List.getD O.2.1 l.1.toNat dQ);let g:Prop:=(q<=p.1/\p.1<H);let c:Prop:=(O.1<(↑(List.drop q.toNat (List.take N.toNat t)).length:Int));(Ty.int i64).wf O.1/\WB O.2.1/\True->I_1 O->(iB (decide c) ((q<=O.1/\c)/\g/\(q<=l.1/\l.1<H)/\(sz K1 M/\sz K1 l.2/\sz K1 w)/\N2 λr=>let B:=(i64.wrap (O.1+v),List.set O.2.1 F r.1,());(rv w=(0:Rat)->r.1=List.getD O.2.1 F dQ)/\(rv w≠(0:Rat)->r.1=rc (rv M-rv l.2*rv w))->g/\I_1 B/\b B<b O) (I G/\a G<a p))) (d/\∃(I:C7s->Prop),∃(a: _->Nat),I (q,p.2.1,List.replicate n.toNat dQ,())/\∀(p:C7s),let s:=(i64.wrap (n-v)-p.1);let k:=(i64.wrap s);let o:=(gx [] x.1.2.2.2.2.2 k);let L:=(gx D8 o q);let A:=(↑o.length:Int);let h:Prop:=(p.1<n);(Ty.int i64).wf p.1/\WB p.2.1/\WB p.2.2.1/\True->I p->(iB (decide h) ((q<=i64.wrap s/\i64.wrap s<(x.1.2.2.2.2.2.length:Int))/\(q<=v/\v<=A/\A<=A)/\∃(I_1:GE->Prop),∃(b: _->Nat),I_1 (q,p.2.1,())/\∀(O:GE),let J:=(O.2.1.length:Int);let z:=(List.getD O.2.1 k.toNat dQ);let m:=(gx D8 (List.drop v.toNat (List.take A.toNat o)) O.1);let y:=(List.getD O.2.1 m.1.toNat dQ);let d:Prop:=(O.1<(↑(List.drop v.toNat (List.take A.toNat o)).length:Int));let c:Prop:=(q<=i64.wrap s/\i64.wrap s<J);(Ty.int i64).wf O.1/\WB O.2.1/\True->I_1 O->(iB (decide d) ((q<=O.1/\d)/\c/\(q<=m.1/\m.1<J)/\(sz K1 z/\sz K1 m.2/\sz K1 y)/\N2 λr=>let E:=(i64.wrap (O.1+v),List.set O.2.1 k.toNat r.1,());(rv y=(0:Rat)->r.1=List.getD O.2.1 k.toNat dQ)/\(rv y≠(0:Rat)->r.1=rc (rv z-rv m.2*rv y))->c/\I_1 E/\b E<b O) (c/\(q<=q/\q<A)/\(J8 z/\J8 L.2)/\∀(r:iC),let K:=(List.set O.2.1 k.toNat r.1);let u:=(i64.wrap (p.1+v),List.set O.2.1 k.toNat r.1,List.set p.2.2.1 (gx q x.1.2.1 k).toNat (K.getD k.toNat dQ),());RR r.1/\True/\True->(rv L.2=(0:Rat)->r.2.1=false)/\(rv L.2≠(0:Rat)->r.1=rc (rv z/rv L.2)/\r.2.1=true)->c/\(q<=i64.wrap s/\i64.wrap s<(x.1.2.1.length:Int))/\(q<=i64.wrap s/\i64.wrap s<(↑K.length:Int))/\(q<=gx q x.1.2.1 k/\gx q x.1.2.1 k<(p.2.2.1.length:Int))/\I u/\a u<a p))) ((¬Bo x.1 C->p.2.2.1= []/\q=v)/\(Bo x.1 C->(x.2.1.length≠x.1.1.length->p.2.2.1= []/\q=(4:Int))/\(x.2.1.length=x.1.1.length->q=q/\List.length p.2.2.1=x.1.1.length/\(∀(e:QQ),e∈p.2.2.1->e=rc (rv e))/\∀(i:Nat),i<x.1.1.length->(B8 x.1.1.length fun(j:Nat)=>luM x.1 x.1.1.length i j*rv (List.getD p.2.2.1 (ix x.1.2.1 j) zr))=rv (x.2.1.getD (ix x.1.1 i) zr)))))))))
def lZ (k:Nat) (q:Rat) (x:C7):Prop:=sz k x/\Qi x/\rv x=q
def B6u {k:Nat} {q:Rat} (h:qs k q):lZ k q (rc q):=⟨Nh h,kA q,H6 q⟩
def CU {j k:Nat} {q:Rat} {x:C7} (h:lZ j q x) (a:j<=k):lZ k q x:=⟨G4 h.1 a,h.2⟩
def B7w {v:List D5} {i:Nat} (a:∀e∈v,0<=e.1/\e.1<(i:Int)) (h:Nat->Rat):U5 v (λj=>h j.toNat)=B8 i λj=>A5 v (j:Int)*h j:=by
 rw[VD a];exact B6 λj _=>by rw[qQ]
def bZ {s j k:Nat} {a f b r:C7} {x y:Rat} (d:lZ j x a) (w:Qi f) (z:sz s f) (D:1<=s) (v:lZ k y b) (A:1<=j) (B:1<=k) (t:rv b=0->r=a) (u:rv b≠0->r=rc (rv a-rv f*rv b)):lZ (j+(s+k)+1) (x-rv f*y) r:=by
 obtain⟨g,h,i⟩:=id d;obtain⟨l,n,o⟩:=id v;subst i o;by_cases c:rv b=0
 . rw[t c,c,tA,tL,wK,rH];exact CU d ω
 rw[u c];exact B6u (B5p (Ek h g A) (Hg (Ek w z D) (Ek n l B)))
def FW (Y n i:Nat) (Lm:Nat->Nat->Rat) (b:Nat->Rat) (z:List C7):Prop:=z.length=n/\∀j,j<i->lZ Y (rv (z.getD j zr)) (z.getD j zr)/\rv (z.getD j zr)+B8 j (λm=>Lm j m*rv (z.getD m zr))=b j
def FI (s T Y i:Nat) (c:Rat) (w:List D5) (b:List C7) (t:Nat) (z:List C7):Prop:=∃a,z=b.set i a/\Qi a/\rv a=c-U5 (w.take t) (λj=>rv (b.getD j.toNat zr))/\(sz T a\/a=rc (rv a))/\∀m:Nat,(∀e∈w.take t,e.1<(m:Int))->sz (T+m*(s+Y+1)) a
variable {s T Y n i:Nat} {c:Rat} {w:List D5} {z0 z:List C7} {Lm:Nat->Nat->Rat} {b:Nat->Rat}
def FI.init {x:C7} (a:lZ T c x):FI s T Y i c w z0 0 (z0.set i x):=
 ⟨x,rfl,a.2.1,by rw[a.2.2];simp only[g0b,U5];rw[tL,wK,rH], .inl a.1,λm _=>G4 a.1 (g4w _ _)⟩
def B1k {d:D5} {w:List D5} (f:asc w) {t:Int} (h:0<=t) (i:t<(w.length:Int)):∀y∈w.take t.toNat,y.1<(gx d w t).1:=λy g=>by
 have c:(w.take (t+1).toNat).Pairwise (λa b=>a.1<b.1):=zS f;rw[(ω:(t+1).toNat=t.toNat+1),rP,H1 (d:=d) h i,sX]at c;exact c.2.2 y g (gx d w t) (by simp)
def B4w {d:D5} {w:List D5} {t:Int} (b:0<=t) (c:t<(w.length:Int)) {m:Nat} (a:∀e∈w.take (t+1).toNat,e.1<(m:Int)):(gx d w t).1<(m:Int):=a _ (by
 rw[(ω:(t+1).toNat=t.toNat+1),rP,H1 (d:=d) b c];simp)
def kB {T s Y a m:Nat} (h:a+1<=m):T+a*(s+Y+1)+(s+Y)+1<=T+m*(s+Y+1):=by
 have:=rL (s+Y+1) h;rw[tZ]at this;omega
def FI.next (k:FW Y n i Lm b z0) (hT:1<=T) (hY:1<=Y) (hs:1<=s) (hi:i<n) (hasc:asc w) (hw:∀e∈w,0<=e.1/\e.1<(i:Int)/\sz s e.2/\Qi e.2) {t:Int} (t0:0<=t) (t1:t<(w.length:Int)) (h:FI s T Y i c w z0 t.toNat z):
 (z.length=n/\sz (T+n*(s+Y+1)) (z.getD i zr)/\sz Y (z.getD (gx D8 w t).1.toNat zr))/\∀r,(rv (z.getD (gx D8 w t).1.toNat zr)=0->r=z.getD i zr)->(rv (z.getD (gx D8 w t).1.toNat zr)≠0->r=rc (rv (z.getD i zr)-rv (gx D8 w t).2*rv (z.getD (gx D8 w t).1.toNat zr)))->FI s T Y i c w z0 (t+1).toNat (z.set i r):=by
 obtain⟨A,rfl,H,M,F,O⟩:=h;have G:=F4 (d:=D8) t0 t1;obtain⟨Q,R,B,D⟩:=hw _ G;have E:=B1k (d:=D8) hasc t0 t1;have N:=DK (d:=D8) t0 t1 (λj=>rv (z0.getD j.toNat zr));have P:∀m:Nat,(∀e∈w.take (t+1).toNat,e.1<(m:Int))->(gx D8 w t).1<(m:Int):=λm f=>B4w t0 t1 f
 generalize gx D8 w t=e at*;have J:e.1.toNat≠i:=ω
 have I:=k.1;rw[E5 J,C1 ω];obtain⟨l,_⟩:=k.2 e.1.toNat ω;have g:=O e.1.toNat λy hy=>by have:=E y hy;omega
 have U:=kB (T:=T) (s:=s) (Y:=Y) (ω:e.1.toNat+1<=n);refine⟨⟨by rw[qT];exact I,G4 g ω,l.1⟩,λr u v=>?_⟩;have a:=bZ (x:=rv A) ⟨g,H,rfl⟩ D B hs l ω hY u v;refine⟨r,by rw[g4l],a.2.1,?_,?_,λm f=>?_⟩
 . rw[a.2.2,N,M];grind
 . by_cases o:rv (z0.getD e.1.toNat zr)=0
   . rw[u o];exact F
   right;rw[v o,H6]
 exact G4 a.1 (kB (by have:=P m f;omega))
def FI.done (o:FW Y n i Lm b z0) (I:i<n) (H:∀e∈w,0<=e.1/\e.1<(i:Int)) (v:∀j,j<i->A5 w (j:Int)=Lm i j) {t:Nat} (G:w.length<=t) (h:FI s T Y i (b i) w z0 t z) (x:T<=Y) (E:qs Y (b i-B8 i λm=>Lm i m*rv (z0.getD m zr))):FW Y n (i+1) Lm b z:=by
 obtain⟨l,rfl,B,d,a,_⟩:=h;have D:=o.1;rw[qP G]at d;have k:∀j,j<i->(z0.set i l).getD j zr=z0.getD j zr:=λj y=>E5 ω
 have F:U5 w (λj=>rv (z0.getD j.toNat zr))=B8 i λm=>Lm i m*rv (z0.getD m zr):=by
  rw[B7w H (λm=>rv (z0.getD m zr))];exact B6 λm c=>by rw[v m c]
 rw[F]at d;refine⟨by rw[qT];exact D,λj y=>?_⟩;by_cases A:j=i
 . subst A;rw[C1 ω];refine⟨⟨?_,B,rfl⟩,?_⟩
   . rcases a with a|a
     . exact G4 a x
     rw[a,d];exact Nh E
   rw[d,B6 (f:=λm=>Lm j m*rv ((z0.set j l).getD m zr)) (g:=λm=>Lm j m*rv (z0.getD m zr)) λm c=>by rw[k m c]];grind
 rw[k j ω];obtain⟨r,u⟩:=o.2 j ω;refine⟨r,?_⟩;rw[<-u];congr 1;exact B6 λm c=>by rw[k m ω]
def C4i {α:Type} (l:List α) (i:Nat) (d:α):l.set i (l.getD i d)=l:=by
 refine g0h (by rw[qT]) λj b a=>?_
 rw[g1v];split
 . rename_i e;subst e;rw[G6 _ _ a]
 rfl
def BW (Y n i:Nat) (U:Nat->Nat->Rat) (y:Nat->Rat) (z:List C7):Prop:=z.length=n/\(∀j,j<i->lZ Y (y j) (z.getD j zr))/\∀j,i<=j->j<n->(∃q,z.getD j zr=rc q/\qs Y q)/\B8 n (λm=>U j m*rv (z.getD m zr))=y j
def BI (s Y n i:Nat) (c:Rat) (w:List D5) (z0:List C7) (t:Nat) (z:List C7):Prop:=∃a,z=z0.set i a/\Qi a/\rv a=c-U5 (w.take t) (λj=>rv (z0.getD j.toNat zr))/\∀m:Nat,(∀e∈w.take t,e.1<(m:Int))->sz (Y+m*(s+Y+1)) a
variable {s Y n i:Nat} {c:Rat} {w:List D5} {z0 z:List C7} {U:Nat->Nat->Rat} {y:Nat->Rat}
def BI.init (d:BW Y n (i+1) U y z0) (a:i<n):BI s Y n i (y i) w z0 0 z0:=by
 obtain⟨a,b,c⟩:=d.2.1 i (rR _);refine⟨z0.getD i zr,(C4i z0 i zr).symm,b,?_,λm _=>G4 a (g4w _ _)⟩;rw[c];simp only[g0b,U5];rw[tL,wK,rH]
def BI.next (f:BW Y n (i+1) U y z0) (hs:1<=s) (hY:1<=Y) (hi:i<n) (hasc:asc w) (hw:∀e∈w,(i:Int)<e.1/\e.1<(n:Int)/\sz s e.2/\Qi e.2) {t:Int} (t0:0<=t) (t1:t<(w.length:Int)) (h:BI s Y n i c w z0 t.toNat z):
 (z.length=n/\sz (Y+n*(s+Y+1)) (z.getD i zr)/\sz Y (z.getD (gx D8 w t).1.toNat zr))/\∀r,(rv (z.getD (gx D8 w t).1.toNat zr)=0->r=z.getD i zr)->(rv (z.getD (gx D8 w t).1.toNat zr)≠0->r=rc (rv (z.getD i zr)-rv (gx D8 w t).2*rv (z.getD (gx D8 w t).1.toNat zr)))->BI s Y n i c w z0 (t+1).toNat (z.set i r):=by
 obtain⟨l,rfl,B,H,J⟩:=h;have A:=F4 (d:=D8) t0 t1;obtain⟨P,Q,o,u⟩:=hw _ A;have v:=B1k (d:=D8) hasc t0 t1;have I:=DK (d:=D8) t0 t1 (λj=>rv (z0.getD j.toNat zr));have M:∀m:Nat,(∀e∈w.take (t+1).toNat,e.1<(m:Int))->(gx D8 w t).1<(m:Int):=λm b=>B4w t0 t1 b
 generalize gx D8 w t=e at*;have E:e.1.toNat≠i:=ω
 have D:=f.1;rw[E5 E,C1 ω];obtain⟨⟨q,F,G⟩,_⟩:=f.2.2 e.1.toNat ω ω;have k:=J e.1.toNat λy hy=>by have:=v y hy;omega
 have g:lZ Y (rv (z0.getD e.1.toNat zr)) (z0.getD e.1.toNat zr):=by
  rw[F,H6];exact B6u G
 have R:=kB (T:=Y) (s:=s) (Y:=Y) (ω:e.1.toNat+1<=n);refine⟨⟨by rw[qT];exact D,G4 k ω,g.1⟩,λr N O=>?_⟩;have a:=bZ (x:=rv l) ⟨k,B,rfl⟩ u o hs g ω hY N O;refine⟨r,by rw[g4l],a.2.1,?_,λm b=>?_⟩
 . rw[a.2.2,I,H];grind
 exact G4 a.1 (kB (by have:=M m b;omega))
def BI.done (f:BW Y n (i+1) U y z0) (Q:i<n) (d:∀e∈w,(i:Int)<e.1/\e.1<(n:Int)) (H:∀j,i<j->A5 w (j:Int)=U i j) (u:∀k m,m<k->k<n->U k m=0) (M:U i i≠0) {t:Nat} (O:w.length<=t) (h:BI s Y n i (y i) w z0 t z)
 (N:∀x:Nat->Rat,(∀j,i<=j->j<n->B8 n (λm=>U j m*x m)=y j)->qs Y (x i)):
 sz (Y+n*(s+Y+1)) (z.getD i zr)/\qs Y (rv (z.getD i zr)/U i i)/\BW Y n i U y (z.set i (rc (rv (z.getD i zr)/U i i))):=by
 obtain⟨c,rfl,R,A,E⟩:=h;have J:=f.1;rw[qP O]at A E;rw[C1 ω,g4l];have P:=E n λe a=>(d e a).2
 have D:∀j,B8 n (λm=>U j m*rv ((z0.set i (rc (rv c/U i i))).getD m zr))=B8 n (λm=>if m=i then U j i*(rv c/U i i)else U j m*rv (z0.getD m zr)):=λj=>B6 λm _=>by
  by_cases o:m=i
  . subst o;rw[qR rfl,C1 ω,H6]
  rw[qL o,E5 o]
 have B:∀j,i<=j->j<n->B8 n (λm=>U j m*rv ((z0.set i (rc (rv c/U i i))).getD m zr))=y j:=λj l b=>by
  by_cases g:j=i
  . subst g;rw[D];have F:U5 w (λm=>rv (z0.getD m.toNat zr))=B8 n (λm=>if m=j then 0 else U j m*rv (z0.getD m zr)):=by
     rw[VD (n:=n) λe a=>⟨by have:=(d e a).1;omega,(d e a).2⟩];refine B6 λm o=>?_
     rw[qQ];rcases g4n m j with hmj|hmj|hmj
     . rw[qL ω,D4 λe a I=>by have:=(d e a).1;omega,u j m hmj b]
     . rw[qR hmj,D4 λe a I=>by have:=(d e a).1;omega,sO]
     rw[qL ω,H m hmj]
    have G:B8 n (λm=>if m=j then U j j*(rv c/U j j)else U j m*rv (z0.getD m zr))=B8 n (λm=>(if m=j then U j j*(rv c/U j j)else 0)+if m=j then 0 else U j m*rv (z0.getD m zr)):=B6 λm _=>by
     split
     . rw[rH]
     rw[tB]
    rw[G,Bt, <-F,H4 b λm _ o=>qL o,qR rfl,A,uQ,yX,uF,wO _ M,uL];grind
  rw[D, <-(f.2.2 j ω b).2];refine B6 λm o=>?_
  by_cases r:m=i
  . rw[qR r,r,u j i ω b,sO,sO]
  rw[qL r]
 have v:qs Y (rv c/U i i):=by
  have:=N _ B;rwa[C1 ω,H6]at this
 refine⟨P,v,by rw[qT];exact J,λj l=>?_,λj l b=>⟨?_,B j l b⟩⟩
 . rw[E5 ω];exact f.2.1 j ω
 by_cases g:j=i
 . subst g;exact⟨_,C1 ω,v⟩
 rw[E5 g];exact(f.2.2 j ω b).1
def B6p (b:∀k m,m<k->k<n->U k m=0) (c:∀i,i<n->U i i≠0):∀(i:Nat) (x:Nat->Rat),i<=n->(∀j,i<=j->j<n->B8 n (λm=>U j m*x m)=y j)->∃a:Nat->Rat,(∀j,i<=j->a j=x j)/\∀j,j<n->B8 n (λm=>U j m*a m)=y j
 |0,x,_,h=>⟨x,λ_ _=>rfl,λj d=>h j (rS _) d⟩
 |i+1,x,s,h=>by
  let q:=y i-B8 n (λm=>if m=i then 0 else U i m*x m)
  have r:∀j,B8 n (λm=>U j m*(if m=i then q/U i i else x m))=U j i*(q/U i i)+B8 n (λm=>if m=i then 0 else U j m*x m):=λj=>by
   rw[B6 (g:=λm=>(if m=i then U j i*(q/U i i)else 0)+if m=i then 0 else U j m*x m) λm _=>by
    by_cases e:m=i
    . subst e;rw[qR rfl,qR rfl,qR rfl,rH]
    rw[qL e,qL e,qL e,tB],Bt,H4 (k:=i) ω λm _ o=>qL o,qR rfl]
  obtain⟨a,d,f⟩:=B6p b c i (λm=>if m=i then q/U i i else x m) ω λj l hjn=>by
   rw[r];by_cases e:j=i
   . subst e;rw[uQ,yX,uF,wO _ (c j hjn),uL];show y j-B8 n (λm=>if m=j then 0 else U j m*x m)+ _= _;grind
   rw[b j i ω hjn,sO,tB, <-h j ω hjn];refine B6 λm _=>?_
   by_cases e:m=i
   . subst e;rw[qR rfl,b j m ω hjn,sO]
   rw[qL e]
  exact⟨a,λj l=>by rw[d j ω,qL ω],f⟩
def B5w {n:Nat} {L U:Nat->Nat->Rat} {b:Nat->Rat} {v:Nat->Rat} {y:Nat->Rat} (d:∀j,j<n->y j+B8 j (λm=>L j m*y m)=b j) (f:∀j,j<n->B8 n (λm=>U j m*v m)=y j) (h:∀i,i<n->L i i=1) (l:∀i j,i<j->j<n->L i j=0) {i:Nat} (a:i<n):
 B8 n (λj=>B8 n (λk=>L i k*U k j)*v j)=b i:=by
 have c:B8 n (λj=>B8 n (λk=>L i k*U k j)*v j)=B8 n λk=>L i k*y k:=by
  rw[B6 (g:=λj=>B8 n λk=>L i k*(U k j*v j)) λj _=>by rw[<-QT];exact B6 λk _=>uF _ _ _,EH];exact B6 λk o=>by rw[Jr,f k o]
 rw[c, <-d i a];have c:∀t,i+1+t<=n->B8 (i+1+t) (λk=>L i k*y k)=y i+B8 i (λm=>L i m*y m):=by
  intro t
  induction t with
  |zero=>intro _;rw[tK,B8,h i a,uR,yD]
  |succ t a=>intro d;rw[<-uS,B8,a ω,l i (i+1+t) ω ω,sO,rH]
 have:=c (n-(i+1)) ω;rwa[(ω:i+1+(n-(i+1))=n)]at this
def BC:su Ag Pe:=λx _ i=>by
 obtain⟨⟨P,Q,⟨j,lc,L⟩,⟨l,k,U⟩⟩,b,_⟩:=x;obtain⟨f,c,d⟩:=i;simp only[Pe,iB,Jp];refine⟨⟨qF _,Int.ofNat_le.2 f,c,d⟩,?_⟩;rintro⟨(r:Bool),_⟩ _ a;simp only at a|-;cases r with
 |false=>
  have g:¬Bo (P,Q,(j,lc,L),(l,k,U)) (P.length:Int):=λh=>by have:=a.2 h;cases this
  exact⟨λ_=>⟨λ_=>by trivial,λh=>absurd h g⟩,λh=>(by cases h)⟩
 |true=>
  have h:=a.1 rfl;refine⟨λh=>(by cases h),λ_=>⟨λhne=>⟨λh2=>absurd h h2,λ_=>⟨λ_=>by trivial,λhe=>absurd (sA Int.ofNat he) (qA hne)⟩⟩,λheq=>⟨λh2=>absurd h h2,λ_=>⟨λhne=>absurd (g0m (rB (qB heq))) hne,λ_=>by trivial⟩⟩⟩⟩
def Oz {p:Wf} {n:Nat} (h:K7 p (n:Int)):p.length=n/\(∀a,a<n->p.getD a 0=(ix p a:Int)/\ix p a<n)/\∀a b,a<n->b<n->ix p a=ix p b->a=b:=by
 obtain⟨c,g,i⟩:=h;have k:p.length=n:=ω
 have c:∀a,a<n->p.getD a 0=(ix p a:Int)/\ix p a<n:=λa f=>by
  have:=g _ (C6 (d:=0) (ω:a<p.length));unfold ix;omega
 refine⟨k,c,λa b f j e=>?_⟩;have g:=(c a f).1;have f:=(c b j).1;rw[<-e]at f;have c:p.getD a 0=p.getD b 0:=g.trans f.symm;rw[G6 _ _ ω,G6 _ _ ω]at c;exact(wB i).1 c
def C3n {v:List D5} {n:Int} (h:E3 v n) {i:Nat} (r:(i:Int)<n) (k:∀j:Nat,(j:Int)<n->i<j->A5 v (j:Int)=0) (o:A5 v (i:Int)=1):v≠ []/\asc (v.take (v.length-1))/\(∀e∈v.take (v.length-1),e∈v/\0<=e.1/\e.1<(i:Int))/\∀j:Nat,j<i->A5 (v.take (v.length-1)) (j:Int)=A5 v (j:Int):=by
 obtain⟨f,y,z⟩:=(A6i h r).2 ⟨k,o⟩;have A:0<v.length:=vK.2 f;have c:v=v.take (v.length-1)++ [gx D8 v ((v.length:Int)-1)]:=by
  have:=Lu (d:=D8) (l:=v) (t:=(v.length:Int)-1) ω ω;rw[(ω:((v.length:Int)-1+1).toNat=v.length),vD,(ω:((v.length:Int)-1).toNat=v.length-1)]at this;exact this
 generalize gx D8 v ((v.length:Int)-1)=l at*;have b:=h.1;generalize u:v.take (v.length-1)=w at*;have s:∀e∈w,e.1<(i:Int):=λe a=>by
  rw[c]at b;have:=(sX.1 b).2.2 e a l (qJ.2 rfl);omega
 refine⟨f,u▸zS b,λe a=>?_,λj x=>?_⟩
 . have g:e∈v:=by rw[c];exact sE _ a
   exact⟨g,(h.2 e g).1,s e a⟩
 rw[c,R6];have:A5 [l] (j:Int)=0:=D4 λe a hej=>by
  rw[qJ]at a;subst a;omega
 rw[this,rH]
def C8j {v:List D5} {n:Int} (h:E3 v n) {i:Nat} (c:∀j:Nat,j<i->A5 v (j:Int)=0) (d:A5 v (i:Int)≠0):1<=v.length/\gx D8 v 0∈v/\rv (gx D8 v 0).2=A5 v (i:Int)/\asc (v.drop 1)/\(∀e∈v.drop 1,e∈v/\(i:Int)<e.1/\e.1<n)/\∀j:Nat,i<j->A5 (v.drop 1) (j:Int)=A5 v (j:Int):=by
 obtain⟨k,b⟩:=(B6q h).2 ⟨c,d⟩;cases v with
 |nil=>exact absurd rfl k
 |cons e r=>
  have g:gx D8 (e::r) 0=e:=rfl;rw[g]at b|-;obtain⟨f,l⟩:=H8.1 h.1;refine⟨by rw[rK];omega,rD,?_,l,λx a=>⟨qI _ a,?_,(h.2 x (qI _ a)).2.1⟩,λj o=>?_⟩
  . rw[<-b,N9 h.1]
  . have:=f x a;omega
  exact(Aa ω).symm
def fwI (Y n:Nat) (ML:G9) (c:Nat->Rat) (p:Int×List C7×Unit):Prop:=0<=p.1/\p.1<=(n:Int)/\FW Y n p.1.toNat (el ML) c p.2.1
def fiI (s T Y i:Nat) (c:Rat) (w:List D5) (z0:List C7) (p:Int×List C7×Unit):Prop:=0<=p.1/\p.1<=(w.length:Int)/\FI s T Y i c w z0 p.1.toNat p.2.1
def bwI (Y n:Nat) (Q:Wf) (MU:G9) (y:Nat->Rat) (p:Int×List C7×List C7×Unit):Prop:=0<=p.1/\p.1<=(n:Int)/\BW Y n (n-p.1.toNat) (el MU) y p.2.1/\p.2.2.1.length=n/\∀j,n-p.1.toNat<=j->j<n->p.2.2.1.getD (ix Q j) zr=p.2.1.getD j zr
def biI (s Y n i:Nat) (c:Rat) (w:List D5) (z0:List C7) (p:Int×List C7×Unit):Prop:=0<=p.1/\p.1<=(w.length:Int)/\BI s Y n i c w z0 p.1.toNat p.2.1
def C0l {T:Nat} {b:List C7} (h:Tj T b) {i:Nat} (a:i<b.length):sz T (b.getD i zr):=h _ (C6 a)
def JN:su Af Ww:=λx ar ci=>by
 obtain⟨⟨(P:Wf),(Q:Wf),⟨av,lc,L⟩,⟨b0,ai,U⟩⟩,b,_⟩:=x;change List (List D5)at L U;change List C7 at b;change Int at av lc b0 ai;have cb:LR (av,lc,L):=Oo ar.1.2.2.1.2.2.2;have cc:LR (b0,ai,U):=Oo ar.1.2.2.2.2.2.2;have ce:∀x∈b,Qi x:=λx hx=>Oq (ar.2.1.2 x hx)
 obtain⟨ap,c8,c9,c6⟩:=ci;simp only[Ww,iB,N2,Et];refine⟨⟨ap,c8,c9⟩,?_⟩;rintro⟨(s:Int),_⟩ _ X;simp only at X|-;by_cases M:Bo (P,Q,(av,lc,L),(b0,ai,U)) (P.length:Int)
 case neg=>
  have a6:s=1:=X.1 M;subst a6;exact⟨λ_=>⟨λ_=>⟨by trivial,by trivial⟩,λr=>absurd r M⟩,λr=>absurd r (by simp)⟩
 by_cases R:b.length=P.length
 case neg=>
  have a6:s=4:=(X.2 M).1 R;subst a6;exact⟨λ_=>⟨λr=>absurd M r,λ_=>⟨λ_=>⟨by trivial,by trivial⟩,λr=>absurd r R⟩⟩,λr=>absurd r (by simp)⟩
 have a6:s=0:=(X.2 M).2 R;subst a6;refine⟨λr=>absurd r (by simp),λ_=>?_⟩;obtain⟨D,T0,Y0,af,aj,b8,cm,cn,co,⟨cp,cq⟩,bb⟩:=c6 M R;obtain⟨bf,bg,⟨bo,ag,bk⟩,⟨bp,ah,bl⟩,H⟩:=id M;simp only at bf bg bo ag bp ah;obtain⟨_,b5,d2⟩:=Oz bf;obtain⟨cy,b6,bn⟩:=Oz bg;subst bo bp;have ag:lc=(P.length:Int):=ag;have ah:ai=(P.length:Int):=ah;subst ag ah;have ap:P.length<=16384:=ap;have bb:Y0+P.length*(D+Y0+1)+D<=K1:=bb;have ac:1<=Y0:=qX aj b8;generalize an:P.length*(D+Y0+1)=d3 at*;have R:b.length=P.length:=R;have bx:L.length=P.length:=g0m bk.2.2.2.2.1;have c2:U.length=P.length:=g0m bl.2.2.2.2.1;have c0:∀i,i<P.length->E3 (L.getD i []) (P.length:Int)/\Xz (L.getD i []):=λi f=>by
  have J:=C6 (d:=([]:List D5)) (ω:i<L.length);exact⟨bk.2.2.2.2.2 _ J,cb _ J⟩
 have c3:∀i,i<P.length->E3 (U.getD i []) (P.length:Int)/\Xz (U.getD i []):=λi f=>by
  have J:=C6 (d:=([]:List D5)) (ω:i<U.length);exact⟨bl.2.2.2.2.2 _ J,cc _ J⟩
 have c4:∀i,i<P.length->ix P i<b.length/\Qi (b.getD (ix P i) zr):=λi f=>by
  have:=(b5 i f).2;exact⟨ω,ce _ (C6 ω)⟩
 refine⟨⟨qF _,qG _,ω,ω⟩,fwI Y0 P.length (↑P.length, ↑P.length,L) (λi=>rv (b.getD (ix P i) zr)),λp=>((P.length:Int)-p.1).toNat,⟨qG _,qF _,rG,λj c=>absurd c (uG j)⟩,?_⟩;rintro⟨(i:Int),(z:List C7),_⟩ _ ⟨N,cv,A⟩;simp only at N cv A|-;refine⟨λf=>?_,λf=>?_⟩
 . have f:=qA f;have G:i.toNat<P.length:=ω
   obtain⟨bv,d0⟩:=b5 _ G;obtain⟨ak,c5⟩:=c4 _ G;rw[K6 (d:=(0:Int)) N f,Il N (ω:i<(L.length:Int)),bv];obtain⟨Y,ao⟩:=c0 _ G;obtain⟨ch,O,u,au⟩:=C3n Y (i:=i.toNat) ω (λj c a4=>(H i.toNat j (sY.2 G) c).1 a4) (H i.toNat i.toNat (sY.2 G) (sY.2 G)).2.1;have cf:0<(L.getD i.toNat []).length:=vK.2 ch;have d1:=Eb Y;have bz:∀e∈L.getD i.toNat [],sz D e.2:=cm _ (C6 (l:=L) (ω:i.toNat<L.length));have ad:∀j:Nat,el ((P.length:Int),(P.length:Int),L) i.toNat j=A5 (L.getD i.toNat []) (j:Int):=λ_=>rfl
   generalize L.getD i.toNat []=v at*;rw[wv ω,(ω:((v.length:Int)-1).toNat=v.length-1)];simp only[show Int.toNat 0=0 from rfl,tP];generalize v.take (v.length-1)=w at*;have V:∀e∈w,0<=e.1/\e.1<(i.toNat:Int)/\sz D e.2/\Qi e.2:=λe h=>by
    obtain⟨b4,bt,bu⟩:=u e h;exact⟨bt,bu,bz e b4,ao e b4⟩
   have cr:w.length<=16384:=by
    have:=Eb (n:=(i.toNat:Int)) (v:=w) ⟨O,λe h=>⟨(u e h).2.1,(u e h).2.2,(Y.2 e (u e h).1).2.2⟩⟩;omega
   refine⟨⟨N,f⟩,⟨qF _,sY.2 ak⟩,⟨N,by rw[A.1];exact f⟩,⟨N,by rw[bx];exact f⟩,⟨qG _,ω,ω⟩,fiI D T0 Y0 i.toNat (rv (b.getD (ix P i.toNat) zr)) w z,λp=>((w.length:Int)-p.1).toNat,⟨qG _,qF _,?_⟩,?_⟩
   . show FI D T0 Y0 i.toNat (rv (b.getD (ix P i.toNat) zr)) w z 0 (z.set i.toNat (gx dQ b ↑(ix P i.toNat)));rw[K6 (d:=dQ) (qF _) (sY.2 ak),qQ];exact FI.init ⟨C0l co ak,c5,rfl⟩
   rintro⟨(aa:Int),(y:List C7),_⟩ _ ⟨E,az,B⟩;simp only at E az B|-;refine⟨λo=>?_,λo=>?_⟩
   . have o:=qA o;obtain⟨⟨a0,a9,aw⟩,_⟩:=FI.next A aj ac af G O V E o B
     have am:=F4 (d:=D8) E o;obtain⟨b3,ab,a2,bs⟩:=V _ am;rw[an]at a9;rw[wv ω];refine⟨⟨E,o⟩,⟨N,by rw[a0];exact f⟩,⟨b3,by rw[a0];omega⟩,⟨G4 a9 ω,G4 a2 ω,G4 aw ω⟩,?_⟩;rintro⟨(s:C7),_⟩ _ ⟨ax,ay⟩;exact⟨⟨N,by rw[a0];exact f⟩,⟨by simp only;omega,by simp only;omega,(FI.next A aj ac af G O V E o B).2 s ax ay⟩,ω⟩
   have o:=qB o;rw[wv ω];refine⟨⟨by simp only;omega,by simp only;omega,?_⟩,ω⟩;simp only;rw[(ω:(i+1).toNat=i.toNat+1)];refine FI.done A G (λe h=>⟨(u e h).2.1,(u e h).2.2⟩) (λj c=>(au j c).trans (ad j).symm) (ω:w.length<=aa.toNat) B b8 ?_;have:=cp i.toNat (λm=>if m=i.toNat then rv (b.getD (ix P i.toNat) zr)-B8 i.toNat (λm=>el ((P.length:Int),(P.length:Int),L) i.toNat m*rv (z.getD m zr))else rv (z.getD m zr)) G λj c=>by
    rw[B6 (g:=λm=>el ((P.length:Int),(P.length:Int),L) j m*rv (z.getD m zr)) λm J=>by rw[qL ω]];by_cases e:j=i.toNat
    . subst e;rw[qR rfl];grind
    rw[qL e,yD];exact(A.2 j ω).2
   rwa[qR rfl]at this
 have f:=qB f;have c7:i.toNat=P.length:=ω
 rw[c7]at A;refine⟨⟨qF _,qG _,ω,ω⟩,bwI Y0 P.length Q (↑P.length, ↑P.length,U) (λj=>rv (z.getD j zr)),λp=>((P.length:Int)-p.1).toNat,⟨qG _,qF _,?_,rG,λj I a3=>?_⟩,?_⟩
 . exact⟨A.1,λj c=>(A.2 j c).1,λj I a3=>absurd a3 (Nat.not_lt.2 I)⟩
 . simp only[Int.toNat_zero,g2m]at I;omega
 rintro⟨(k:Int),(a1:List C7),(b1:List C7),_⟩ _ ⟨cw,cx,F,a7,a8⟩;simp only at cw cx F a7 a8|-;have be:∀i,i<P.length->el ((P.length:Int),(P.length:Int),U) i i≠0:=λi f=>(H i i (sY.2 f) (sY.2 f)).2.2.2
 have b9:∀a m,m<a->a<P.length->el ((P.length:Int),(P.length:Int),U) a m=0:=λa m J W=>(H a m (sY.2 W) ω).2.2.1 J
 refine⟨λa5=>?_,λa5=>?_⟩
 . have a5:=qA a5;obtain⟨q,t,cj,ck,bh⟩:∃q:Nat,q<P.length/\(P.length:Int)-1-k=(q:Int)/\P.length-k.toNat=q+1/\P.length-(k+1).toNat=q:=⟨P.length-1-k.toNat,ω,ω,ω,ω⟩;have cs:i64.wrap (i64.wrap ((P.length:Int)-1)-k)=(q:Int):=by
    rw[wv (a:=(P.length:Int)-1) ω,wv ω];exact cj
   rw[ck]at F a8;obtain⟨bw,b7⟩:=b6 q t;have T:(q:Int)<(P.length:Int):=sY.2 t;obtain⟨Y,ao⟩:=c3 q t;have ba:∀e∈U.getD q [],sz D e.2:=cn _ (C6 (l:=U) (ω:q<U.length));have ad:∀j:Nat,el ((P.length:Int),(P.length:Int),U) q j=A5 (U.getD q []) (j:Int):=λ_=>rfl
   have bc:A5 (U.getD q []) (q:Int)≠0:=(H q q T T).2.2.2;obtain⟨cf,cg,bj,O,u,au⟩:=C8j Y (i:=q) (λj c=>(H q j T ω).2.2.1 c) bc;simp only[cs];rw[Il (qF q) (ω:(q:Int)<(U.length:Int)),K6 (d:=(0:Int)) (qF q) (ω:(q:Int)<(Q.length:Int))];simp only[qQ,vD,show Int.toNat 1=1 from rfl];rw[bw];simp only[qQ];generalize U.getD q []=v at*;generalize v.drop 1=w at*;have V:∀e∈w,(q:Int)<e.1/\e.1<(P.length:Int)/\sz D e.2/\Qi e.2:=λe h=>by
    obtain⟨b4,bt,bu⟩:=u e h;exact⟨bt,bu,ba e b4,ao e b4⟩
   have cr:w.length<=16384:=by
    have:=Eb (n:=(P.length:Int)) (v:=w) ⟨O,λe h=>⟨by have:=(u e h).2.1;omega,(u e h).2.2,(Y.2 e (u e h).1).2.2⟩⟩;omega
   have cd:(q:Int)<(U.length:Int):=by rw[c2];exact T
   refine⟨⟨qF _,cd⟩,⟨δ,ω,qG _⟩,biI D Y0 P.length q (rv (z.getD q zr)) w a1,λp=>((w.length:Int)-p.1).toNat,⟨qG _,qF _,BI.init F t⟩,?_⟩;rintro⟨(aa:Int),(y:List C7),_⟩ _ ⟨E,az,B⟩;simp only at E az B|-;refine⟨λo=>?_,λo=>?_⟩
   . have o:=qA o;obtain⟨⟨a0,a9,aw⟩,_⟩:=BI.next F af ac t O V E o B
     rw[an]at a9;have am:=F4 (d:=D8) E o;obtain⟨b3,ab,a2,bs⟩:=V _ am;have Z:(q:Int)<(y.length:Int):=by rw[a0];exact T
     rw[wv ω];refine⟨⟨E,o⟩,⟨qF _,Z⟩,⟨ω,by rw[a0];exact ab⟩,⟨G4 a9 ω,G4 a2 ω,G4 aw ω⟩,?_⟩;rintro⟨(s:C7),_⟩ _ ⟨ax,ay⟩;exact⟨⟨qF _,Z⟩,⟨by simp only;omega,by simp only;omega,(BI.next F af ac t O V E o B).2 s ax ay⟩,ω⟩
   have o:=qB o;obtain⟨b2,cz,bq⟩:=BI.done F t (λe h=>(u e h).2) (λj c=>(au j c).trans (ad j).symm) b9 (be q t) (ω:w.length<=aa.toNat) B λx hx=>by
    obtain⟨b4,ab,a2⟩:=B6p b9 be q x ω hx;rw[<-ab q (qV _)];refine cq b4 (λi f=>?_) q t;exact B5w (L:=el ((P.length:Int),(P.length:Int),L)) (U:=el ((P.length:Int),(P.length:Int),U)) (λj c=>(A.2 j c).2) a2 (λi f=>(H i i (sY.2 f) (sY.2 f)).2.1) (λi j a4 c=>(H i j ω (sY.2 c)).1 a4) f
   rw[an]at b2;have Z:y.length=P.length:=by
    obtain⟨b4,rfl,_⟩:=B;rw[qT];exact F.1
   have cu:∀j,j≠q->y.getD j zr=a1.getD j zr:=λj c=>by
    obtain⟨b4,rfl,_⟩:=B;exact E5 c
   have aq:(q:Int)<(y.length:Int):=by rw[Z];exact T
   refine⟨⟨qF _,aq⟩,⟨δ,ω⟩,⟨N1 (k:=K1) (G4 b2 ω) δ,N1 (ba _ cg) (qX (ω:D<=K1) δ)⟩,?_⟩;rintro⟨(s:C7),d4,_⟩ _ ⟨_,bi⟩;simp only at bi|-;have X:s=rc (rv (y.getD q zr)/el ((P.length:Int),(P.length:Int),U) q q):=by
    rw[ad, <-bj];exact(bi (by rw[bj];exact bc)).1
   rw[show(List.set y q s).getD q dQ=s from C1 (by rw[Z];exact t),wv ω];refine⟨⟨qF _,aq⟩,⟨qF _,by rw[cy];exact T⟩,⟨qF _,by rw[qT];exact aq⟩,⟨qF _,by rw[a7];exact sY.2 b7⟩,⟨by simp only;omega,by simp only;omega,?_,by simp only;rw[qT];exact a7,λj I a3=>?_⟩,ω⟩
   . simp only;rw[bh,X];exact bq
   simp only at I|-;rw[bh]at I;by_cases ae:j=q
   . subst ae;rw[C1 (by rw[a7];exact b7),C1 (by rw[Z];exact t)]
   rw[E5 λe=>ae (bn j q a3 t e),E5 ae,cu j ae];exact a8 j ω a3
 have a5:=qB a5;have ca:P.length-k.toNat=0:=ω
 rw[ca]at F a8;have bm:∀j,j<P.length->b1.getD (ix Q j) zr=a1.getD j zr:=λj c=>a8 j (rS _) c
 have ct:∀e∈b1,∃j,j<P.length/\e=a1.getD j zr:=λe h=>by
  obtain⟨a,W,rfl⟩:=R8 zr h;obtain⟨j,c,b4⟩:=Df (λa W=>(b6 a W).2) bn (ω:a<P.length);exact⟨j,c,by rw[<-b4];exact bm j c⟩
 refine⟨λr=>absurd M r,λ_=>⟨λr=>absurd R r,λ_=>⟨by trivial,a7,λe h=>?_,λa W=>?_⟩⟩⟩
 . obtain⟨j,c,rfl⟩:=ct e h;obtain⟨⟨x,I,_⟩,_⟩:=F.2.2 j (rS _) c;rw[I,H6]
 have cl:=B5w (L:=el ((P.length:Int),(P.length:Int),L)) (U:=el ((P.length:Int),(P.length:Int),U)) (v:=λj=>rv (a1.getD j zr)) (λj c=>(A.2 j c).2) (λj c=>(F.2.2 j (rS _) c).2) (λi f=>(H i i (sY.2 f) (sY.2 f)).2.1) (λi j a4 c=>(H i j ω (sY.2 c)).1 a4) W;refine Eq.trans (B6 λj c=>?_) cl;rw[bm j c];rfl
def LE:An:= {}
def TY:An:= {}
def HY:An:= {join:= [(7,⟨[6,7,8],[],[(2,false,[.own qb 3]),(3,false,[.own qb 3])],[],[]⟩)],loop:= [(2,⟨[6,7],[],[(2,false,[.own qb 3]),(3,false,[.own qb 3]),(8,false,vI)],[],[]⟩)]}
def FC:An:= {loop:= [(8,⟨[1,3,40,41],[0],[(4,false,vI),(42,false,vI)],[],[]⟩)]}
def Pv(x:MZ):Prop:=let a:=(rv x.2.2.1*rv x.1);(J8 x.2.2.1/\J8 x.1)/\N2 λr=>r.1=rc a->r.1=rc a
def Xm(x:QQ×List EE×Unit):Prop:=WU x.2.1/\UP λr=>(asc x.2.1->r.1=x.2.1)/\(¬asc x.2.1->asc r.1/\(∀(j:Int),A5 r.1 j=A5 x.2.1 j)/\r.1.length<=(20:Nat)/\HC (16777216:Nat) r.1)->∃(c:R2->Prop),∃(b:R2->(Bool×Wf)×Wf),(∀(y:R2),tQ.wf y.1/\tQ.wf y.2.1/\True->c y->(sz K1 y.1/\sz K1 x.1)/\N2 λz=>z.1=rc (rv x.1*rv y.1)->true=true/\z.1=b y)/\(List.length r.1<=100000/\(0:Nat)<=(100000:Nat)/\∀(u v:C7),(u=zr\/∃(e:EE),e∈r.1/\e.2=u)->(v=zr\/∃(e:EE),e∈ []/\e.2=v)->(c,b).1 (u,v,()))/\UP λa=>a.1=J1 b r.1 []->V2 a.1/\∀(i:Int),A5 a.1 i=rv x.1*A5 x.2.1 i
abbrev C8f:=Wf×Wf×Int×Unit
def Nv(x:List Bool×Unit):Prop:=let c:=(140737488355328:Nat);let b:=(x.1.length:Int);∃(I:C8f->Prop),∃(f: _->Nat),I ([],[],(0:Int),())/\∀(p:C8f),(Ty.int i64).sl.wf p.1/\(Ty.int i64).sl.wf p.2.1/\(Ty.int i64).wf p.2.2.1/\True->I p->(iB (decide (p.2.2.1<b)) (∃(J:Dy->Prop),((0<=p.2.2.1/\p.2.2.1<b)/\(iB (gx false x.1 p.2.2.1) (((p.1.length+ [p.2.2.1].length)*(8:Nat)<=c/\p.1.length+ [p.2.2.1].length<=9223372036854775807)/\J (p.1++ [p.2.2.1],p.2.1,())) (((p.2.1.length+ [p.2.2.1].length)*(8:Nat)<=c/\p.2.1.length+ [p.2.2.1].length<=9223372036854775807)/\J (p.1,p.2.1++ [p.2.2.1],()))))/\∀(d:Dy),let a:=(d.1,d.2.1,i64.wrap (p.2.2.1+1),());(Ty.int i64).sl.wf d.1/\(Ty.int i64).sl.wf d.2.1/\True->J d->I a/\f a<f p) ((p.1=Z8 x.1.length fun(i:Nat)=>x.1.getD i false)/\p.2.1=Z8 x.1.length fun(i:Nat)=> !x.1.getD i false))
def Kw(x:(Wf×MM×Int×Int×List (List EE))×Unit):Prop:=let f:=(0:Int);let a:=(x.1.1.length:Int);let i:=(decide (x.1.2.2.2.1≠a));let g:=(L5 (decide (x.1.2.1.1≠a)) true (decide (x.1.2.1.2.1≠a)));True/\Jp λr=>r.1=decide (A4 x.1.2.1)->((!r.1)=false->True)/\∀(h:W4),((!r.1)=false->(True/\True)/\h.1=decide (A4 x.1.2.2))->(iB ((L5 (!r.1) true !h.1)) (false=decide (fmd x.1)) ((iB (L5 g true i) (false=decide (fmd x.1)) (∃(I:Ch->Prop),∃(d: _->Nat),I (f,f,())/\∀(p:Ch),let e:=(decide (gx f x.1.1 p.2.1<p.1));let c:=(decide (i64.wrap (a+x.1.2.2.1)<=gx f x.1.1 p.2.1));let b:=(i64.wrap (gx f x.1.1 p.2.1+1),i64.wrap (p.2.1+1),());(Ty.int i64).wf p.1/\(Ty.int i64).wf p.2.1/\True->I p->(iB (decide (p.2.1<a)) ((f<=p.2.1/\p.2.1<a)/\(iB (L5 e true c) (false=decide (fmd x.1)) (I b/\d b<d p))) (true=decide (fmd x.1)))))))
def CN:su Az Pv:=λx g b=>by
 obtain⟨(p:C7),(q:C7),(f:C7),_⟩:=x;obtain⟨c,a⟩:sz K1 p/\sz K1 f:=b;simp only[Pv,N2];exact⟨⟨N1 a δ,N1 c δ⟩,λr _ d=>d⟩
def KE:su Ay Xm:=λx s j=>by
 obtain⟨(f:C7),(b:List D5),_⟩:=x;obtain⟨i,c,g,h⟩:sz K1 f/\ED K1 b:=j;simp only[Xm,N2,UP];refine⟨.inl c,?_⟩;rintro⟨r,_⟩ _ ⟨a,_⟩;have a:r=b:=a c;simp only;subst a;refine⟨λy=>sz K1 y.1,λy=>rc (rv f*rv y.1),?_,⟨h,δ,λu v d o=>lC g d⟩,?_⟩
 . rintro⟨u,v,_⟩ _ d;exact⟨⟨d,i⟩,λz _ k=>⟨by trivial,k⟩⟩
 rintro⟨r,_⟩ _ a;simp only at a|-;rw[a];obtain⟨l,_,n⟩:=Zu (λy=>rc (rv f*rv y.1)) (λp q=>rv f*p) (tA _) _ [] (λ_ _ _ _=>rfl) c List.Pairwise.nil;exact⟨l,n⟩
def Yw:su Y4 Nv:=λx y u=>by
 obtain⟨(l:List Bool),_⟩:=x;have w:l.length<=100000:=u;simp only[Nv,iB];refine⟨λp=>0<=p.2.2.1/\p.2.2.1<=(l.length:Int)/\p.1=Z8 p.2.2.1.toNat (λi=>l.getD i false)/\p.2.1=Z8 p.2.2.1.toNat (λi=> !l.getD i false),λp=>((l.length:Int)-p.2.2.1).toNat,⟨qG _,qF _,rfl,rfl⟩,?_⟩;rintro⟨(r:Wf),(b:Wf),(i:Int),_⟩ _ ⟨g,s,a,d⟩;simp only at g s a d|-;refine⟨λh=>?_,λh=>?_⟩
 . have h:=qA h;have t:=Om i.toNat λj=>l.getD j false
   rw[<-a, <-d]at t;rw[K6 g h,wv ω];have k:(i+1).toNat=i.toNat+1:=ω
   refine⟨λp=>p.1=Z8 (i+1).toNat (λi=>l.getD i false)/\p.2.1=Z8 (i+1).toNat (λi=> !l.getD i false),⟨⟨g,h⟩,λf=>?_,λf=>?_⟩,?_⟩
   . refine⟨⟨by simp only[qY];omega,by simp only[qY];omega⟩,?_⟩;simp only;rw[k,Jj,Jj,qR f,qL (by rw[f];decide), <-a, <-d,(ω:((i.toNat:Nat):Int)=i)];exact⟨rfl,rfl⟩
   . refine⟨⟨by simp only[qY];omega,by simp only[qY];omega⟩,?_⟩;simp only;rw[k,Jj,Jj,qL (by rw[f];decide),qR (by rw[f];rfl), <-a, <-d,(ω:((i.toNat:Nat):Int)=i)];exact⟨rfl,rfl⟩
   rintro⟨c,v,_⟩ _ ⟨n,o⟩;simp only at n o|-;exact⟨⟨ω,ω,n,o⟩,ω⟩
 have h:=qB h;rw[(ω:i.toNat=l.length)]at a d;exact⟨a,d⟩
def Wl:su V9 Kw:=λx T g=>by
 obtain⟨⟨(K:Wf),⟨(j:Int),(n:Int),A⟩,⟨(br:Int),(o:Int),B⟩⟩,_⟩:=x;change List (List D5)at A B;have Y:K.length<=9223372036854775807:=T.1.1.1;simp only[Kw,iB,Jp];refine⟨trivial,?_⟩;rintro⟨(G:Bool),_⟩ _ t;simp only at t|-;refine⟨λ_=>trivial,?_⟩;rintro⟨(s:Bool),_⟩ u;simp only at u|-;rw[H3];refine⟨λh=>?_,λh=>?_⟩
 . refine(rC λd=>?_).symm;have y:G=true:=by rw[t];exact rA d.1
   have b:s=true:=by rw[(u (by rw[y];rfl)).2];exact rA d.2.1
   rw[y,b]at h;cases h
 simp only[rE,zO]at h;obtain⟨D,P⟩:=h;have F:A4 (j,n,A):=qA (t.symm.trans D);have w:A4 (br,o,B):=qA ((u (by rw[D];rfl)).2.symm.trans P);rw[H3,H3];refine⟨λh=>?_,λh=>?_⟩
 . refine(rC λd=>?_).symm;rw[rC (sF.2 d.2.2.1),rC (sF.2 d.2.2.2.1),rC (sF.2 d.2.2.2.2.1)]at h;cases h
 simp only[rE,rM,sF]at h;obtain⟨⟨c1,H⟩,I⟩:=h;have a:0<=br/\br<=16384:=⟨w.1,w.2.1⟩;have Z:j<=16384:=F.2.1;have U:i64.wrap ((K.length:Int)+br)=(K.length:Int)+br:=wv ω;rw[U];have E:fmd (K,(j,n,A),(br,o,B))↔K.Pairwise (· < ·)/\∀b∈K,0<=b/\b<(K.length:Int)+br:=⟨λh=>h.2.2.2.2.2,λh=>⟨F,w,c1,H,I,h⟩⟩;refine⟨λp=>0<=p.2.1/\p.2.1<=(K.length:Int)/\0<=p.1/\p.1<=(K.length:Int)+br/\(K.take p.2.1.toNat).Pairwise (· < ·)/\(∀b∈K.take p.2.1.toNat,0<=b/\b<(K.length:Int)+br/\b<p.1)/\(p.1=0\/∃b∈K.take p.2.1.toNat,p.1=b+1),λp=>((K.length:Int)-p.2.1).toNat,⟨qG _,qF _,qG _,ω,List.Pairwise.nil,λb a=>(by cases a), .inl rfl⟩,?_⟩;rintro⟨(e:Int),(i:Int),_⟩ _ ⟨v,V,J,M,g,f,k⟩;simp only at v V J M g f k|-;refine⟨λh=>?_,λh=>?_⟩
 . have h:=qA h;rw[K6 v h,H3];have R:K.getD i.toNat 0∈K:=C6 ω;have l:K.take (i+1).toNat=K.take i.toNat++ [K.getD i.toNat 0]:=by
    rw[(ω:(i+1).toNat=i.toNat+1),rP,qM ω,G6 _ _ ω];rfl
   refine⟨⟨v,h⟩,λr=>?_,λr=>?_⟩
   . refine(rC λd=>?_).symm;obtain⟨N,O⟩:=E.1 d;have W:=O _ R;have X:e<=K.getD i.toNat 0:=by
      rcases k with k| ⟨b,a,k⟩
      . omega
      have z:=zS N (i:=(i+1).toNat);rw[l,sX]at z;have:=z.2.2 b a _ (wV _);omega
     simp only[tX,rU]at r;omega
   simp only[rE,rM]at r;rw[wv ω,wv ω];refine⟨⟨ω,ω,ω,ω,?_,?_,?_⟩,ω⟩
   . rw[l,sX];exact⟨g,wD _ _,λb a c Q=>by rw[qJ.1 Q];have:=(f b a).2.2;omega⟩
   . intro b a;rw[l]at a;rcases qU.1 a with a|a
     . have:=f b a;omega
     rw[qJ.1 a];omega
   exact .inr ⟨K.getD i.toNat 0,by rw[l];exact sQ _ (wV _),rfl⟩
 have h:=qB h;rw[qP ω]at g f;exact(rA (E.2 ⟨g,λb a=>⟨(f b a).1,(f b a).2.1⟩⟩)).symm
noncomputable def Li:G1:= []
def Lc:An:= {}
noncomputable def Qr:G1:= [(52,K2),(74,P8),(99,W1 (Md ⟨prog,aP⟩ [(17,Li,Lc)] f99.results.toList (f99.body.getD .skip) f99.ntmps))]
def Qb:An:= {loop:= [(8,⟨[2,4,5,19,20,21,26,27],[1,2,3,5,8],[(28,false,vI)],[],[(7, .rows tE 49 105)]⟩),(5,⟨[2,4,19,20],[1,2,3,5,8],[(21,false,vI)],[],[(7, .rows tE 49 105)]⟩)],plan:= [(10,[5,7,9,12],[16,18],false, .done)]}
def Xw:An:= {join:= [(19,⟨[3,4,6,8,9,36,37,38],[1,2,3,9,10],[],[],[(7, .row qd 49)]⟩)],loop:= [(9,⟨[3,4,6,8,9,36,37],[1,2,3,9,10],[(38,false,vI)],[],[(7, .row qd 49)]⟩)],plan:= [(18,[1,3],[8],true, .done)]}
noncomputable def Yj:G1:= [(58,N6),(103,P7),(105,Ax),(106,Af),(107,Ay),(108,R0),(104,{Q9 with inl:=some (Md ⟨prog,aP⟩ [(27,Qr,Qb)] f104.results.toList (f104.body.getD .skip) f104.ntmps)})]
def Ij(x:MY):Prop:=let O:=(140737488355328:Nat);let M:=x.2.1.2.1.toNat;let K:=(1:Nat);let z:=x.1.1.toNat;let q:=(1:Int);let o:=(0:Int);(N4 K1 x.1/\(A4 x.1->x.1.1=x.1.2.1->∃(T:Nat),K<=T/\(8:Nat)*T+(8:Nat)<=K1/\cR z z (el x.1) T))/\∀(r:C7a),let A:=r.1.1.length;let P:=(↑A:Int);(WA r.1.1/\WA r.1.2.1/\WfM r.1.2.2.1/\O5 r.1.2.2.2.1/\O5 r.1.2.2.2.2.1/\Oa r.1.2.2.2.2.2)/\O5 r.2.1/\True->(¬A4 x.1->r.1=lY/\r.2.1=q)/\(A4 x.1->(x.1.1≠x.1.2.1->r.1=lY/\r.2.1=4)/\(x.1.1=x.1.2.1->(¬nonsing z (el x.1)->r.1=lY/\r.2.1=6)/\(nonsing z (el x.1)->Bo r.1 x.1.1/\r.2.1=o/\(∀(v:List EE),v∈r.1.2.2.1.2.2->V2 v)/\(∀(v:List EE),v∈r.1.2.2.2.2.2->V2 v)/\(∀(T:Nat),K<=T->cR z z (el x.1) T->∀(i j:Nat),i<Int.toNat x.1.1->qs (T+T) (el r.1.2.2.1 i j)/\qs (T+T) (el r.1.2.2.2 i j))/\∀(i j:Nat),i<Int.toNat x.1.1->j<Int.toNat x.1.1->luM r.1 z i j=el x.1 (ix r.1.1 i) (ix r.1.2.1 j))))->(iB (decide (r.2.1≠o)) (mD x.1 x.2.1 (o,o,[]) r.2.1) (True/\Jp λV=>V.1=decide (A4 x.2.1)->(iB ((!V.1)) ((iB (decide (q≠o)) (mD x.1 x.2.1 (o,o,[]) q) (True/\N2 λr=>r.1=ri (-1:Int)->False))) ((o<=x.2.1.2.1/\x.2.1.2.1<=x.2.1.2.1/\(↑(24:Nat):Int)*x.2.1.2.1<=281474976710656/\x.2.1.2.1<=9223372036854775807)/\∃(I:GD->Prop),∃(f: _->Nat),I (o,List.replicate M [],())/\∀(p:GD),let L:=(gx [] x.2.1.2.2 p.1);let k:Prop:=(p.1<(x.2.1.2.2.length:Int));(Ty.int i64).wf p.1/\Oa p.2.1/\True->I p->(iB (decide k) ((o<=p.1/\k)/\∃(I_1:GD->Prop),∃(d: _->Nat),I_1 (o,p.2.1,())/\∀(Q:GD),let G:=(i64.wrap (p.1+q),Q.2.1,());let m:=(gx D8 L Q.1);let n:=m.1.toNat;let B:=(List.getD Q.2.1 n []);let h:Prop:=(Q.1<(↑L.length:Int));let g:(C8)->Prop:=(λr=>(B.length+ [(p.1,r.1)].length)*(64:Nat)<=O/\B.length+ [(p.1,r.1)].length<=9223372036854775807);let c:Prop:=(o<=m.1/\m.1<(Q.2.1.length:Int));let a:(C8)->Prop:=(λr=>let N:=(p.1,r.1);let C:=(List.getD Q.2.1 n []++ [N]);let D:=(i64.wrap (Q.1+q),List.set Q.2.1 n C,());((B.length+ [N].length)*(64:Nat)<=O/\B.length+ [N].length<=9223372036854775807)/\c/\Int.toNat m.1=Int.toNat m.1/\I_1 D/\d D<d Q);let b:Prop:=((J8 m.2/\N2 λr=>r.1=rc (rv m.2)->a r)/\J8 m.2/\N2 λr=>let E:=(List.getD Q.2.1 n []++ [(p.1,r.1)]);let F:=(i64.wrap (Q.1+q),List.set Q.2.1 n E,());r.1=rc (rv m.2)->(a r)/\(a r)/\(g r)/\c/\Int.toNat m.1=Int.toNat m.1/\I_1 F/\d F<d Q);(Ty.int i64).wf Q.1/\Oa Q.2.1/\True->I_1 Q->(iB (decide h) ((o<=Q.1/\h)/\c/\b/\b/\J8 m.2/\N2 λr=>let Z:=(List.getD Q.2.1 n []++ [(p.1,r.1)]);let u:=(i64.wrap (Q.1+q),List.set Q.2.1 n Z,());r.1=rc (rv m.2)->((a r)/\(a r)/\a r)/\((a r)/\(a r)/\a r)/\((a r)/\a r)/\((a r)/\a r)/\(g r)/\(c/\Int.toNat m.1=Int.toNat m.1/\I_1 u/\d u<d Q)/\c/\Int.toNat m.1=Int.toNat m.1/\I_1 u/\d u<d Q) (I G/\f G<f p))) ((iB (decide (o≠o)) (mD x.1 x.2.1 (o,o,[]) o) (True/\N2 λU=>U.1=ri (-1:Int)->∃(I:GD->Prop),∃(f: _->Nat),I (o,p.2.1,())/\∀(Q:GD),let y:=(List.getD Q.2.1 Q.1.toNat []);let w:=(x.2.1.2.1,x.2.1.1,Q.2.1);let X:Prop:=(Q.1<(p.2.1.length:Int));let l:Prop:=(o<=Q.1/\Q.1<(Q.2.1.length:Int));let t:Prop:=((↑y.length:Int)=o);(Ty.int i64).wf Q.1/\Oa Q.2.1/\True->I Q->(iB (decide X) (∃(J:C4u->Prop),(l/\(iB (decide t) (J (Q.2.1,())) ((ED K1 y/\E3 y x.2.1.1/\o<=x.2.1.1/\x.2.1.1<=16384)/\∀(S:C4w),WB S.1/\True/\True->S.1=dl x.2.1.1 (A5 y)/\S.2.1=true->(iB ((!S.2.1)) (mD x.1 x.2.1 (o,o,[]) q) ((List.length r.1.1<=16384/\N4 K1 r.1.2.2.1/\N4 K1 r.1.2.2.2/\(Bo r.1 P->List.length S.1=List.length r.1.1->∃(s:Nat),∃(T:Nat),∃(Y:Nat),K<=s/\K<=T/\T<=Y/\N4 s r.1.2.2.1/\N4 s r.1.2.2.2/\Tj T S.1/\C0c Y r.1 S.1/\Y+List.length r.1.1*(s+Y+K)+s<=K1))/\∀(R:A4o),WB R.1/\O5 R.2.1/\True->(¬Bo r.1 P->R.1= []/\R.2.1=q)/\(Bo r.1 P->(List.length S.1≠List.length r.1.1->R.1= []/\R.2.1=4)/\(List.length S.1=List.length r.1.1->R.2.1=o/\R.1.length=List.length r.1.1/\(∀(e:QQ),e∈R.1->e=rc (rv e))/\∀(i:Nat),i<List.length r.1.1->(B8 A fun(j:Nat)=>luM r.1 A i j*rv (R.1.getD (ix r.1.2.1 j) zr))=rv (List.getD S.1 (ix r.1.1 i) zr)))->(iB (decide (R.2.1≠o)) (mD x.1 x.2.1 (o,o,[]) R.2.1) ((List.length R.1<=100000/\Tj K1 R.1)/\UP λr=>Ws R.1.length (fun(j:Nat)=>rv (List.getD R.1 j zr)) r.1->(sz K1 U.1/\ED K1 r.1)/\UP λW=>KH (fun(i:Int)=>rv U.1*A5 r.1 i) W.1->l/\J (List.set Q.2.1 Q.1.toNat W.1,()))))))))/\∀(p:C4u),let H:=(i64.wrap (Q.1+q),p);Oa p.1/\True->J p->I H/\f H<f Q) (N4 K1 w/\∀(r:Nj),WfM r.1/\O5 r.2.1/\True->(¬A4 w->r.1=zm/\r.2.1=q)/\(A4 w->Ep x.2.1.1.toNat M (fun(i j:Nat)=>el w j i) r.1/\r.2.1=o)->mD x.1 x.2.1 r.1 r.2.1))))))))))
def TCI (s Y B:Nat) (w:List D5) (u:C7) (z0:List C7) (t:Nat) (z:List C7):Prop:=
 z.length=z0.length/\(∀j:Nat,(∀e∈w.take t,e.1≠(j:Int))->z.getD j zr=z0.getD j zr)/\∀e∈w.take t,lZ (B+(s+Y+1)) (rv (z0.getD e.1.toNat zr)-rv e.2*rv u) (z.getD e.1.toNat zr)/\(z0.getD e.1.toNat zr=rc (rv (z0.getD e.1.toNat zr))->z.getD e.1.toNat zr=rc (rv (z.getD e.1.toNat zr)))
variable {s T Y B n i:Nat} {w:List D5} {u:C7} {z0 z:List C7}
def TCI.init:TCI s Y B w u z 0 z:=⟨rfl,λ_ _=>rfl,λe a=>(by rw[g0b]at a;cases a)⟩
def TCI.next (E:asc w) (hw:∀e∈w,0<=e.1/\e.1<(z0.length:Int)/\sz s e.2/\Qi e.2/\e.1≠(i:Int)/\∃q,lZ B q (z0.getD e.1.toNat zr)) (hs:1<=s) (hB:1<=B) (hY:1<=Y) (hu:lZ Y (rv u) u) (hui:z0.getD i zr=u) {t:Int} (t0:0<=t) (t1:t<(w.length:Int)) (h:TCI s Y B w u z0 t.toNat z):
 (z.getD i zr=u/\z.getD (gx D8 w t).1.toNat zr=z0.getD (gx D8 w t).1.toNat zr/\sz B (z.getD (gx D8 w t).1.toNat zr))/\∀r:C7,(rv u=0->r=z.getD (gx D8 w t).1.toNat zr)->(rv u≠0->r=rc (rv (z.getD (gx D8 w t).1.toNat zr)-rv (gx D8 w t).2*rv u))->TCI s Y B w u z0 (t+1).toNat (z.set (gx D8 w t).1.toNat r):=by
 obtain⟨l,c,D⟩:=h;have n:=B1k (d:=D8) E t0 t1;have G:=F4 (d:=D8) t0 t1;have o:=Lu (d:=D8) t0 t1;generalize gx D8 w t=e at*;obtain⟨M,N,x,A,O,q,b⟩:=hw e G;have P:((e.1.toNat:Nat):Int)=e.1:=ω
 have I:z.getD i zr=u:=by
  rw[c i λy a=>(hw y (rO a)).2.2.2.2.1];exact hui
 have g:z.getD e.1.toNat zr=z0.getD e.1.toNat zr:=c _ λy a=>by have:=n y a;omega
 refine⟨⟨I,g,by rw[g];exact b.1⟩,λr j k=>⟨by rw[qT];exact l,λJ f=>?_,λy a=>?_⟩⟩
 . rw[o]at f;have:=f e (sQ _ (qJ.2 rfl));rw[E5 ω];exact c J λy a=>f y (sE _ a)
 rw[o]at a;rcases qU.1 a with a|a
 . have:=n y a;have:=(hw y (rO a)).1;rw[E5 ω];exact D y a
 rw[qJ.1 a,C1 (by rw[l];omega)];rw[g]at j k;have H:lZ B (rv (z0.getD e.1.toNat zr)) (z0.getD e.1.toNat zr):=⟨b.1,b.2.1,rfl⟩;refine⟨CU (bZ H A x hs hu hB hY j k) ω,λF=>?_⟩;by_cases v:rv u=0
 . rw[j v];exact F
 rw[k v,H6]
def TCI.done (g:asc w) (a:∀e∈w,0<=e.1) {t:Nat} (b:w.length<=t) (h:TCI s Y B w u z0 t z):z.length=z0.length/\∀j:Nat,(A5 w (j:Int)=0/\(∀e∈w,e.1≠(j:Int))->z.getD j zr=z0.getD j zr)/\(∀q,lZ B q (z0.getD j zr)->lZ (B+(s+Y+1)) (q-A5 w (j:Int)*rv u) (z.getD j zr))/\(z0.getD j zr=rc (rv (z0.getD j zr))->z.getD j zr=rc (rv (z.getD j zr))):=by
 obtain⟨a,d,f⟩:=h;rw[qP b]at d f;refine⟨a,λj=>⟨λc=>d j c.2,λq l=>?_,λi=>?_⟩⟩
 . by_cases b:∃e∈w,e.1=(j:Int)
   . obtain⟨e,a,k⟩:=b;have c:e.1.toNat=j:=ω
     have:=(f e a).1;rw[c]at this;rw[<-k,O0 g a, <-l.2.2];exact this
   have b:∀e∈w,e.1≠(j:Int):=λe a g=>b ⟨e,a,g⟩
   rw[d j b,D4 b,sO,tL,wK,rH];exact CU l ω
 by_cases b:∃e∈w,e.1=(j:Int)
 . obtain⟨e,a,k⟩:=b;have c:e.1.toNat=j:=ω
   have:=(f e a).2;rw[c]at this;exact this i
 rw[d j λe a g=>b ⟨e,a,g⟩];exact i
def TW (s T Y n i:Nat) (U:Nat->Nat->Rat) (c:Nat->Rat) (z:List C7):Prop:=z.length=n/\(∀j,j<i->(∃q,z.getD j zr=rc q/\qs Y q)/\B8 (j+1) (λm=>U m j*rv (z.getD m zr))=c j)/\∀j,i<=j->j<n->lZ (T+i*(s+Y+1)) (c j-B8 i (λm=>U m j*rv (z.getD m zr))) (z.getD j zr)
def TB (s T Y n i:Nat) (L:Nat->Nat->Rat) (c:Nat->Rat) (z:List C7):Prop:=z.length=n/\(∀j,j<n->z.getD j zr=rc (rv (z.getD j zr)))/\(∀j,i<=j->j<n->qs Y (rv (z.getD j zr))/\B8 n (λm=>L m j*rv (z.getD m zr))=c j)/\∀j,j<i->lZ (T+(n-i)*(s+Y+1)) (c j-B8 n (λm=>if i<=m then L m j*rv (z.getD m zr)else 0)) (z.getD j zr)
variable {U L:Nat->Nat->Rat} {c:Nat->Rat}
def TW.step (h:TW s T Y n i U c z0) (I:i<n) (P:U i i≠0) (A:u=rc (rv (z0.getD i zr)/U i i)) (M:qs Y (rv u)) (F:asc w) (g:∀e∈w,(i:Int)<e.1/\e.1<(n:Int)) (E:∀j:Nat,i<j->A5 w (j:Int)=U i j) {t:Nat} (N:w.length<=t) (G:TCI s Y (T+i*(s+Y+1)) w u (z0.set i u) t z):TW s T Y n (i+1) U c z:=by
 obtain⟨D,l,o⟩:=h;obtain⟨B,k⟩:=G.done F (λe b=>by have:=(g e b).1;omega) N;have r:∀j:Nat,j<=i->z.getD j zr=(z0.set i u).getD j zr:=λj a=>(k j).1 ⟨D4 λe b H=>by have:=(g e b).1;omega,λe b H=>by have:=(g e b).1;omega⟩
 have f:∀j:Nat,j<i->z.getD j zr=z0.getD j zr:=λj a=>by rw[r j ω,E5 ω]
 have d:z.getD i zr=u:=by rw[r i (qV _),C1 ω]
 have x:rv u=rv (z0.getD i zr)/U i i:=by rw[A,H6]
 have y:∀(j:Nat),B8 i (λm=>U m j*rv (z.getD m zr))=B8 i (λm=>U m j*rv (z0.getD m zr)):=λj=>B6 λm v=>by rw[f m v]
 refine⟨by rw[B,qT];exact D,λj a=>?_,λj O J=>?_⟩
 . rcases(ω:j<i\/j=i)with a|rfl
   . rw[f j a];refine⟨(l j a).1,?_⟩;rw[<-(l j a).2];exact B6 λm v=>by rw[f m ω]
   rw[d];refine⟨⟨_,A,by rw[<-x];exact M⟩,?_⟩;show B8 j (λm=>U m j*rv (z.getD m zr))+U j j*rv (z.getD j zr)=c j;rw[y,d,x,(o j (qV _) I).2.2];grind
 have:=(k j).2.1 (c j-B8 i (λm=>U m j*rv (z0.getD m zr))) (by rw[E5 ω];exact o j ω J);rw[E j ω]at this;have e:c j-B8 i (λm=>U m j*rv (z0.getD m zr))-U i j*rv u=c j-B8 (i+1) (λm=>U m j*rv (z.getD m zr)):=by
  show _=c j-(B8 i (λm=>U m j*rv (z.getD m zr))+U i j*rv (z.getD i zr));rw[y,d];grind
 rw[e]at this;exact CU this (by rw[tZ];omega)
def A7g (n i:Nat) (b:i<n) (f:Nat->Rat):B8 n (λm=>if i<=m then f m else 0)=f i+B8 n (λm=>if i+1<=m then f m else 0):=by
 have a:B8 n (λm=>if i<=m then f m else 0)=B8 n (λm=>(if m=i then f i else 0)+if i+1<=m then f m else 0):=B6 λm _=>by
  rcases g4n m i with h|h|h
  . rw[qL ω,qL ω,qL ω,rH]
  . subst h;rw[qR (qV _),qR rfl,qL ω,rH]
  rw[qR ω,qL ω,qR ω,tB]
 rw[a,Bt,H4 (k:=i) b λm _ c=>qL c,qR rfl]
def TB.step (h:TB s T Y n (i+1) L c z0) (x:i<n) (F:L i i=1) (v:∀m j,m<j->j<n->L m j=0) (O:qs Y (rv (z0.getD i zr))) (I:asc w) (o:∀e∈w,0<=e.1/\e.1<(i:Int)) (H:∀j:Nat,j<i->A5 w (j:Int)=L i j) {t:Nat} (P:w.length<=t) (J:TCI s Y (T+(n-(i+1))*(s+Y+1)) w (z0.getD i zr) z0 t z):TB s T Y n i L c z:=by
 obtain⟨E,G,r,u⟩:=h;obtain⟨A,l⟩:=J.done I (λe f=>(o e f).1) P;have g:∀j:Nat,i<=j->z.getD j zr=z0.getD j zr:=λj d=>(l j).1 ⟨D4 λe f M=>by have:=(o e f).2;omega,λe f M=>by have:=(o e f).2;omega⟩
 have y:∀(a j:Nat),i<=a->B8 n (λm=>if a<=m then L m j*rv (z.getD m zr)else 0)=B8 n (λm=>if a<=m then L m j*rv (z0.getD m zr)else 0):=λa j ha=>B6 λm _=>by
  by_cases b:a<=m
  . rw[qR b,qR b,g m ω]
  rw[qL b,qL b]
 refine⟨by rw[A];exact E,λj d=>(l j).2.2 (G j d),λj N k=>?_,λj d=>?_⟩
 . rw[g j N];rcases(ω:j=i\/i<j)with rfl|d
   . refine⟨O,?_⟩;have B:=(u j ω).2.2;have D:B8 n (λm=>L m j*rv (z.getD m zr))=B8 n (λm=>if j<=m then L m j*rv (z.getD m zr)else 0):=B6 λm _=>by
      by_cases b:j<=m
      . rw[qR b]
      rw[qL b,v m j ω k,sO]
     rw[D,A7g n j x,y (j+1) j ω,F,g j (qV _),B];grind
   refine⟨(r j d k).1,?_⟩;rw[<-(r j d k).2];refine B6 λm _=>?_
   by_cases b:i<=m
   . rw[g m b]
   rw[v m j ω k,sO,sO]
 have:=(l j).2.1 _ (u j ω);rw[H j d]at this;rw[A7g n i x,y (i+1) j ω,g i (qV _)];have e:c j-B8 n (λm=>if i+1<=m then L m j*rv (z0.getD m zr)else 0)-L i j*rv (z0.getD i zr)=c j-(L i j*rv (z0.getD i zr)+B8 n (λm=>if i+1<=m then L m j*rv (z0.getD m zr)else 0)):=by grind
 rw[e]at this;refine CU this ?_;have:n-i=n-(i+1)+1:=ω
 rw[this,tZ];omega
def C2c {n s:Nat} {A:Nat->Nat->Rat} {c:Nat->Rat} (b:∀i j,i<n->j<n->qs s (A i j)) (d:∀i,i<n->qs s (c i)):∀i j,i<n->j<n+1->qs s (cO n A c i j):=λi j a f=>by
 unfold cO;split
 . rename_i h;exact b i j a h
 exact d i a
def B8u {f:LUV} {n:Nat} (h:Bo f (n:Int)):det n (luM f n)≠0:=by
 obtain⟨_,_,_,_,b⟩:=h;have e:det n (luM f n)=det n (FK n (el f.2.2.1) (el f.2.2.2)):=rfl;rw[e,VB,A5g λi j a c=>(b i j ω ω).1 a,jE λi j a c=>(b i j ω ω).2.2.1 a];intro a;rcases g0s.1 a with a|a
 . exact AZ (λi _ c=>by rw[(b i i ω ω).2.1];decide) a
 exact AZ (λi _ c=>(b i i ω ω).2.2.2) a
def A6h {L:Nat->Nat->Rat} {b:Nat->Rat} {k:Nat} {z:Nat->Rat} (f:∀i,i<=k->B8 i (λj=>L i j*z j)+z i=b i):∀d:Nat,∃a:Nat->Rat,(∀j,j<=k->a j=z j)/\∀i,i<=k+d->B8 i (λj=>L i j*a j)+a i=b i
 |0=>⟨z,λ_ _=>rfl,λi c=>f i c⟩
 |d+1=>by
  obtain⟨a,h,l⟩:=A6h f d;refine⟨λj=>if j=k+d+1 then b (k+d+1)-B8 (k+d+1) (λj=>L (k+d+1) j*a j)else a j,λj c=>(qL ω).trans (h j c),λi n=>?_⟩;rw[B6 (g:=λj=>L i j*a j) λj c=>sA (L i j* ·) (qL ω)];by_cases e:i=k+d+1
  . subst e;show _ +(if k+d+1=k+d+1 then _ else _)= _;rw[qR rfl];grind
  show _ +(if i=k+d+1 then _ else _)= _;rw[qL e];exact l i ω
def A7k {f:LUV} {b:List C7} {s s1:Nat} (h:Bo f (f.1.length:Int)) (w:f.1.length<=4294967296) (u:∀j,j<f.1.length->qs s (rv (b.getD (ix f.1 j) zr))) (x:s<=s1) (t:∀i j,i<f.1.length->j<f.1.length->qs s1 (luM f f.1.length i j)):
 C0c (tR s1 f.1.length (f.1.length+1)+tR s1 f.1.length (f.1.length+1)) f b:=by
 have d:=h.2.2.2.2;have n:=A6k (R:=f.1.length) (C:=f.1.length+1) (s:=s1) (A:=cO f.1.length (luM f f.1.length) λj=>rv (b.getD (ix f.1 j) zr)) w (C2c t λj o=>G3 (u j o) x);refine⟨λr z v B=>?_,λD y i c=>C4l n (B8u h) y c⟩;obtain⟨a,g,k⟩:∃a:Nat->Rat,(∀j,j<=r->a j=z j)/\∀i,i<f.1.length->B8 i (λj=>el f.2.2.1 i j*a j)+a i=rv (b.getD (ix f.1 i) zr):=by
  obtain⟨a,g,k⟩:=A6h B f.1.length;exact⟨a,g,λi c=>k i ω⟩
 rw[<-g r (qV _)];exact C3o n (λi j _ _=>rfl) (λi j l o=>(d i j ω ω).1 l) (λi c=>(d i i ω ω).2.1) (λi j l c=>(d i j ω ω).2.2.1 l) (λi c=>(d i i ω ω).2.2.2) k v
def B9t {n:Nat} {c:Nat->Nat} (i:∀a,a<n->c a<n) (h:∀a b,a<n->b<n->c a=c b->a=b) (f:Nat->Rat):B8 n (λa=>f (c a))=B8 n f:=by
 have l:B8 n (λa=>f (c a))=B8 n λa=>B8 n λj=>if j=c a then f j else 0:=B6 λa d=>by
  rw[H4 (k:=c a) (i a d) λj _ g=>qL g,qR rfl]
 rw[l,EH];refine B6 λj g=>?_
 obtain⟨a,d,rfl⟩:=Df i h g;rw[H4 (k:=a) d λb r s=>qL λo=>s (h b a r d o.symm),qR rfl]
def C6m {k:Nat} {m:G9} (b:A4 m) (c:∀v∈m.2.2,V2 v) (o:1<=k) (h:∀i j:Nat,(i:Int)<m.1->qs k (el m i j)):N4 k m:=λv a=>by
 obtain⟨i,g,rfl⟩:=R8 [] a;have l:(i:Int)<m.1:=by rw[<-b.2.2.2.2.1];exact sY.2 g
 refine Un (c _ a) λj=>?_
 by_cases n:0<=j
 . have:=h i j.toNat l;unfold el at this;rwa[(ω:((j.toNat:Nat):Int)=j)]at this
 rw[D4 λe d f=>n (by rw[<-f];exact((b.2.2.2.2.2 _ a).2 e d).1)];exact M5 o
def LP {R C:Nat} {f:Nat->Nat->Rat} {m:G9} (h:Ep R C f m):Ep R C (el m) m:=PT h λi j a b=>(Ab h a b).symm
def B5q {s n:Nat} (h:1<=n):s<=tR s n (n+1)/\n<=tR s n (n+1):=by
 unfold tR;have a:s*(n+1+1)+1<=n*(s*(n+1+1)+1):=g0c _ h;have a:s<=s*(n+1+1):=wX _ ω;have a:n<=n*(s*(n+1+1)+1):=wX _ ω;omega
set_option maxHeartbeats 4000000 in
def Qy:su S1 Ij:=λx c0 cq=>by
 have dc:K1=549755813888:=rfl;obtain⟨(A:G9),⟨(R:Int),(C:Int),D⟩,_⟩:=x;change List (List D5)at D;obtain⟨n,d1,c8,a3,a4,bp,dh,bv,c9,ca,ar⟩:∃n v s:Nat,Ep n n (el A) A/\Ep n v (el (R,C,D)) (R,C,D)/\n<=900/\v<=900/\1<=s/\N4 s A/\N4 s (R,C,D)/\rY s n<=268435456:=cq;obtain⟨s,aa,dj,ak,am,a6⟩:∃s,1<=s/\s<=134217728/\N4 s A/\N4 s (R,C,D)/\rY s n<=268435456:=by
  by_cases O:n=0
  . subst O;refine⟨1,δ,δ,λM z=>?_,λM z=>?_,δ⟩
    . rw[qN a3.2.2.1]at z;cases z
    have:D= []:=qN a4.2.2.1;rw[show(R,C,D).2.2=D from rfl,this]at z;cases z
  have B:=(B5q (s:=c8) (n:=n) ω).1;unfold rY at ar;exact⟨c8,bv,ω,c9,ca,ar⟩
 clear bv c9 ca ar;have be:A4 A:=W6 a3 ω ω;have z:A4 (R,C,D):=W6 a4 ω ω;have E:A.1=(n:Int):=a3.1;have W:A.2.1=(n:Int):=a3.2.1;have cg:R=(n:Int):=a4.1;have db:C=(d1:Int):=a4.2.1;have cb:tR s n n<=tR s n (n+1):=VR (qV _) ω;have P:1<=tR s n n:=Nat.le_add_left 1 _;have de:tR s n (n+1)<=134217728:=by unfold rY at a6;omega
 have a9:∀i j,i<n->j<n->qs s (el A i j):=λi j _ _=>XJ be (DU a3) ak aa i j
 have b3:∀i j,qs s (el (R,C,D) i j):=λi j=>XJ z (DU a4) am aa i j
 have d7:N4 K1 A:=λM z e r=>G4 (ak M z e r) ω
 have cr:N4 K1 (R,C,D):=λM z e r=>G4 (am M z e r) ω
 have b0:cR n n (el A) (tR s n n):=A6k ω a9;simp only[Ij,iB,N2,Jp,UP,E,W,qQ];refine⟨⟨d7,λ_ _=>⟨tR s n n,P,ω,b0⟩⟩,?_⟩;rintro⟨(J:LUV),(e:Int),_⟩ _ ⟨_,Q⟩;obtain⟨_,Q⟩:=Q be;replace Q:=Q trivial;simp only at Q|-;by_cases ag:nonsing n (el A)
 . obtain⟨I,ae,cd,ce,bu,b1⟩:=Q.2 ag;subst ae;clear Q;refine⟨λy=>absurd rfl (qA y),λ_=>⟨trivial,?_⟩⟩;rintro⟨d8,_⟩ _ ah;simp only at ah|-;have ah:d8=true:=by rw[ah];exact rA z
   rw[ah];obtain⟨bb,cc,bc,d9,_,_⟩:=id z;have dm:(D.length:Int)=R:=z.2.2.2.2.1;have da:∀w∈D,E3 w C:=z.2.2.2.2.2;simp only at bb cc bc d9;have bw:=aa;have aa:N4 K1 (R,C,D):=cr;refine⟨λy=>(by cases y),λ_=>⟨⟨bc,qG _,ω,ω⟩,?_⟩⟩;refine⟨λp=>0<=p.1/\p.1<=R/\p.2.1.length=C.toNat/\∀j,j<C.toNat->Ws p.1.toNat (λi=>el (R,C,D) i j) (p.2.1.getD j []),λp=>(R-p.1).toNat,⟨qG _,bb,rG,λj h=>?_⟩,?_⟩
   . have e:(List.replicate C.toNat ([]:List D5)).getD j []= []:=by
      rw[qE,uD,qR h];rfl
     show Ws _ _ ((List.replicate C.toNat ([]:List D5)).getD j []);rw[e];exact⟨Ji,λ_ y=>(by cases y),λi f=>by simp at f⟩
   rintro⟨(v:Int),rows,_⟩ _ ⟨aj,d2,ax,a8⟩;change List (List D5)at rows;simp only at aj d2 ax a8|-;refine⟨λU=>?_,λU=>?_⟩
   . have U:=qA U;have az:=F4 (d:=([]:List D5)) aj U;rw[Il aj U]at az|-;have bx:=da _ az;have b4:=Mq z aa az;have cm:∀j:Nat,A5 (D.getD v.toNat []) (j:Int)=el (R,C,D) v.toNat j:=λj=>rfl
     generalize D.getD v.toNat []=row at*;have di:=b4.2.2;refine⟨⟨aj,U⟩,λp=>0<=p.1/\p.1<=(row.length:Int)/\p.2.1.length=C.toNat/\∀j,j<C.toNat->Ws (v+1).toNat (λi=>if i<v.toNat then el (R,C,D) i j else A5 (row.take p.1.toNat) (j:Int)) (p.2.1.getD j []),λp=>((row.length:Int)-p.1).toNat,⟨qG _,qF _,ax,λj h=>?_⟩,?_⟩
     . obtain⟨E,W,ad⟩:=a8 j h;refine⟨E,λe r=>by have:=W e r;omega,λi f=>?_⟩;dsimp only;by_cases H:i<v.toNat
       . rw[qR H];exact ad i H
       rw[qL H,D4 λe r df=>by have:=(W e r).2;omega];rfl
     rintro⟨(t:Int),o,_⟩ _ ⟨P,cb,V,of⟩;change List (List D5)at o;simp only at P cb V of|-;refine⟨λF=>?_,λF=>?_⟩
     . have F:=qA F;have bl:=F4 (d:=D8) P F;obtain⟨ae,ap,cf⟩:=bx.2 _ bl;have ct:=b4.2.1 _ bl;have av:=DF (d:=D8) P F;have bk:A5 (row.take t.toNat) (gx D8 row t).1=0:=by
        refine D4 λx O aw=>?_
        have B:(row.take (t+1).toNat).Pairwise (λa b=>a.1<b.1):=b4.1.take;rw[(ω:(t+1).toNat=t.toNat+1),rP,H1 (d:=D8) P F,sX]at B;have:=B.2.2 x O (gx D8 row t) (by simp);omega
       generalize gx D8 row t=e at*;have cu:J8 e.2:=N1 ct δ;have A1:t<(row.length:Int):=F;have B1:e.1<(o.length:Int):=by rw[V];omega
       have b2:=of e.1.toNat ω;have bn:=VH b2;have L1:((o.getD e.1.toNat []).length+ [(v,rc (rv e.2))].length)*64<=140737488355328:=by simp only[qY];omega
       have L2:(o.getD e.1.toNat []).length+ [(v,rc (rv e.2))].length<=9223372036854775807:=by simp only[qY];omega
       have cy:i64.wrap (t+1)=t+1:=wv ω;rw[cy];have I1:0<=t+1:=ω
       have I2:t+1<=(row.length:Int):=ω
       have I3:(o.set e.1.toNat (o.getD e.1.toNat []++ [(v,rc (rv e.2))])).length=C.toNat:=by rw[qT];exact V
       have I4:∀j,j<C.toNat->Ws (v+1).toNat (λi=>if i<v.toNat then el (R,C,D) i j else A5 (row.take (t+1).toNat) (j:Int)) ((o.set e.1.toNat (o.getD e.1.toNat []++ [(v,rc (rv e.2))])).getD j []):=λj h=>by
        rw[qE,vV];by_cases aw:e.1.toNat=j
        . rw[qR aw,qR ω];subst aw;obtain⟨E,W,ad⟩:=b2;have bm:∀x∈o.getD e.1.toNat [],x.1<v:=λx O=>by
           have B:=W x O;have G:=(E.2 x O).1;rw[<-O0 E.1 O]at G;refine rB λbp=>G ?_
           have Z:x.1=((v.toNat:Nat):Int):=ω
           rw[Z,ad v.toNat ω];dsimp only;rw[qL ω,(ω:((e.1.toNat:Nat):Int)=e.1)];exact bk
          refine⟨Gb E cf bm,λx O=>?_,λi f=>?_⟩
          . rcases qU.1 O with O|O
            . exact W x O
            rw[qJ.1 O];show 0<=v/\v< _;omega
          show A5 (o.getD e.1.toNat []++ [(v,rc (rv e.2))]) (i:Int)= _;rw[Cj,ad i f];dsimp only;rw[av,qR (ω:e.1=((e.1.toNat:Nat):Int))];by_cases H:i<v.toNat
          . rw[qR H,qR H,qL ω,rH]
          rw[qL H,qL H,qR ω]
        rw[qL aw, <-qE];refine Rt (of j h) λi _=>?_
        rw[av,qL (ω:¬e.1=(j:Int)),rH]
       have M1:((row.length:Int)-(t+1)).toNat<((row.length:Int)-t).toNat:=ω
       clear b2 bn av bk of a8 bx
       repeat' first
        |exact⟨⟨ae,B1⟩,by trivial,⟨I1,I2,I3,I4⟩,M1⟩
        |exact⟨L1,L2⟩
        |exact⟨ae,B1⟩
        |exact⟨P,A1⟩
        |exact cu
        |apply And.intro
        | (rintro⟨q,_⟩ _ a9;simp only at a9|-;subst a9)
     have F:=qB F;rw[wv ω];rw[E8 (l:=row) (i:=t) ω]at of;refine⟨⟨ω,ω,V,λj h=>Rt (of j h) λi f=>?_⟩,ω⟩;by_cases H:i<v.toNat
     . rw[qR H]
     rw[qL H,cm,(ω:i=v.toNat)]
   have U:=qB U;rw[(ω:v.toNat=R.toNat)]at a8;refine⟨λy=>absurd rfl (qA y),λ_=>⟨trivial,?_⟩⟩;rintro⟨(d5:C7),_⟩ _ bo;simp only at bo|-;subst bo;have a0:J.1.length=n:=(Oz I.1).1;have dd:J.2.1.length=n:=(Oz I.2.1).1;have ay:Bo J (J.1.length:Int):=by rw[a0];exact I
   have ab:=(Oz I.1).2.1;have d0:=(Oz I.1).2.2;have b6:=(Oz I.2.1).2.1;have c5:=(Oz I.2.1).2.2;have b7:N4 (rY s n) J.2.2.1:=C6m I.2.2.1.2.2 cd (by unfold rY;omega) λi j f=>G3 (bu _ P b0 i j (by rw[I.2.2.1.1]at f;exact sY.1 f)).1 (by unfold rY;omega)
   have b8:N4 (rY s n) J.2.2.2:=C6m I.2.2.2.1.2.2 ce (by unfold rY;omega) λi j f=>G3 (bu _ P b0 i j (by rw[I.2.2.2.1.1]at f;exact sY.1 f)).2 (by unfold rY;omega)
   have d3:N4 K1 J.2.2.1:=λM z e r=>G4 (b7 M z e r) ω
   have d4:N4 K1 J.2.2.2:=λM z e r=>G4 (b8 M z e r) ω
   refine⟨λp=>0<=p.1/\p.1<=C/\p.2.1.length=C.toNat/\(∀j,p.1.toNat<=j->j<C.toNat->Ws n (λi=>el (R,C,D) i j) (p.2.1.getD j []))/\∀j,j<p.1.toNat->∃X:Nat->Rat,Ws n X (p.2.1.getD j [])/\(∀k:Nat,1<=k->N4 k A->N4 k (R,C,D)->∀i,i<n->qs (rY k n) (X i))/\∀i,i<n->B8 n (λt=>el A i t*X t)= -el (R,C,D) i j,λp=>(C-p.1).toNat,⟨qG _,bc,ax,λj _ h=>by rw[(ω:n=R.toNat)];exact a8 j h,λj h=>absurd h (uG _)⟩,?_⟩;rintro⟨(c:Int),o,_⟩ _ ⟨ao,c1,V,ba,a2⟩;change List (List D5)at o;simp only at ao c1 V ba a2|-;refine⟨λa7=>?_,λa7=>?_⟩
   . have a7:c<(rows.length:Int):=qA a7;have cl:c.toNat<C.toNat:=ω
     have a5:=ba c.toNat (qV _) cl;rw[wv (a:=c+1) ω];have step:∀w:List D5,(∃X:Nat->Rat,Ws n X w/\(∀k:Nat,1<=k->N4 k A->N4 k (R,C,D)->∀i,i<n->qs (rY k n) (X i))/\∀i,i<n->B8 n (λt=>el A i t*X t)= -el (R,C,D) i c.toNat)->(o.set c.toNat w).length=C.toNat/\(∀j,(c+1).toNat<=j->j<C.toNat->Ws n (λi=>el (R,C,D) i j) ((o.set c.toNat w).getD j []))/\∀j,j<(c+1).toNat->∃X:Nat->Rat,Ws n X ((o.set c.toNat w).getD j [])/\(∀k:Nat,1<=k->N4 k A->N4 k (R,C,D)->∀i,i<n->qs (rY k n) (X i))/\∀i,i<n->B8 n (λt=>el A i t*X t)= -el (R,C,D) i j:=λw c0=>by
      refine⟨by rw[qT];exact V,λj h aw=>?_,λj h=>?_⟩
      . rw[E5 ω];exact ba j ω aw
      by_cases O:j=c.toNat
      . subst O;rw[C1 ω];exact c0
      rw[E5 O];exact a2 j ω
     refine⟨λp=>p.1.length=C.toNat/\(∀j,(c+1).toNat<=j->j<C.toNat->Ws n (λi=>el (R,C,D) i j) (p.1.getD j []))/\∀j,j<(c+1).toNat->∃X:Nat->Rat,Ws n X (p.1.getD j [])/\(∀k:Nat,1<=k->N4 k A->N4 k (R,C,D)->∀i,i<n->qs (rY k n) (X i))/\∀i,i<n->B8 n (λt=>el A i t*X t)= -el (R,C,D) i j,⟨⟨ao,ω⟩,λai=>?_,λai=>?_⟩,?_⟩
     . have ai:=qA ai;have bq:o.getD c.toNat []= []:=qN (Int.ofNat_eq_zero.1 ai);have cz:∀i,i<n->el (R,C,D) i c.toNat=0:=λi f=>by
        have:=a5.2.2 i f;rw[bq]at this;exact this.symm
       have:=step [] ⟨λ_=>0,⟨Ji,λ_ y=>(by cases y),λi _=>rfl⟩,λk _ _ _ i _=>M5 (by unfold rY tR;omega),λi f=>by
        rw[cz i f];exact(Ae λt _=>tA _).trans (by decide+kernel)⟩
       rwa[show o.set c.toNat []=o from by
        rw[<-bq];exact g0h (by simp) λi B G=>by
         rw[g1v];split
         . rename_i r;subst r;rw[G6 _ _ G]
         rfl]at this
     . have bz:E3 (o.getD c.toNat []) R:=by rw[cg];exact DW a5
       have bn:=VH a5;have cw:HC s (o.getD c.toNat []):=Un a5.1 λj=>by
        rw[Rs a5];split
        . exact b3 _ _
        exact M5 ω
       refine⟨⟨⟨bz.1,λe r=>G4 (cw e r) ω,ω⟩,bz,bb,cc⟩,?_⟩;rintro⟨(b:List C7),(d6:Bool),_⟩ _ ⟨au,bt⟩;simp only at au bt|-;subst bt;refine⟨λy=>(by cases y),λ_=>?_⟩;have cj:b.length=n:=by rw[au];unfold dl;rw[tG,xT];omega
       have af:∀i,i<n->b.getD i zr=rc (el (R,C,D) i c.toNat):=λi f=>by
        rw[au];unfold dl;rw[qE,vT,wL ω];show rc (A5 (o.getD c.toNat []) (i:Int))= _;rw[a5.2.2 i f]
       have ck:Tj s b:=λe r=>by
        obtain⟨i,f,rfl⟩:=R8 zr r;rw[af i ω];exact Nh (b3 _ _)
       have bh:C0c (rY s n) J b:=by
        have:=A7k (s:=s) (s1:=s) ay ω (λj h=>by rw[af _ (ab j ω).2,H6];exact b3 _ _) (qV _) (λi j f h=>by rw[a0]at f h|-;rw[b1 i j f h];exact a9 _ _ (ab i f).2 (b6 j h).2);rw[a0]at this;exact this
       have cs:s<=rY s n\/n=0:=by
        by_cases O:n=0
        . exact .inr O
        have:=(B5q (s:=s) (n:=n) ω).1;unfold rY;exact .inl ω
       have bs:∀T Y:Nat,T<=268435456->Y<=268435456->Y+n*(T+Y+1)+T<=K1:=λT Y B G=>by
        have:=uJ bp (ω:T+Y+1<=536870913);omega
       refine⟨⟨ω,d3,d4,λ_ _=>?_⟩,?_⟩
       . rw[a0];rcases cs with y|y
         . exact⟨rY s n,s,rY s n,by unfold rY;omega,ω,y,b7,b8,ck,bh,bs _ _ a6 a6⟩
         subst y;refine⟨rY s 0,1,rY s 0,by unfold rY;omega,δ,by unfold rY;omega,b7,b8,λe r=>?_,bh,bs _ _ a6 a6⟩;rw[qN cj]at r;cases r
       rintro⟨(X:List C7),(ap:Int),_⟩ _ ⟨_,ch⟩;obtain⟨N,ac,an,bf⟩:=(ch ay).2 ω;simp only at N ac an bf|-;subst N;refine⟨λy=>absurd rfl (qA y),λ_=>?_⟩;have cv:∀i,i<n->B8 n (λt=>el A i t*rv (X.getD t zr))=el (R,C,D) i c.toNat:=λi f=>by
        obtain⟨aw,bm,rfl⟩:=Df (λa O=>(ab a O).2) d0 f;have B:=bf aw ω;rw[a0,af _ (ab aw bm).2,H6]at B;rw[<-B, <-B9t (λa O=>(b6 a O).2) c5];exact B6 λj h=>by rw[b1 aw j bm h]
       have bj:∀k:Nat,1<=k->N4 k A->N4 k (R,C,D)->∀i,i<n->qs (rY k n) (rv (X.getD i zr)):=λk B G Z i f=>by
        obtain⟨j,h,rfl⟩:=Df (λa O=>(b6 a O).2) c5 f;have:=A7k (s:=k) (s1:=k) (b:=b) ay ω (λj h=>by rw[af _ (ab j ω).2,H6];exact XJ z (DU a4) Z B _ _) (qV _) (λi j f h=>by rw[a0]at f h|-;rw[b1 i j f h];exact XJ be (DU a3) G B _ _);rw[a0]at this;exact this.2 (λj=>rv (X.getD (ix J.2.1 j) zr)) bf j ω
       have bi:=bj s bw ak am;have ci:Tj K1 X:=λe r=>by
        obtain⟨i,f,rfl⟩:=R8 zr r;rw[an _ r];exact Nh (G3 (bi i ω) ω)
       refine⟨⟨ω,ci⟩,?_⟩;rintro⟨(u:List D5),_⟩ _ a1;simp only at a1|-;have dk:=VH a1;have cx:HC (rY s n) u:=Un a1.1 λj=>by
        rw[Rs a1];split
        . exact bi _ ω
        exact M5 (by unfold rY;omega)
       refine⟨⟨by rw[ZV];exact Nh (G3 (IX (a:= -1) δ) δ),(DW a1).1,λe r=>G4 (cx e r) ω,ω⟩,?_⟩;rintro⟨(w:List D5),_⟩ _ b5;simp only at b5|-;have co:rv (ri (-1))= -1:=by rw[ZV,H6];rfl
       rw[co]at b5;refine⟨⟨ao,ω⟩,step w ⟨λi=> -rv (X.getD i zr),VG b5 (λi f=>?_) (λj h=>?_),λk B G Z i f=>kV (bj k B G Z i f),λi f=>?_⟩⟩
       . rw[Rs a1,qL ω,tA]
       . rw[a1.2.2 j ω];grind
       rw[<-cv i f,B6 (g:=λt=> -1*(el A i t*rv (X.getD t zr))) λt _=>by grind,Jr];grind
     rintro⟨w,_⟩ _ ⟨c2,c3,c4⟩;change List (List D5)at w;simp only at c2 c3 c4|-;exact⟨⟨ω,ω,c2,c3,c4⟩,ω⟩
   have a7:=qB a7;rw[(ω:c.toNat=C.toNat)]at a2;have bg:Ep C.toNat n (λj i=>el (C,R,o) j i) (C,R,o):=⟨by show C= _;omega,by show R= _;omega,V,λj h=>by
    obtain⟨X,N,_⟩:=a2 j h;exact⟨N.1,N.2.1,λi _=>rfl⟩⟩
   have cp:N4 (rY s n) (C,R,o):=Fu bg (by unfold rY;omega) λj i h f=>by
    obtain⟨X,N,ac,_⟩:=a2 j h;show qs _ (A5 (o.getD j []) (i:Int));rw[N.2.2 i f];exact ac s bw ak am i f
   refine⟨λM z e r=>G4 (cp M z e r) ω,?_⟩;rintro⟨(m:G9),(aq:Int),_⟩ _ ⟨_,cn⟩;obtain⟨c6,c7⟩:=cn (W6 bg ω ω);simp only at c6 c7|-;have b9:Ep n C.toNat (λi j=>el (C,R,o) j i) m:=by rw[(ω:n=R.toNat)];exact c6
   refine⟨⟨λy=>absurd (by rw[E,qQ];exact ag) y,λ_=>⟨c7,?_,λi j f h=>?_,λk B G Z i j f h=>?_⟩⟩⟩
   . rw[E,qQ];exact LP b9
   . rw[E,qQ]at f|-;obtain⟨X,N,_,an⟩:=a2 j h;rw[<-an i f];exact B6 λt F=>by
      rw[Ab b9 F h];show _ *A5 (o.getD j []) (t:Int)= _;rw[N.2.2 t F]
   rw[E,qQ]at f|-;obtain⟨X,N,ac,_⟩:=a2 j h;rw[Ab b9 f h];show qs _ (A5 (o.getD j []) (i:Int));rw[N.2.2 i f];exact ac k B G Z i f
 obtain⟨ap,aq⟩:=Q.1 ag;subst aq;refine⟨λ_=>⟨⟨λ_=>⟨rfl,rfl⟩,λy=>absurd (by rw[E,qQ]at y;exact y) ag⟩⟩,λy=>?_⟩;exact absurd (qB y) δ
def Uk:An:= {join:= [(28,⟨[2,4,12,13,84],[0,1],[(85,false,vI)],[(3,94,[.val qb, .val qb, .val qk, .val qb, .val qb, .val qk, .val qb, .val qb, .val qk, .val qb, .val qb, .val qk])],[]⟩)],loop:= [(6,⟨[1,2,4,32,33],[0,1],[(34,false,vI)],[],[]⟩),(13,⟨[2,4,8,51,52],[0,1],[(53,false,vI)],[],[(2, .row .bool 4)]⟩),(22,⟨[2,4,12,13,84],[0,1],[(85,false,vI)],[(3,94,[.val qb, .val qb, .val qk, .val qb, .val qb, .val qk, .val qb, .val qb, .val qk, .val qb, .val qb, .val qk])],[]⟩)],plan:= [(35,[1,3],[9],true, .done)],spl:= [(23,85,4)]}
abbrev C0q:=Int×Int×Int×List (List EE)×Int×Int×List (List EE)×Int×Int×List (List EE)×Int×Int×List (List EE)×Unit
def Hr(x:MM×Wf×Unit):Prop:=let h:=(4:Int);let o:=(x.2.1.length:Int);let Y:=(1000:Nat);let X:=(↑(0:Nat):Int);let W:=(↑(3:Nat):Int);let U:=(↑(1:Nat):Int);let S:=(↑(2:Nat):Int);let R:=(1:Int);let P:=(↑(4:Nat):Int);let O:=(16384:Nat);let H:=(0:Int);let C:(Nj)->Prop:=(λa=>a.1=zm/\a.2.1=8);let B:(Nj)->Prop:=(λa=>a.1=zm/\a.2.1=3);let a0:Prop:=(H<=W/\W<P);let u:Prop:=(H<=S/\S<P);let v:Prop:=(H<=U/\U<P);let q:Prop:=(H<=X/\X<P);let k:(Nj)->Prop:=(λa=>¬A4 x.1->a.1=zm/\a.2.1=R);let d:Prop:=(H<=R/\R<S);let f:Prop:=(H<=H/\H<S);let b:(Nj)->Prop:=(λa=>decide (a.2.1≠H)=true->Rc x.1 x.2.1 ([],(H,H,[]),H,H,[]) a.2.1);True/\Jp λr=>r.1=decide (A4 x.1)->(iB ((!r.1)) (Rc x.1 x.2.1 ([],(H,H,[]),H,H,[]) R) ((iB (decide (x.1.1≠x.1.2.1)) (Rc x.1 x.2.1 ([],(H,H,[]),H,H,[]) h) (∃(I:D7->Prop),∃(g: _->Nat),I (H,())/\∀(p:D7),let j:=(i64.wrap (p.1+R),());let G:Prop:=(gx H x.2.1 p.1<H);let F:Prop:=(x.1.1<=gx H x.2.1 p.1);let m:Prop:=(p.1<o);(Ty.int i64).wf p.1/\True->I p->(iB (decide m) ((H<=p.1/\m)/\(iB (L5 (decide G) true (decide F)) (Rc x.1 x.2.1 ([],(H,H,[]),H,H,[]) (12:Int)) (I j/\g j<g p))) ((H<=x.1.1/\x.1.1<=x.1.1/\U*x.1.1<=281474976710656/\x.1.1<=9223372036854775807)/\∃(I:B0k->Prop),∃(g: _->Nat),I (H,List.replicate x.1.1.toNat false,())/\∀(p:B0k),let l:=(gx H x.2.1 p.1);let j:=p.2.1.length;let T:=(i64.wrap (p.1+R),List.set p.2.1 l.toNat true,());let t:Prop:=(p.1<o);let o:Prop:=(H<=gx H x.2.1 p.1/\gx H x.2.1 p.1<(↑j:Int));(Ty.int i64).wf p.1/\(List.length p.2.1<=9223372036854775807/\∀(x:Bool),x∈p.2.1->True)/\True->I p->(iB (decide t) ((H<=p.1/\t)/\o/\(iB (List.getD p.2.1 l.toNat false) (Rc x.1 x.2.1 ([],(H,H,[]),H,H,[]) (10:Int)) (o/\I T/\g T<g p))) (List.length p.2.1<=100000/\∀(r:Dy),let Z:=r.1.length;let V:=r.2.1.length;let E:Prop:=(List.length r.1<=Y/\List.Nodup r.1);let D:Prop:=(List.length r.2.1<=Y/\List.Nodup r.2.1);let e:Prop:=(∃(i:Int),i∈r.1/\(i<H\/x.1.1<=i));let z:Prop:=(e\/∃(i:Int),i∈r.1/\(i<H\/x.1.2.1<=i));let w:Prop:=(e\/∃(i:Int),i∈r.2.1/\(i<H\/x.1.2.1<=i));let l:Prop:=(∃(i:Int),i∈r.2.1/\(i<H\/x.1.1<=i));let A:Prop:=(l\/∃(i:Int),i∈r.1/\(i<H\/x.1.2.1<=i));let y:Prop:=(l\/∃(i:Int),i∈r.2.1/\(i<H\/x.1.2.1<=i));WA r.1/\WA r.2.1/\True->((r.1=Z8 j fun(i:Nat)=>List.getD p.2.1 i false)/\r.2.1=Z8 j fun(i:Nat)=> !List.getD p.2.1 i false)->∃(I:C0q->Prop),∃(g: _->Nat),I (H,H,H,[],H,H,[],H,H,[],H,H,[],())/\∀(p:C0q),let Q:=(p.2.1,p.2.2.1,p.2.2.2.1);let N:=(p.2.2.2.2.1,p.2.2.2.2.2.1,p.2.2.2.2.2.2.1);let M:=(p.2.2.2.2.2.2.2.1,p.2.2.2.2.2.2.2.2.1,p.2.2.2.2.2.2.2.2.2.1);let L:=(p.2.2.2.2.2.2.2.2.2.2.1,p.2.2.2.2.2.2.2.2.2.2.2.1,p.2.2.2.2.2.2.2.2.2.2.2.2.1);(Ty.int i64).wf p.1/\(Ty.int i64).wf p.2.1/\(Ty.int i64).wf p.2.2.1/\tE.sl.sl.wf p.2.2.2.1/\(Ty.int i64).wf p.2.2.2.2.1/\(Ty.int i64).wf p.2.2.2.2.2.1/\tE.sl.sl.wf p.2.2.2.2.2.2.1/\(Ty.int i64).wf p.2.2.2.2.2.2.2.1/\(Ty.int i64).wf p.2.2.2.2.2.2.2.2.1/\tE.sl.sl.wf p.2.2.2.2.2.2.2.2.2.1/\(Ty.int i64).wf p.2.2.2.2.2.2.2.2.2.2.1/\(Ty.int i64).wf p.2.2.2.2.2.2.2.2.2.2.2.1/\tE.sl.sl.wf p.2.2.2.2.2.2.2.2.2.2.2.2.1/\True->I p->(iB (decide (p.1<h)) (∃(J:C0q->Prop),(((0:(Ty.int i64).den)<=p.1/\p.1<P)/\(((True/\(p.1=X->q/\f/\d/\(N4 K1 x.1/\List.length r.1<=Y/\E)/\∀(a:Nj),WfM a.1/\O5 a.2.1/\True->(k a)/\(A4 x.1->(z->B a)/\(¬z->(O<List.length r.1\/O<List.length r.1->C a)/\(List.length r.1<=O/\List.length r.1<=O->Ep Z Z (fun(i j:Nat)=>el x.1 (List.getD r.1 i H).toNat (List.getD r.1 j H).toNat) a.1/\a.2.1=H)))->(b a)/\(decide (a.2.1≠H)=false->q/\J (X,a.1.1,a.1.2.1,a.1.2.2,p.2.2.2.2.1,p.2.2.2.2.2.1,p.2.2.2.2.2.2.1,p.2.2.2.2.2.2.2.1,p.2.2.2.2.2.2.2.2.1,p.2.2.2.2.2.2.2.2.2.1,p.2.2.2.2.2.2.2.2.2.2.1,p.2.2.2.2.2.2.2.2.2.2.2.1,p.2.2.2.2.2.2.2.2.2.2.2.2.1,()))))/\(p.1=U->v/\f/\d/\(N4 K1 x.1/\List.length r.1<=Y/\D)/\∀(a:Nj),WfM a.1/\O5 a.2.1/\True->(k a)/\(A4 x.1->(w->B a)/\(¬w->(O<List.length r.1\/O<List.length r.2.1->C a)/\(List.length r.1<=O/\List.length r.2.1<=O->Ep Z V (fun(i j:Nat)=>el x.1 (List.getD r.1 i H).toNat (List.getD r.2.1 j H).toNat) a.1/\a.2.1=H)))->(b a)/\(decide (a.2.1≠H)=false->v/\J (U,p.2.1,p.2.2.1,p.2.2.2.1,a.1.1,a.1.2.1,a.1.2.2,p.2.2.2.2.2.2.2.1,p.2.2.2.2.2.2.2.2.1,p.2.2.2.2.2.2.2.2.2.1,p.2.2.2.2.2.2.2.2.2.2.1,p.2.2.2.2.2.2.2.2.2.2.2.1,p.2.2.2.2.2.2.2.2.2.2.2.2.1,()))))/\(p.1=S->u/\f/\d/\(N4 K1 x.1/\List.length r.2.1<=Y/\E)/\∀(a:Nj),WfM a.1/\O5 a.2.1/\True->(k a)/\(A4 x.1->(A->B a)/\(¬A->(O<List.length r.2.1\/O<List.length r.1->C a)/\(List.length r.2.1<=O/\List.length r.1<=O->Ep V Z (fun(i j:Nat)=>el x.1 (List.getD r.2.1 i H).toNat (List.getD r.1 j H).toNat) a.1/\a.2.1=H)))->(b a)/\(decide (a.2.1≠H)=false->u/\J (S,p.2.1,p.2.2.1,p.2.2.2.1,p.2.2.2.2.1,p.2.2.2.2.2.1,p.2.2.2.2.2.2.1,a.1.1,a.1.2.1,a.1.2.2,p.2.2.2.2.2.2.2.2.2.2.1,p.2.2.2.2.2.2.2.2.2.2.2.1,p.2.2.2.2.2.2.2.2.2.2.2.2.1,()))))/\(p.1=W->a0/\f/\d/\(N4 K1 x.1/\List.length r.2.1<=Y/\D)/\∀(a:Nj),WfM a.1/\O5 a.2.1/\True->(k a)/\(A4 x.1->(y->B a)/\(¬y->(O<List.length r.2.1\/O<List.length r.2.1->C a)/\(List.length r.2.1<=O/\List.length r.2.1<=O->Ep V V (fun(i j:Nat)=>el x.1 (List.getD r.2.1 i H).toNat (List.getD r.2.1 j H).toNat) a.1/\a.2.1=H)))->(b a)/\(decide (a.2.1≠H)=false->a0/\J (W,p.2.1,p.2.2.1,p.2.2.2.1,p.2.2.2.2.1,p.2.2.2.2.2.1,p.2.2.2.2.2.2.1,p.2.2.2.2.2.2.2.1,p.2.2.2.2.2.2.2.2.1,p.2.2.2.2.2.2.2.2.2.1,a.1.1,a.1.2.1,a.1.2.2,()))))/\∀(d:C0q),let K:=(i64.wrap (d.1+R),d.2.1,d.2.2.1,d.2.2.2.1,d.2.2.2.2.1,d.2.2.2.2.2.1,d.2.2.2.2.2.2.1,d.2.2.2.2.2.2.2.1,d.2.2.2.2.2.2.2.2.1,d.2.2.2.2.2.2.2.2.2.1,d.2.2.2.2.2.2.2.2.2.2.1,d.2.2.2.2.2.2.2.2.2.2.2.1,d.2.2.2.2.2.2.2.2.2.2.2.2.1,());(Ty.int i64).wf d.1/\(Ty.int i64).wf d.2.1/\(Ty.int i64).wf d.2.2.1/\tE.sl.sl.wf d.2.2.2.1/\(Ty.int i64).wf d.2.2.2.2.1/\(Ty.int i64).wf d.2.2.2.2.2.1/\tE.sl.sl.wf d.2.2.2.2.2.2.1/\(Ty.int i64).wf d.2.2.2.2.2.2.2.1/\(Ty.int i64).wf d.2.2.2.2.2.2.2.2.1/\tE.sl.sl.wf d.2.2.2.2.2.2.2.2.2.1/\(Ty.int i64).wf d.2.2.2.2.2.2.2.2.2.2.1/\(Ty.int i64).wf d.2.2.2.2.2.2.2.2.2.2.2.1/\tE.sl.sl.wf d.2.2.2.2.2.2.2.2.2.2.2.2.1/\True->J d->I K/\g K<g p) ((H<=H/\H<P)/\(H<=R/\R<P)/\(∃(n:Nat),∃(k:Nat),∃(s:Nat),Ep n n (el Q) Q/\Ep n k (el N) N/\n<=(900:Nat)/\k<=(900:Nat)/\(1:Nat)<=s/\N4 s Q/\N4 s N/\rY s n<=(268435456:Nat))/\∀(a:Nj),WfM a.1/\O5 a.2.1/\True->mD Q N a.1 a.2.1->(b a)/\(decide (a.2.1≠H)=false->(H<=(2:Int)/\(2:Int)<P)/\(N4 K0 M/\N4 K0 a.1/\p.2.2.2.2.2.2.2.2.1<=1000)/\∀(f:Nj),let c:(C8)->Prop:=(λg=>N4 K1 L/\sz K1 g.1/\N4 K1 f.1);let l:(C8)->(Nj)->Prop:=(λg d=>WfM d.1/\O5 d.2.1/\True->(¬(A4 L/\A4 f.1)->d.1=zm/\d.2.1=R)/\(A4 L/\A4 f.1->(¬(p.2.2.2.2.2.2.2.2.2.2.1=f.1.1/\p.2.2.2.2.2.2.2.2.2.2.2.1=f.1.2.1)->d.1=zm/\d.2.1=h)/\(p.2.2.2.2.2.2.2.2.2.2.1=f.1.1/\p.2.2.2.2.2.2.2.2.2.2.2.1=f.1.2.1->Ep p.2.2.2.2.2.2.2.2.2.2.1.toNat p.2.2.2.2.2.2.2.2.2.2.2.1.toNat (fun(i j:Nat)=>el L i j+rv g.1*el f.1 i j) d.1/\d.2.1=H))->(iB (decide (d.2.1≠H)) (Rc x.1 x.2.1 ([],(H,H,[]),H,H,[]) d.2.1) (Rc x.1 x.2.1 (r.2.1,d.1,a.1) H)));WfM f.1/\O5 f.2.1/\True->(¬(A4 M/\A4 a.1)->f.1=zm/\f.2.1=R)/\(A4 M/\A4 a.1->(p.2.2.2.2.2.2.2.2.1≠a.1.1->f.1=zm/\f.2.1=h)/\(p.2.2.2.2.2.2.2.2.1=a.1.1->Ep p.2.2.2.2.2.2.2.1.toNat a.1.2.1.toNat (fun(i j:Nat)=>B8 p.2.2.2.2.2.2.2.2.1.toNat fun(k:Nat)=>el M i k*el a.1 k j) f.1/\f.2.1=H))->(iB (decide (f.2.1≠H)) (Rc x.1 x.2.1 ([],(H,H,[]),H,H,[]) f.2.1) ((H<=(3:Int)/\(3:Int)<P)/\(True/\N2 λg=>g.1=ri R->((c g)/\∀(d:Nj),l g d)/\(c g)/\∀(d:Nj),l g d)/\True/\N2 λg=>g.1=ri R->(c g)/\∀(d:Nj),l g d)))))))))))))
end Go.Proofs.YtdbnghliccifcaaGreat
