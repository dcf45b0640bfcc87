/- Part. -/
import Derived.Shelf.SlSortCmp.NoneTotal
import Derived.Lib.QuietBelow
import Derived.Shelf.SlGeneric
import Derived.Shelf.SlicesG.Cmp
import Derived.Ground.SlsfProg
import Derived.Shelf.SlIterI.Sorted
import Derived.Shelf.SortM.Plain
import Derived.Shelf.SortM.SortNone
import Derived.Ground.GgzProg
import Derived.Ground.SlgmProg
import Derived.Ground.SlgcProg
import Derived.Test.YtcbjamefalhfgaaGreatProg
import Derived.Test.YtcbjamefalhfgaaGreatKFI
set_option linter.all false
namespace Go.Proofs.YtcbjamefalhfgaaGreat
open Go.Proofs.Tryz
open Go.Vc Go.Gw
open Go.IntKind (i64)
def CC:sq Ai Pw:=λx k _=>by
 obtain⟨a,f,_⟩:=x;have l:a.length<=9223372036854775807:=k.1.1;change Wf at a f;simp only[Pw,iB];refine⟨λh=>?_,λh=>?_⟩
 . have h:=qA h;exact(qX λe=>h (by rw[e])).symm
 have n:a.length=f.length:=by have:=qB h;omega
 refine⟨λp=>0<=p.1/\p.1<=(a.length:Int)/\a.take p.1.toNat=f.take p.1.toNat,λp=>((a.length:Int)-p.1).toNat,⟨qH _,qF _,by simp⟩,?_⟩;rintro⟨(i:Int),_⟩ _ ⟨c,j,g⟩;simp only at c j g|-;refine⟨λh=>?_,λh=>?_⟩
 . have h:=qA h;refine⟨⟨c,h⟩,⟨c,ω⟩,λb=>?_,λb=>?_⟩
   . have b:=qA b;exact(qX λe=>b (by rw[e])).symm
   have b:gx 0 a i=gx 0 f i:=by simpa using b
   rw[wv ω];refine⟨⟨ω,ω,?_⟩,ω⟩;rw[(ω:(i+1).toNat=i.toNat+1),rP,rP,H0 (d:=(0:Int)) c h,H0 (d:=(0:Int)) c ω,g,b]
 have h:=qB h;rw[qU ω,qU ω]at g;exact(rB g).symm
def ID:An:= {loop:= [(7,⟨[0,3],[],[(4,false,vI)],[],[]⟩),(2,⟨[0],[],[(3,false,vI)],[],[]⟩)],plan:= [(9,[3,7],[],true, .done)]}
def Oi(x:Rj):Prop:=let c:=(↑x.1.length:Int);let b:=(0:Int);let a:=(x.1.length:Int);∃(I:D3->Prop),∃(g: _->Nat),I (b,())/\∀(p:D3),let d:=(decide (a<=gx b x.1 p.1));let f:Prop:=(gx b x.1 p.1<b);let e:=(i64.wrap (p.1+1),());(Ty.int i64).wf p.1/\True->I p->(iB (decide (p.1<a)) ((b<=p.1/\p.1<a)/\(decide f=false->b<=p.1/\p.1<a)/\(iB (F5 (decide f) true d) (false=decide (G2 x.1 c)) (∃(I_1:D3->Prop),∃(h: _->Nat),I_1 (b,())/\∀(i:D3),let j:Prop:=(gx b x.1 i.1=gx b x.1 p.1);let d:=(i64.wrap (i.1+1),());(Ty.int i64).wf i.1/\True->I_1 i->(iB (decide (i.1<p.1)) ((b<=i.1/\i.1<a)/\(b<=p.1/\p.1<a)/\(iB (decide j) (false=decide (G2 x.1 c)) (I_1 d/\h d<h i))) (I e/\g e<g p))))) (true=decide (G2 x.1 c)))
def Zl:sq Y4 Oi:=λx _ n=>by
 obtain⟨(l:Wf),_⟩:=x;have H:l.length<=100000:=n;have D:∀ {i:Int},0<=i->i<(l.length:Int)->gx 0 l i∈l:=λh0 c=>F6 h0 c
 simp only[Oi,iB];refine⟨λp=>0<=p.1/\p.1<=(l.length:Int)/\(∀k:Nat,(k:Int)<p.1->0<=l.getD k 0/\l.getD k 0<(l.length:Int))/\∀a b:Nat,a<b->(b:Int)<p.1->l.getD a 0≠l.getD b 0,λp=>((l.length:Int)-p.1).toNat,⟨qH _,qF _,λk h=>ω,λa b _ u=>ω⟩,?_⟩;rintro⟨(i:Int),_⟩ _ ⟨g,F,w,v⟩;simp only at g F w v|-;refine⟨λd=>?_,λd=>?_⟩
 . have d:=qA d;refine⟨⟨g,d⟩,λ_=>⟨g,d⟩,λs=>?_,λs=>?_⟩
   . rw[H7,uD,rR,rR]at s;refine(qX λn=>?_).symm;have:=n.2.1 _ (D g d);omega
   rw[H7,rE,rM,rM]at s;refine⟨λp=>0<=p.1/\p.1<=i/\∀a:Nat,(a:Int)<p.1->l.getD a 0≠gx 0 l i,λp=>(i-p.1).toNat,⟨qH _,g,λa o=>ω⟩,?_⟩;rintro⟨(k:Int),_⟩ _ ⟨z,G,h⟩;simp only at z G h|-;refine⟨λj=>?_,λj=>?_⟩
   . have j:=qA j;refine⟨⟨z,ω⟩,⟨g,d⟩,λf=>?_,λf=>?_⟩
     . have f:=qA f;refine(qX λn=>?_).symm;have c:k.toNat<l.length:=ω
       have y:i.toNat<l.length:=ω
       have B:=tC.1 n.2.2 k.toNat i.toNat c y ω;refine B ?_;have A:gx 0 l k=l[k.toNat]:=H1 l 0 c;have r:gx 0 l i=l[i.toNat]:=H1 l 0 y;rw[<-A, <-r];exact f
     have f:=qB f;rw[wv ω];refine⟨⟨ω,ω,λa o=>?_⟩,ω⟩;by_cases c:(a:Int)<k
     . exact h a c
     have:a=k.toNat:=ω
     rw[this];exact f
   have j:=qB j;rw[wv ω];refine⟨⟨ω,ω,λa o=>?_,λa b t u=>?_⟩,ω⟩
   . by_cases c:(a:Int)<i
     . exact w a c
     have e:a=i.toNat:=ω
     have r:gx 0 l i=l.getD a 0:=by rw[e];rfl
     rw[<-r];omega
   by_cases c:(b:Int)<i
   . exact v a b t c
   have e:b=i.toNat:=ω
   rw[e];exact h a ω
 have d:=qB d;refine(rB ⟨rfl,λI E=>?_,tC.2 λa b o u t=>?_⟩).symm
 . obtain⟨k,h,rfl⟩:=T8 0 E;exact w k ω
 have:=v a b t ω;rwa[H1 l 0 o,H1 l 0 u]at this
def LJ:An:= {}
def VA:An:= {}
def W4:An:= {loop:= [(4,⟨[1,2,15,16],[],[(17,false,vI)],[],[]⟩)]}
def UP:An:= {}
def kJ:An:= {plan:= [(1,[0,3],[5],true, .done)]}
def kK:An:= {plan:= [(1,[0,3,7,9],[],false, .done)]}
def Qh(x:I9):Prop:=(H3 x.1/\H3 x.2.1)/\Ci λr=>r.1=Lk (rv x.1) (rv x.2.1)->True/\N6 λa=>a.1=ri r.1->a.1=ri (Lk (rv x.1) (rv x.2.1))
def Xz(x:B9j):Prop:=SU x.1/\aY λr=>(asc x.1->r.1=x.1)/\(¬asc x.1->asc r.1/\(∀(j:Int),A4 r.1 j=A4 x.1 j)/\r.1.length<=(20:Nat)/\Zr (16777216:Nat) r.1)->SU x.2.1/\aY λa=>(asc x.2.1->a.1=x.2.1)/\(¬asc x.2.1->asc a.1/\(∀(j:Int),A4 a.1 j=A4 x.2.1 j)/\a.1.length<=(20:Nat)/\Zr (16777216:Nat) a.1)->∃(d:I9->Prop),∃(b:I9->(Bool×Wf)×Wf),(∀(y:I9),tQ.wf y.1/\tQ.wf y.2.1/\True->d y->(sz K1 y.1/\sz K1 y.2.1)/\N6 λz=>z.1=ri (Lk (rv y.1) (rv y.2.1))->true=true/\z.1=b y)/\(List.length r.1<=100000/\List.length a.1<=100000/\∀(u v:C6),(u=zr\/∃(e:EE),e∈r.1/\e.2=u)->(v=zr\/∃(e:EE),e∈a.1/\e.2=v)->(d,b).1 (u,v,()))/\aY λc=>c.1=I6 b r.1 a.1->decide ((c.1.length:Int)=(0:Int))=vEq x.1 x.2.1
def K4(x:List (List EE)×List (List EE)×((List EE×List EE×Unit->Prop)×(List EE×List EE×Unit->Bool))×Unit):Prop:=let b:=(x.2.1.length:Int);let a:=(x.1.length:Int);(iB (decide (a≠b)) (false=eqF x.2.2.1.2 x.1 x.2.1) (∃(I:D3->Prop),∃(d: _->Nat),I ((0:Int),())/\∀(p:D3),let c:=(i64.wrap (p.1+1),());(Ty.int i64).wf p.1/\True->I p->(iB (decide (p.1<a)) ((0<=p.1/\p.1<a)/\(0<=p.1/\p.1<b)/\Go.Proofs.Tryz.prog=Go.Proofs.Tryz.prog/\x.2.2.1.1 (gx [] x.1 p.1,gx [] x.2.1 p.1,())/\(Ty.bool.wf (x.2.2.1.2 (gx [] x.1 p.1,gx [] x.2.1 p.1,()))->(iB ((!x.2.2.1.2 (gx [] x.1 p.1,gx [] x.2.1 p.1,()))) (false=eqF x.2.2.1.2 x.1 x.2.1) (I c/\d c<d p)))) (true=eqF x.2.2.1.2 x.1 x.2.1))))
def Xo(x:JS):Prop:=let f:=(decide (x.1.2.1≠x.2.1.2.1));True/\Gh λr=>r.1=decide (A3 x.1)->((!r.1)=false->True)/\∀(c:K2),let d:=(F5 (F5 (!r.1) true !c.1) true (decide (x.1.1≠x.2.1.1)));((!r.1)=false->(True/\True)/\c.1=decide (A3 x.2.1))->(iB (F5 d true f) ((false=true↔A3 x.1/\A3 x.2.1/\x.1.1=x.2.1.1/\x.1.2.1=x.2.1.2.1/\∀(i j:Nat),(↑i:Int)<x.1.1->(↑j:Int)<x.1.2.1->el x.1 i j=el x.2.1 i j)) (∃(b:B9j->Prop),∃(a:B9j->Bool),(∀(y:B9j),tE.sl.wf y.1/\tE.sl.wf y.2.1/\True->b y->(Vy K1 y.1/\Vy K1 y.2.1)/\Gh λz=>z.1=vEq y.1 y.2.1->false=false/\z.1=a y)/\(∀(u:List EE),u∈x.1.2.2->∀(v:List EE),v∈x.2.1.2.2->(b,a).1 (u,v,()))/\Gh λr=>r.1=eqF a x.1.2.2 x.2.1.2.2->(r.1=true↔A3 x.1/\A3 x.2.1/\x.1.1=x.2.1.1/\x.1.2.1=x.2.1.2.1/\∀(i j:Nat),(↑i:Int)<x.1.1->(↑j:Int)<x.1.2.1->el x.1 i j=el x.2.1 i j)))
def OM(x:T4):Prop:=let b:=(↑x.1.2.1.toNat:Int);(J1 K1 x.1/\A3 x.1)/\rT7 λr=>r.1=Ot x.1->((∀(l:List QQ),l∈r.1->nK K1 l/\(↑l.length:Int)=x.1.2.1)/\0<=x.1.2.1/\x.1.2.1<=16384/\List.length r.1<=16384)/\rT8 λc=>Lq r.1.length x.1.2.1.toNat (fun(i j:Nat)=>rv ((List.getD r.1 i []).getD j zr)) c.1->c.1.1=(↑x.1.1.toNat:Int)/\c.1.2.1=b/\List.length c.1.2.2=x.1.1.toNat/\∀(i:Nat),let a:=(List.getD c.1.2.2 i []);i<x.1.1.toNat->R3 a/\(∀(e:C8),e∈List.getD c.1.2.2 i []->0<=e.1/\e.1<b)/\∀(j:Nat),j<x.1.2.1.toNat->A4 a (↑j:Int)=el x.1 i j
def ON(x:JS):Prop:=J1 K1 x.1/\Gh λr=>r.1=decide (A3 x.1)->(r.1=true->J1 K1 x.2.1)/\∀(a:K2),(r.1=true->(True/\True)/\a.1=decide (A3 x.2.1))->(F5 r.1 a.1 false=true->J1 K1 x.1/\A3 x.1)/\∀(b:T4),(F5 r.1 a.1 false=true->(WfM b.1/\True)/\Lq x.1.1.toNat x.1.2.1.toNat (el x.1) b.1)->(F5 r.1 a.1 false=true->J1 K1 x.2.1/\A3 x.2.1)/\∀(c:T4),(F5 r.1 a.1 false=true->(WfM c.1/\True)/\Lq x.2.1.1.toNat x.2.1.2.1.toNat (el x.2.1) c.1)->(F5 r.1 a.1 false=true->J1 K1 b.1)/\∀(d:K2),(F5 r.1 a.1 false=true->(True/\True)/\(d.1=true↔b.1=c.1/\∀(v:List EE),v∈b.1.2.2->∀(e:EE),e∈v->e.2=rc (rv e.2)))->(F5 (F5 r.1 a.1 false) d.1 false=true↔A3 x.1/\A3 x.2.1/\x.1.1=x.2.1.1/\x.1.2.1=x.2.1.2.1/\∀(i j:Nat),(↑i:Int)<x.1.1->(↑j:Int)<x.1.2.1->el x.1 i j=el x.2.1 i j)
def VV:sq Kc OM:=λx k j=>by
 obtain⟨⟨R,C,D⟩,_⟩:=x;have i:Hc (R,C,D):=R4 k.1.2.2.2;change Int at R C;change List (List C8)at D;obtain⟨f,a⟩:J1 K1 (R,C,D)/\A3 (R,C,D):=j;simp only[OM,rT7,rT8];refine⟨⟨f,a⟩,?_⟩;rintro⟨u,_⟩ _ d;simp only at d|-;subst d;have r:R<=16384:=a.2.1;have o:0<=C:=a.2.2.1;refine⟨⟨λn b=>⟨B5l a i f δ n b,?_⟩,a.2.2.1,a.2.2.2.1,by rw[B1a];show R.toNat<=16384;omega⟩,?_⟩
 . unfold Ot at b;obtain⟨l,_,rfl⟩:=sV.1 b;rw[QB];show((C.toNat:Nat):Int)=C;omega
 rintro⟨t,_⟩ _ c;simp only[B1a]at c|-;exact ER c λl s g h=>by rw[(C5s g h).1,H2]
def VW:sq Kd ON:=λx G E=>by
 obtain⟨k,o,_⟩:=x;have D:Hc k:=R4 G.1.2.2.2;obtain⟨r,u⟩:J1 K1 k/\J1 K1 o:=E;simp only[ON,Gh,J5];refine⟨r,?_⟩;rintro⟨v,_⟩ _ c;simp only at c|-;refine⟨λ_=>u,?_⟩;rintro⟨w,_⟩ b;simp only at b|-;by_cases d:A3 k
 case neg=>
  have c:v=false:=by rw[c];exact qX d
  rw[c];simp only[yW];exact⟨λh=>(by cases h),λ_ _=>⟨λh=>(by cases h),λ_ _=>⟨λh=>(by cases h),λ_ _=>⟨λh=>(by cases h),λh=>absurd h.1 d⟩⟩⟩⟩
 have c:v=true:=by rw[c];exact rB d
 have b:=(b c).2;rw[c];simp only[wI];by_cases g:A3 o
 case neg=>
  have b:w=false:=by rw[b];exact qX g
  rw[b];simp only[yW];exact⟨λh=>(by cases h),λ_ _=>⟨λh=>(by cases h),λ_ _=>⟨λh=>(by cases h),λ_ _=>⟨λh=>(by cases h),λh=>absurd h.2.1 g⟩⟩⟩⟩
 have b:w=true:=by rw[b];exact rB g
 rw[b];simp only[wI];refine⟨λ_=>⟨r,d⟩,?_⟩;rintro⟨N,_⟩ a;have a:=(a trivial).2;simp only at a|-;refine⟨λ_=>⟨u,g⟩,?_⟩;rintro⟨y,_⟩ f;have f:=(f trivial).2;simp only at f|-;refine⟨λ_=>Qt a δ λi j _ _=>Pf d D r δ i j,?_⟩;rintro⟨P,_⟩ n;have n:=(n trivial).2;simp only at n|-;rw[n];have H:=d.1;have I:=d.2.2.1;have J:=g.1;have M:=g.2.2.1;constructor
 . rintro⟨e,_⟩;subst e;have s:=a.1.symm.trans f.1;have t:=a.2.1.symm.trans f.2.1;refine⟨d,g,ω,ω,λi j l B=>?_⟩;rw[<-Ha a (i:=i) (j:=j) ω ω,Ha f (i:=i) (j:=j) ω ω]
 rintro⟨_,_,s,t,h⟩;have z:Lq k.1.toNat k.2.1.toNat (el o) y:=by rw[s,t];exact f
 refine⟨C1j a z λi j l B=>h i j ω ω,λO F e A=>?_⟩;obtain⟨i,l,rfl⟩:=T8 [] F;rw[a.2.2.1]at l;exact((a.2.2.2 i l).1.2 e A).2
def DN:sq Ax Qh:=λx _ h=>by
 obtain⟨c,d,_⟩:=x;obtain⟨f,g⟩:sz K1 c/\sz K1 d:=h;simp only[Qh,Ci,N6];refine⟨⟨O4 f δ,O4 g δ⟩,?_⟩;rintro⟨r,_⟩ _ b;simp only at b|-;refine⟨trivial,?_⟩;rintro⟨q,_⟩ _ a;simp only at a|-;rw[a,b]
def KN:sq Ds Xz:=λx _ B=>by
 obtain⟨(a:List C8),(b:List C8),_⟩:=x;obtain⟨⟨c,u,v⟩,d,w,z⟩:Vy K1 a/\Vy K1 b:=B;simp only[Xz,N6,aY];refine⟨.inl c,?_⟩;rintro⟨E,_⟩ _ ⟨g,_⟩;have g:E=a:=g c;simp only;rw[g];refine⟨.inl d,?_⟩;rintro⟨F,_⟩ _ ⟨j,_⟩;have j:F=b:=j d;simp only;rw[j];refine⟨λy=>sz K1 y.1/\sz K1 y.2.1,λy=>ri (Lk (rv y.1) (rv y.2.1)),?_,⟨v,z,λG H k l=>⟨bA u k,bA w l⟩⟩,?_⟩
 . rintro⟨G,H,_⟩ _ ⟨k,l⟩;exact⟨⟨k,l⟩,λM _ D=>⟨by trivial,D⟩⟩
 rintro⟨(m:List C8),_⟩ _ f;simp only at f|-;obtain⟨n,_,t⟩:=AU (λy=>ri (Lk (rv y.1) (rv y.2.1))) (λp q=>((Lk p q:Int):Rat)) (by rw[Vd.2 rfl];rfl) a b (λ_ _ _ _=>Xg _) c d;have f:m=I6 (λy=>ri (Lk (rv y.1) (rv y.2.1))) a b:=f;rw[<-f]at n t;refine Bool.eq_iff_iff.2 ?_;rw[g4u,A9z c d];have o:∀i,A4 m i=0↔A4 a i=A4 b i:=λi=>by
  rw[t i];exact⟨λh=>Vd.1 (by exact_mod_cast h),λh=>by rw[Vd.2 h];rfl⟩
 constructor
 . intro I i;have:m= []:=qR ω;rw[<-o,this];rfl
 intro h;cases A:m with
 |nil=>rfl
 |cons e J=>
  exfalso;have s:e∈m:=by rw[A];exact rD
  have r:=(o e.1).2 (h e.1);rw[H8 n.1 s]at r;exact(n.2 e s).1 r
def A8f {α c:Type} {φ:α×c×Unit->Bool} :∀ {a:List α} {b:List c},eqF φ a b=true->a.length=b.length
 | [],[],_=>rfl
 | [],_:: _,h=>by cases h
 | _:: _,[],h=>by cases h
 |x::a,y::b,h=>by
  have h:(φ (x,y,())&&eqF φ a b)=true:=h;rw[qC]at h;rw[rH,rH,A8f h.2]
def U6:sq D5 K4:=λx w t=>by
 obtain⟨a,b,⟨z,c⟩,_⟩:=x;have A:a.length<=9223372036854775807:=w.1.1;change List (List C8)at a b;have s:∀u∈a,∀v∈b,z (u,v,()):=t;simp only[K4,iB];refine⟨λh=>?_,λh=>?_⟩
 . have h:=qA h;cases r:eqF c a b with
   |false=>rfl
   |true=>exact absurd (by rw[A8f r]) h
 have B:a.length=b.length:=by have:=qB h;omega
 refine⟨λp=>0<=p.1/\p.1<=(a.length:Int)/\eqF c a b=eqF c (a.drop p.1.toNat) (b.drop p.1.toNat),λp=>((a.length:Int)-p.1).toNat,⟨qH _,qF _,rfl⟩,?_⟩;rintro⟨(i:Int),_⟩ _ ⟨j,y,d⟩;simp only at j y d|-;refine⟨λf=>?_,λf=>?_⟩
 . have f:=qA f;have k:i.toNat<a.length:=ω
   have l:i.toNat<b.length:=ω
   have n:gx [] a i=a[i.toNat]:=H1 a [] k;have o:gx [] b i=b[i.toNat]:=H1 b [] l;rw[vX k,vX l, <-n, <-o]at d;have d:eqF c a b=(c (gx [] a i,gx [] b i,())&&eqF c (a.drop (i.toNat+1)) (b.drop (i.toNat+1))):=d;refine⟨⟨j,f⟩,⟨j,ω⟩,by trivial,s _ (F6 j f) _ (F6 j ω),λ_=>⟨λh=>?_,λh=>?_⟩⟩
   . cases g:c (gx [] a i,gx [] b i,())with
     |false=>rw[d,g];rfl
     |true=>rw[g]at h;cases h
   have g:c (gx [] a i,gx [] b i,())=true:=by
    cases g:c (gx [] a i,gx [] b i,())with
    |true=>rfl
    |false=>rw[g]at h;cases h
   rw[wv ω];refine⟨⟨ω,ω,?_⟩,ω⟩;rw[(ω:(i+1).toNat=i.toNat+1),d,g,wI]
 have f:=qB f;rw[d,sF ω,sF ω];rfl
def A8e {φ:List C8×List C8×Unit->Bool} :∀ {a b:List (List C8)},a.length=b.length->(eqF φ a b=true↔∀i,i<a.length->φ (a.getD i [],b.getD i [],())=true)
 | [],[],_=>⟨λ_ i c=>by simp at c,λ_=>rfl⟩
 | [],_:: _,h=>by simp at h
 | _:: _,[],h=>by simp at h
 |x::a,y::b,h=>by
  have g:=A8e (φ:=φ) (a:=a) (b:=b) (by simpa using h);show(φ (x,y,())&&eqF φ a b)=true↔ _;rw[qC,g];constructor
  . rintro⟨c,f⟩ i d;cases i with
    |zero=>exact c
    |succ i=>exact f i (by simpa using d)
  intro c;exact⟨c 0 (by simp),λi d=>c (i+1) (by simpa using d)⟩
def A9q {R C:Int} {D:List (List C8)} (b:A3 (R,C,D)) (c:J1 K1 (R,C,D)) {v:List C8} (h:v∈D):Vy K1 v:=by
 have a:E7 v C:=b.2.2.2.2.2 v h;have d:C<=16384:=b.2.2.2.1;have:=Aa a;exact⟨a.1,c v h,ω⟩
def KB:sq Dm Xo:=λx _ E=>by
 obtain⟨⟨(R:Int),(C:Int),D⟩,⟨(R':Int),(C':Int),D'⟩,_⟩:=x;change List (List C8)at D D';obtain⟨v,w⟩:J1 K1 (R,C,D)/\J1 K1 (R',C',D'):=E;simp only[Xo,iB,Gh,H7];refine⟨by first|exact v|trivial,?_⟩;rintro⟨A,_⟩ _ b;simp only at b|-;refine⟨λ_=>by first|exact w|trivial,?_⟩;rintro⟨B,_⟩ c;simp only at c|-;by_cases d:A3 (R,C,D)
 case neg=>
  have b:A=false:=by rw[b];exact qX d
  rw[b];exact⟨λ_=>⟨λh=>(by cases h),λh=>absurd h.1 d⟩,λh=>(by simp at h)⟩
 have b:A=true:=by rw[b];exact rB d
 have c:=(c (by rw[b];rfl)).2;by_cases f:A3 (R',C',D')
 case neg=>
  have c:B=false:=by rw[c];exact qX f
  rw[b,c];exact⟨λ_=>⟨λh=>(by cases h),λh=>absurd h.2.1 f⟩,λh=>(by simp at h)⟩
 have c:B=true:=by rw[c];exact rB f
 rw[b,c];simp only[yN,vC,uD,rR,rE,rM,tA];refine⟨λh=>⟨λh=>(by cases h),fun⟨_,_,o,a,_⟩=>(by rcases h with h|h;exact absurd o h;exact absurd a h)⟩,fun⟨o,a⟩=>?_⟩;subst o a;refine⟨λy=>Vy K1 y.1/\Vy K1 y.2.1,λy=>vEq y.1 y.2.1,?_,λF t G u=>⟨A9q d v t,A9q f w u⟩,?_⟩
 . rintro⟨F,G,_⟩ _ ⟨t,u⟩;exact⟨⟨t,u⟩,λH _ n=>⟨by trivial,n⟩⟩
 rintro⟨H,_⟩ _ n;simp only at n|-;have I:(D.length:Int)=R:=d.2.2.2.2.1;have J:(D'.length:Int)=R:=f.2.2.2.2.1;rw[n,A8e ω];have z:∀i:Nat,i<D.length->(vEq (D.getD i []) (D'.getD i [])=true↔∀j:Nat,(j:Int)<C->el (R,C,D) i j=el (R,C,D') i j):=λi l=>by
  have r:E7 (D.getD i []) C:=d.2.2.2.2.2 _ (D4 l);have s:E7 (D'.getD i []) C:=f.2.2.2.2.2 _ (D4 (ω:i<D'.length));rw[A9z r.1 s.1];refine⟨λh j _=>h _,λh j=>?_⟩;by_cases g:0<=j/\j<C
  . have:=h j.toNat ω;have e:((j.toNat:Nat):Int)=j:=ω
    show A4 _ j=A4 _ j;rw[<-e];exact this
  rw[C7 λe k a=>g ⟨by rw[<-a];exact(r.2 e k).1,by rw[<-a];exact(r.2 e k).2.1⟩,C7 λe k a=>g ⟨by rw[<-a];exact(s.2 e k).1,by rw[<-a];exact(s.2 e k).2.1⟩]
 constructor
 . intro h;exact⟨d,f,by trivial,by trivial,λi j l g=>(z i ω).1 (h i ω) j g⟩
 rintro⟨_,_,_,_,h⟩ i l;exact(z i l).2 λj g=>h i j ω g
def LG:An:= {loop:= [(12,⟨[1,5,6,7],[],[(8,false,vI)],[],[]⟩),(7,⟨[1,5,6],[],[(7,false,vI)],[],[]⟩)],plan:= [(5,[1,4],[],true, .done),(9,[3,6,14,17],[],true, .done)]}
def Qe(x:B9i):Prop:=let y:=(x.1.1.length:Int);let w:Prop:=(True/\True);let v:=(x.1.2.1.length:Int);let o:=(549755813888:Nat);let j:=(0:Int);let h:Prop:=(x.1.2.2.2.1≠x.2.1);let g:Prop:=(x.1.2.2.1.1≠x.2.1);let f:Prop:=(x.1.2.2.2.2.1≠x.2.1);let e:Prop:=(x.1.2.2.1.2.1≠x.2.1);let q:=(F5 (F5 (decide g) true (decide e)) true (decide h));let c:Prop:=(false=true↔O3 x.1 x.2.1);let b:Prop:=(y≠x.2.1);let a:Prop:=(v≠x.2.1);let i:=(F5 (decide b) true (decide a));(F5 (decide b) true (decide a)=false->List.length x.1.1<=100000)/\∀(r:K2),(F5 (decide b) true (decide a)=false->w/\r.1=decide (G2 x.1.1 y))->((F5 i true !r.1)=false->List.length x.1.2.1<=100000)/\∀(D:K2),((F5 i true !r.1)=false->w/\D.1=decide (G2 x.1.2.1 v))->((F5 (F5 i true !r.1) true !D.1)=false->J1 K1 x.1.2.2.1)/\∀(F:K2),((F5 (F5 i true !r.1) true !D.1)=false->w/\F.1=decide (A3 x.1.2.2.1))->((F5 (F5 (F5 i true !r.1) true !D.1) true !F.1)=false->J1 K1 x.1.2.2.2)/\∀(K:K2),((F5 (F5 (F5 i true !r.1) true !D.1) true !F.1)=false->w/\K.1=decide (A3 x.1.2.2.2))->(iB ((F5 (F5 (F5 (F5 i true !r.1) true !D.1) true !F.1) true !K.1)) (c) ((iB (F5 q true (decide f)) (c) ((J1 K1 x.1.2.2.1/\A3 x.1.2.2.1)/\rT7 λr=>let z:=(r.1.length:Int);r.1=Ot x.1.2.2.1->(J1 K1 x.1.2.2.2/\A3 x.1.2.2.2)/\rT7 λH=>H.1=Ot x.1.2.2.2->∃(I:D3->Prop),∃(a: _->Nat),I (j,())/\∀(p:D3),let t:=(i64.wrap (p.1+1),());let l:=(gx dQ (gx [] r.1 p.1) p.1);let k:=(gx [] H.1 p.1);let d:Prop:=(j<=p.1/\p.1<(H.1.length:Int));(Ty.int i64).wf p.1/\True->I p->(iB (decide (p.1<x.2.1)) ((j<=p.1/\p.1<z)/\(j<=p.1/\p.1<(↑(gx [] r.1 p.1).length:Int))/\True/\N6 λG=>G.1=ri (1:Int)->((List.length l.1.2<=o/\List.length l.2<=o)/\List.length G.1.1.2<=o/\List.length G.1.2<=o)/\Ci λL=>let m:Prop:=(L.1≠j);L.1=Lk (rv l) (rv G.1)->(decide m=false->d)/\(decide m=false->j<=p.1/\p.1<(↑k.length:Int))/\(decide m=false->H3 (gx dQ k p.1))/\∀(J:D3),let A:=(decide (J.1=j));(decide m=false->(R8 J.1/\True)/\J.1=(rv (gx dQ k p.1)).num.sign)->(iB (F5 (decide m) true A) (c) (∃(I_1:D3->Prop),∃(b: _->Nat),I_1 (j,())/\∀(C:D3),let u:=(gx [] r.1 C.1);let s:=(i64.wrap (C.1+1),());(Ty.int i64).wf C.1/\True->I_1 C->(iB (decide (C.1<p.1)) ((j<=C.1/\C.1<z)/\(j<=p.1/\p.1<(↑u.length:Int))/\H3 (gx dQ u p.1)/\Ci λM=>let n:Prop:=(M.1≠j);M.1=(rv (gx dQ u p.1)).num.sign->(decide n=false->d)/\(decide n=false->j<=C.1/\C.1<(↑k.length:Int))/\(decide n=false->H3 (gx dQ k C.1))/\∀(r:D3),let B:=(decide (r.1≠j));(decide n=false->(R8 r.1/\True)/\r.1=(rv (gx dQ k C.1)).num.sign)->(iB (F5 (decide n) true B) (c) (I_1 s/\b s<b C))) (I t/\a t<a p))))) ((true=true↔O3 x.1 x.2.1)))))))
def wfD (L U:J6) (a:Nat):Prop:=el L a a=1/\el U a a≠0/\∀b,b<a->el L b a=0/\el U a b=0
def wfI (n:Int) (L U:J6) (p:Int×Unit):Prop:=0<=p.1/\p.1<=n/\∀a:Nat,(a:Int)<p.1->wfD L U a
def wfJ (i:Nat) (L U:J6) (p:Int×Unit):Prop:=0<=p.1/\p.1<=(i:Int)/\∀b:Nat,(b:Int)<p.1->el L b i=0/\el U i b=0
def C6v:sz K1 (ri 1):=by
 rw[Xg];exact Tx (mZ δ)
def C6p {P Q:Wf} {L U:J6} {n:Int} (h:O3 (P,Q,L,U) n) {a:Nat} (b:(a:Int)<n):wfD L U a:=by
 obtain⟨_,_,_,_,c⟩:=h;exact⟨(c a a b b).2.1,(c a a b b).2.2.2,λd f=>⟨(c d a ω b).1 f,(c a d b ω).2.2.1 f⟩⟩
def WB {m:J6} (k:A3 m) (g:Hc m) (h:J1 K1 m) {i j:Int} (a:0<=i) (b:i<m.1) (c:0<=j) (f:j<m.2.1):sz K1 (rc (el m i.toNat j.toNat)):=by
 rw[<-Fq a b c f];have f:gx [] (Ot m) i∈Ot m:=F6 (d:= []) a (by rw[Vj];omega);exact B5l k g h δ _ f _ (F6 (d:=dQ) c (by rw[EL a b];omega))
def DI:sq Ap Qe:=λx ai b2=>by
 obtain⟨⟨(P:Wf),(Q:Wf),⟨I,lc,L⟩,⟨J,a,U⟩⟩,n,_⟩:=x;change List (List C8)at L U;change Int at I lc J a n;have ag:Hc (I,lc,L):=R4 ai.1.2.2.1.2.2.2;have ah:Hc (J,a,U):=R4 ai.1.2.2.2.2.2.2;obtain⟨D,am,ax,ay,E,F⟩:=b2;have D:0<=n:=D;have am:n<=16384:=am;have E:J1 K1 (I,lc,L):=E;have F:J1 K1 (J,a,U):=F;simp only[Qe,iB,Ci,N6,rT7];refine⟨λ_=>ax,?_⟩;rintro⟨ao,_⟩ u;refine⟨λ_=>ay,?_⟩;rintro⟨ap,_⟩ v;refine⟨λ_=>E,?_⟩;rintro⟨aq,_⟩ w;refine⟨λ_=>F,?_⟩;rintro⟨ar,_⟩ y;change Bool at ao ap aq ar;simp only[H7]at u v w y|-;by_cases a7:(P.length:Int)=n/\(Q.length:Int)=n
 case neg=>
  have a1:(decide ((P.length:Int)≠n) ||decide ((Q.length:Int)≠n))=true:=by
   rw[uD,rR,rR];by_cases e:(P.length:Int)=n
   . exact .inr λau=>a7 ⟨e,au⟩
   exact .inl e
  refine⟨λ_=>⟨λh=>(by cases h),λh=>absurd ⟨h.1.1,h.2.1.1⟩ a7⟩,λh=>?_⟩;have ac:(decide ((List.length (α:=Int) P:Int)≠n) ||decide ((List.length (α:=Int) Q:Int)≠n))=true:=a1;simp only[rE]at h;rw[uD,h.1.1.1.1.1,h.1.1.1.1.2]at ac;simp at ac
 obtain⟨ad,ae⟩:=a7;have a1:(decide ((P.length:Int)≠n) ||decide ((Q.length:Int)≠n))=false:=by
  rw[qX (λh=>h ad),qX (λh=>h ae)];rfl
 have u:=(u a1).2;simp only[ad,ae,g4k,not_true_eq_false,g1d,vC,g4g]at u v w y|-;by_cases Y:G2 P n
 case neg=>
  rw[qX Y]at u;subst u;exact⟨λ_=>⟨λh=>(by cases h),λh=>absurd h.1 Y⟩,λh=>(by simp at h)⟩
 rw[rB Y]at u;subst u;have v:=(v rfl).2;by_cases Z:G2 Q n
 case neg=>
  rw[qX Z]at v;subst v;exact⟨λ_=>⟨λh=>(by cases h),λh=>absurd h.2.1 Z⟩,λh=>(by simp at h)⟩
 rw[rB Z]at v;subst v;have w:=(w rfl).2;by_cases z:A3 (I,lc,L)
 case neg=>
  rw[qX z]at w;subst w;exact⟨λ_=>⟨λh=>(by cases h),λh=>absurd h.2.2.1.2.2 z⟩,λh=>(by simp at h)⟩
 rw[rB z]at w;subst w;have y:=(y rfl).2;by_cases A:A3 (J,a,U)
 case neg=>
  rw[qX A]at y;subst y;exact⟨λ_=>⟨λh=>(by cases h),λh=>absurd h.2.2.2.1.2.2 A⟩,λh=>(by simp at h)⟩
 rw[rB A]at y;subst y;refine⟨λh=>(by cases h),λ_=>⟨λh=>⟨λh=>(by cases h),λhk=>?_⟩,λh=>?_⟩⟩
 . obtain⟨_,_,⟨O,R,_⟩,⟨T,V,_⟩,_⟩:=hk;simp only at O R T V;simp[O,R,T,V]at h
 obtain⟨O,R,T,V⟩:I=n/\lc=n/\J=n/\a=n:=by
  simp only[rE,rM,tA]at h;exact⟨h.1.1.1,h.1.1.2,h.1.2,h.2⟩
 subst O R T V;refine⟨⟨E,z⟩,?_⟩;rintro⟨b8,_⟩ _ a6;have a6:b8=Ot (a,a,L):=a6;subst a6;refine⟨⟨F,A⟩,?_⟩;rintro⟨ba,_⟩ _ a9;have a9:ba=Ot (a,a,U):=a9;subst a9;simp only;refine⟨wfI a (a,a,L) (a,a,U),λp=>(a-p.1).toNat,⟨qH _,D,λi g=>absurd g (by simp only;omega)⟩,?_⟩;rintro⟨(k:Int),_⟩ _ ⟨c,b5,X⟩;simp only at c b5 X|-;have aj:((Ot (a,a,L)).length:Int)=a:=by rw[Vj];exact tF D
 have ak:((Ot (a,a,U)).length:Int)=a:=by rw[Vj];exact tF D
 have fin:∀ {i:Nat},(i:Int)<a->¬wfD (a,a,L) (a,a,U) i->(false=true↔O3 (P,Q,(a,a,L),a,a,U) a):=λg hn=>⟨λh=>(by cases h),λh=>absurd (C6p h g) hn⟩
 refine⟨λb=>?_,λb=>?_⟩
 . have b:=qA b;have af:((k.toNat:Nat):Int)<a:=ω
   have rl:∀ {j:Int},0<=j->j<a->((gx [] (Ot (a,a,L)) j).length:Int)=a:=λf H=>by rw[EL f H];exact tF D
   have an:∀ {j:Int},0<=j->j<a->((gx [] (Ot (a,a,U)) j).length:Int)=a:=λf H=>by rw[EL f H];exact tF D
   refine⟨⟨c,by rw[aj];exact b⟩,⟨c,by rw[rl c b];exact b⟩,trivial,?_⟩;rintro⟨b9,_⟩ _ a8;have a8:b9=ri 1:=a8;subst a8;simp only;rw[Fq (m:=(a,a,L)) c b c b,H2,NF,show((1:Int):Rat)=1 from rfl];have b3:=WB z ag E c b c b;have b4:=WB A ah F c b c b;refine⟨⟨b3,C6v⟩,?_⟩;rintro⟨(M:Int),_⟩ _ a4;simp only at a4|-;refine⟨λ_=>⟨c,by rw[ak];exact b⟩,λ_=>⟨c,by rw[an c b];exact b⟩,λ_=>by rw[Fq (m:=(a,a,U)) c b c b];exact O4 b4 δ,?_⟩;rintro⟨(aa:Int),_⟩ o;simp only at o|-;refine⟨λd=>?_,λd=>?_⟩
   . refine fin af λW=>?_
     have l:M=0:=by rw[a4];exact Vd.2 W.1
     have a0:aa=0:=by
      have e:decide (M≠0)=false:=qX λh=>h l
      rw[e,vC]at d;exact qA d
     have o:=(o (qX λh=>h l)).2;rw[Fq (m:=(a,a,U)) c b c b,a0]at o;exact W.2.1 ((Mz _).1 o.symm)
   simp only[rE]at d;have l:M=0:=tA.1 (qB d.1);have o:=(o d.1).2;rw[Fq (m:=(a,a,U)) c b c b]at o;have aw:el (a,a,L) k.toNat k.toNat=1:=Vd.1 (by rw[<-a4];exact l);have az:el (a,a,U) k.toNat k.toNat≠0:=λh=>qB d.2 (by rw[o];exact(Mz _).2 h)
   refine⟨wfJ k.toNat (a,a,L) (a,a,U),λp=>(k-p.1).toNat,⟨qH _,qF _,λi g=>absurd g (by simp only;omega)⟩,?_⟩;rintro⟨(j:Int),_⟩ _ ⟨f,H,a3⟩;simp only at f H a3|-;refine⟨λG=>?_,λG=>?_⟩
   . have G:=qA G;have s:j<a:=ω
     rw[Fq (m:=(a,a,L)) f s c b];refine⟨⟨f,by rw[aj];exact s⟩,⟨c,by rw[rl f s];exact b⟩,O4 (WB z ag E f s c b) δ,?_⟩;rintro⟨(N:Int),_⟩ _ a5;simp only at a5|-;refine⟨λ_=>⟨c,by rw[ak];exact b⟩,λ_=>⟨f,by rw[an c b];exact s⟩,λ_=>by rw[Fq (m:=(a,a,U)) c b f s];exact O4 (WB A ah F c b f s) δ,?_⟩;rintro⟨(ab:Int),_⟩ r;simp only at r|-;refine⟨λd=>?_,λd=>?_⟩
     . refine fin af λW=>?_
       obtain⟨b6,b7⟩:=W.2.2 j.toNat ω;have l:N=0:=by rw[a5];exact(Mz _).2 b6
       have r:=(r (qX λh=>h l)).2;rw[Fq (m:=(a,a,U)) c b f s,(Mz _).2 b7]at r;have e:decide (N≠0)=false:=qX λh=>h l
       rw[e,vC]at d;exact qA d r
     simp only[rE]at d;have l:N=0:=tA.1 (qB d.1);have r:=(r d.1).2;rw[Fq (m:=(a,a,U)) c b f s]at r;have a0:ab=0:=tA.1 (qB d.2);rw[wv ω];refine⟨⟨by simp only;omega,by simp only;omega,λt B=>?_⟩,ω⟩;simp only at B;rcases(ω:(t:Int)<j\/t=j.toNat)with B|B
     . exact a3 t B
     rw[B];exact⟨(Mz _).1 (by rw[<-a5];exact l),(Mz _).1 (by rw[<-r];exact a0)⟩
   have G:=qB G;rw[wv ω];refine⟨⟨by simp only;omega,by simp only;omega,λi g=>?_⟩,ω⟩;simp only at g;rcases(ω:(i:Int)<k\/i=k.toNat)with g|g
   . exact X i g
   rw[g];exact⟨aw,az,λt B=>a3 t ω⟩
 have b:=qB b;refine⟨λ_=>⟨Y,Z,⟨rfl,rfl,z⟩,⟨rfl,rfl,A⟩,λi t g B=>?_⟩,λ_=>by trivial⟩;have a2:=X i ω;have av:=X t ω;exact⟨λb0=>(av.2.2 i b0).1,a2.1,λb1=>(a2.2.2 t b1).2,a2.2.1⟩
def XP:An:= {loop:= [(5,⟨[1,2,5,6],[0,1],[(7,false,vI)],[],[(3, .rows tQ 28 46)]⟩),(12,⟨[1,2,5,6,8],[0,1],[(9,false,vI)],[],[(3, .rows tQ 28 46)]⟩),(9,⟨[1,2,5,6],[0,1],[(8,false,vI)],[],[(3, .rows tQ 28 46)]⟩)],plan:= [(14,[2,5,7,9,12,16,19],[21],true, .done)]}
def DG(x:(Wf×Wf×MM×Int×Int×List (List EE))×Unit):Prop:=let w:=(281474976710656:Int);let v:=(1:Int);let u:=(9223372036854775807:Int);let h:=(0:Int);let g:=(x.1.1.length:Int);let e:=(x.1.2.1.length:Int);(∃(A:Nat),∃(c:Nat),(1:Nat)<=A/\J1 A x.1.2.2.1/\J1 A x.1.2.2.2/\x.1.2.2.1.2.1<=(↑c:Int)/\(A+A+(1:Nat))*(c+(1:Nat))<=K1)/\∀(r:nQ),WfM r.1/\R8 r.2.1/\True->(¬(A3 x.1.2.2.1/\A3 x.1.2.2.2)->r.1=zm/\r.2.1=v)/\(A3 x.1.2.2.1/\A3 x.1.2.2.2->(x.1.2.2.1.2.1≠x.1.2.2.2.1->r.1=zm/\r.2.1=4)/\(x.1.2.2.1.2.1=x.1.2.2.2.1->Lq x.1.2.2.1.1.toNat x.1.2.2.2.2.1.toNat (fun(i j:Nat)=>B8 x.1.2.2.1.2.1.toNat fun(k:Nat)=>el x.1.2.2.1 i k*el x.1.2.2.2 k j) r.1/\r.2.1=h))->(J1 K1 r.1/\A3 r.1)/\rT7 λz=>z.1=Ot r.1->(h<=g/\g<=g/\(↑(24:Nat):Int)*g<=w/\g<=u)/\∃(I:Kw->Prop),∃(a: _->Nat),I (h,List.replicate g.toNat [],())/\∀(p:Kw),let n:=(i64.wrap (p.1+v),List.set p.2.1 p.1.toNat (List.replicate e.toNat dQ),());let b:Prop:=(p.1<(p.2.1.length:Int));(Ty.int i64).wf p.1/\FJ p.2.1/\True->I p->(iB (decide b) ((h<=e/\e<=e/\(↑(56:Nat):Int)*e<=w/\e<=u)/\(h<=p.1/\b)/\I n/\a n<a p) (∃(I:Kw->Prop),∃(a: _->Nat),I (h,p.2.1,())/\∀(p:Kw),let s:=(gx [] z.1 p.1);let q:=(gx h x.1.1 p.1);let d:Prop:=(p.1<g);(Ty.int i64).wf p.1/\FJ p.2.1/\True->I p->(iB (decide d) (∃(I_1:Kw->Prop),∃(c: _->Nat),I_1 (h,p.2.1,())/\∀(y:Kw),let o:=(i64.wrap (p.1+v),y.2.1,());let m:=(List.getD y.2.1 q.toNat []);let t:=(i64.wrap (y.1+v),List.set y.2.1 q.toNat (m.set (gx h x.1.2.1 y.1).toNat (gx dQ s y.1)),());let b:Prop:=(y.1<e);(Ty.int i64).wf y.1/\FJ y.2.1/\True->I_1 y->(iB (decide b) ((h<=p.1/\d)/\(h<=gx h x.1.1 p.1/\gx h x.1.1 p.1<(y.2.1.length:Int))/\(h<=y.1/\b)/\(h<=p.1/\p.1<(z.1.length:Int))/\(h<=y.1/\y.1<(↑s.length:Int))/\(h<=gx h x.1.2.1 y.1/\gx h x.1.2.1 y.1<(↑m.length:Int))/\I_1 t/\c t<c y) (I o/\a o<a p))) (((∀(l:List QQ),l∈p.2.1->nK K1 l/\(↑l.length:Int)=e)/\h<=e/\e<=(16384:Int)/\List.length p.2.1<=16384)/\rT8 λr=>Lq p.2.1.length e.toNat (fun(i j:Nat)=>rv ((List.getD p.2.1 i []).getD j zr)) r.1->∃(f:Nat->Nat->Rat),Lq x.1.1.length x.1.1.length f r.1/\∀(i j:Nat),i<x.1.1.length->j<x.1.1.length->f (ix x.1.1 i) (ix x.1.2.1 j)=GB x.1 x.1.1.length i j))))
def TCI (s Y B:Nat) (w:List C8) (u:C6) (a:List C6) (t:Nat) (z:List C6):Prop:=
 z.length=a.length/\(∀j:Nat,(∀e∈w.take t,e.1≠(j:Int))->z.getD j zr=a.getD j zr)/\∀e∈w.take t,oC (B+(s+Y+1)) (rv (a.getD e.1.toNat zr)-rv e.2*rv u) (z.getD e.1.toNat zr)/\(a.getD e.1.toNat zr=rc (rv (a.getD e.1.toNat zr))->z.getD e.1.toNat zr=rc (rv (z.getD e.1.toNat zr)))
variable {s T Y B n i:Nat} {w:List C8} {u:C6} {z0 z:List C6}
def TCI.init:TCI s Y B w u z 0 z:=⟨rfl,λ_ _=>rfl,λe a=>(by rw[g0h]at a;cases a)⟩
def TCI.next (E:asc w) (hw:∀e∈w,0<=e.1/\e.1<(z0.length:Int)/\sz s e.2/\Sf e.2/\e.1≠(i:Int)/\∃q,oC B q (z0.getD e.1.toNat zr)) (hs:1<=s) (hB:1<=B) (hY:1<=Y) (hu:oC Y (rv u) u) (hui:z0.getD i zr=u) {t:Int} (t0:0<=t) (t1:t<(w.length:Int)) (h:TCI s Y B w u z0 t.toNat z):
 (z.getD i zr=u/\z.getD (gx D7 w t).1.toNat zr=z0.getD (gx D7 w t).1.toNat zr/\sz B (z.getD (gx D7 w t).1.toNat zr))/\∀r:C6,(rv u=0->r=z.getD (gx D7 w t).1.toNat zr)->(rv u≠0->r=rc (rv (z.getD (gx D7 w t).1.toNat zr)-rv (gx D7 w t).2*rv u))->TCI s Y B w u z0 (t+1).toNat (z.set (gx D7 w t).1.toNat r):=by
 obtain⟨l,c,D⟩:=h;have n:=B4d (d:=D7) E t0 t1;have G:=F6 (d:=D7) t0 t1;have o:=Mc (d:=D7) t0 t1;generalize gx D7 w t=e at*;obtain⟨M,N,x,A,O,q,b⟩:=hw e G;have P:((e.1.toNat:Nat):Int)=e.1:=ω
 have I:z.getD i zr=u:=by
  rw[c i λy a=>(hw y (rU a)).2.2.2.2.1];exact hui
 have g:z.getD e.1.toNat zr=z0.getD e.1.toNat zr:=c _ λy a=>by have:=n y a;omega
 refine⟨⟨I,g,by rw[g];exact b.1⟩,λr j k=>⟨by rw[qP];exact l,λJ f=>?_,λy a=>?_⟩⟩
 . rw[o]at f;have:=f e (tN _ (qO.2 rfl));rw[D8 ω];exact c J λy a=>f y (sJ _ a)
 rw[o]at a;rcases qZ.1 a with a|a
 . have:=n y a;have:=(hw y (rU a)).1;rw[D8 ω];exact D y a
 rw[qO.1 a,B9 (by rw[l];omega)];rw[g]at j k;have H:oC B (rv (z0.getD e.1.toNat zr)) (z0.getD e.1.toNat zr):=⟨b.1,b.2.1,rfl⟩;refine⟨DZ (dM H A x hs hu hB hY j k) ω,λF=>?_⟩;by_cases v:rv u=0
 . rw[j v];exact F
 rw[k v,H2]
def TCI.done (g:asc w) (a:∀e∈w,0<=e.1) {t:Nat} (b:w.length<=t) (h:TCI s Y B w u z0 t z):z.length=z0.length/\∀j:Nat,(A4 w (j:Int)=0/\(∀e∈w,e.1≠(j:Int))->z.getD j zr=z0.getD j zr)/\(∀q,oC B q (z0.getD j zr)->oC (B+(s+Y+1)) (q-A4 w (j:Int)*rv u) (z.getD j zr))/\(z0.getD j zr=rc (rv (z0.getD j zr))->z.getD j zr=rc (rv (z.getD j zr))):=by
 obtain⟨a,d,f⟩:=h;rw[qU b]at d f;refine⟨a,λj=>⟨λc=>d j c.2,λq l=>?_,λi=>?_⟩⟩
 . by_cases b:∃e∈w,e.1=(j:Int)
   . obtain⟨e,a,k⟩:=b;have c:e.1.toNat=j:=ω
     have:=(f e a).1;rw[c]at this;rw[<-k,H8 g a, <-l.2.2];exact this
   have b:∀e∈w,e.1≠(j:Int):=λe a g=>b ⟨e,a,g⟩
   rw[d j b,C7 b,rV,tK,wM,rK];exact DZ l ω
 by_cases b:∃e∈w,e.1=(j:Int)
 . obtain⟨e,a,k⟩:=b;have c:e.1.toNat=j:=ω
   have:=(f e a).2;rw[c]at this;exact this i
 rw[d j λe a g=>b ⟨e,a,g⟩];exact i
def TW (s T Y n i:Nat) (U:Nat->Nat->Rat) (c:Nat->Rat) (z:List C6):Prop:=z.length=n/\(∀j,j<i->(∃q,z.getD j zr=rc q/\qs Y q)/\B8 (j+1) (λm=>U m j*rv (z.getD m zr))=c j)/\∀j,i<=j->j<n->oC (T+i*(s+Y+1)) (c j-B8 i (λm=>U m j*rv (z.getD m zr))) (z.getD j zr)
def TB (s T Y n i:Nat) (L:Nat->Nat->Rat) (c:Nat->Rat) (z:List C6):Prop:=z.length=n/\(∀j,j<n->z.getD j zr=rc (rv (z.getD j zr)))/\(∀j,i<=j->j<n->qs Y (rv (z.getD j zr))/\B8 n (λm=>L m j*rv (z.getD m zr))=c j)/\∀j,j<i->oC (T+(n-i)*(s+Y+1)) (c j-B8 n (λm=>if i<=m then L m j*rv (z.getD m zr)else 0)) (z.getD j zr)
variable {U L:Nat->Nat->Rat} {c:Nat->Rat}
def TW.step (h:TW s T Y n i U c z0) (I:i<n) (P:U i i≠0) (A:u=rc (rv (z0.getD i zr)/U i i)) (M:qs Y (rv u)) (F:asc w) (g:∀e∈w,(i:Int)<e.1/\e.1<(n:Int)) (E:∀j:Nat,i<j->A4 w (j:Int)=U i j) {t:Nat} (N:w.length<=t) (G:TCI s Y (T+i*(s+Y+1)) w u (z0.set i u) t z):TW s T Y n (i+1) U c z:=by
 obtain⟨D,l,o⟩:=h;obtain⟨B,k⟩:=G.done F (λe b=>by have:=(g e b).1;omega) N;have r:∀j:Nat,j<=i->z.getD j zr=(z0.set i u).getD j zr:=λj a=>(k j).1 ⟨C7 λe b H=>by have:=(g e b).1;omega,λe b H=>by have:=(g e b).1;omega⟩
 have f:∀j:Nat,j<i->z.getD j zr=z0.getD j zr:=λj a=>by rw[r j ω,D8 ω]
 have d:z.getD i zr=u:=by rw[r i (qT _),B9 ω]
 have x:rv u=rv (z0.getD i zr)/U i i:=by rw[A,H2]
 have y:∀(j:Nat),B8 i (λm=>U m j*rv (z.getD m zr))=B8 i (λm=>U m j*rv (z0.getD m zr)):=λj=>A8 λm v=>by rw[f m v]
 refine⟨by rw[B,qP];exact D,λj a=>?_,λj O J=>?_⟩
 . rcases(ω:j<i\/j=i)with a|rfl
   . rw[f j a];refine⟨(l j a).1,?_⟩;rw[<-(l j a).2];exact A8 λm v=>by rw[f m ω]
   rw[d];refine⟨⟨_,A,by rw[<-x];exact M⟩,?_⟩;show B8 j (λm=>U m j*rv (z.getD m zr))+U j j*rv (z.getD j zr)=c j;rw[y,d,x,(o j (qT _) I).2.2];grind
 have:=(k j).2.1 (c j-B8 i (λm=>U m j*rv (z0.getD m zr))) (by rw[D8 ω];exact o j ω J);rw[E j ω]at this;have e:c j-B8 i (λm=>U m j*rv (z0.getD m zr))-U i j*rv u=c j-B8 (i+1) (λm=>U m j*rv (z.getD m zr)):=by
  show _=c j-(B8 i (λm=>U m j*rv (z.getD m zr))+U i j*rv (z.getD i zr));rw[y,d];grind
 rw[e]at this;exact DZ this (by rw[tZ];omega)
def A9r (n i:Nat) (b:i<n) (f:Nat->Rat):B8 n (λm=>if i<=m then f m else 0)=f i+B8 n (λm=>if i+1<=m then f m else 0):=by
 have a:B8 n (λm=>if i<=m then f m else 0)=B8 n (λm=>(if m=i then f i else 0)+if i+1<=m then f m else 0):=A8 λm _=>by
  rcases g1v m i with h|h|h
  . rw[qG ω,qG ω,qG ω,rK]
  . subst h;rw[qK (qT _),qK rfl,qG ω,rK]
  rw[qK ω,qG ω,qK ω,sR]
 rw[a,Ag,G7 (k:=i) b λm _ c=>qG c,qK rfl]
def TB.step (h:TB s T Y n (i+1) L c z0) (x:i<n) (F:L i i=1) (v:∀m j,m<j->j<n->L m j=0) (O:qs Y (rv (z0.getD i zr))) (I:asc w) (o:∀e∈w,0<=e.1/\e.1<(i:Int)) (H:∀j:Nat,j<i->A4 w (j:Int)=L i j) {t:Nat} (P:w.length<=t) (J:TCI s Y (T+(n-(i+1))*(s+Y+1)) w (z0.getD i zr) z0 t z):TB s T Y n i L c z:=by
 obtain⟨E,G,r,u⟩:=h;obtain⟨A,l⟩:=J.done I (λe f=>(o e f).1) P;have g:∀j:Nat,i<=j->z.getD j zr=z0.getD j zr:=λj d=>(l j).1 ⟨C7 λe f M=>by have:=(o e f).2;omega,λe f M=>by have:=(o e f).2;omega⟩
 have y:∀(a j:Nat),i<=a->B8 n (λm=>if a<=m then L m j*rv (z.getD m zr)else 0)=B8 n (λm=>if a<=m then L m j*rv (z0.getD m zr)else 0):=λa j ha=>A8 λm _=>by
  by_cases b:a<=m
  . rw[qK b,qK b,g m ω]
  rw[qG b,qG b]
 refine⟨by rw[A];exact E,λj d=>(l j).2.2 (G j d),λj N k=>?_,λj d=>?_⟩
 . rw[g j N];rcases(ω:j=i\/i<j)with rfl|d
   . refine⟨O,?_⟩;have B:=(u j ω).2.2;have D:B8 n (λm=>L m j*rv (z.getD m zr))=B8 n (λm=>if j<=m then L m j*rv (z.getD m zr)else 0):=A8 λm _=>by
      by_cases b:j<=m
      . rw[qK b]
      rw[qG b,v m j ω k,rV]
     rw[D,A9r n j x,y (j+1) j ω,F,g j (qT _),B];grind
   refine⟨(r j d k).1,?_⟩;rw[<-(r j d k).2];refine A8 λm _=>?_
   by_cases b:i<=m
   . rw[g m b]
   rw[v m j ω k,rV,rV]
 have:=(l j).2.1 _ (u j ω);rw[H j d]at this;rw[A9r n i x,y (i+1) j ω,g i (qT _)];have e:c j-B8 n (λm=>if i+1<=m then L m j*rv (z0.getD m zr)else 0)-L i j*rv (z0.getD i zr)=c j-(L i j*rv (z0.getD i zr)+B8 n (λm=>if i+1<=m then L m j*rv (z0.getD m zr)else 0)):=by grind
 rw[e]at this;refine DZ this ?_;have:n-i=n-(i+1)+1:=ω
 rw[this,tZ];omega
def A9k {s:Nat} {f:Nat->Rat} :∀ {n:Nat},(∀i,i<n->qs s (f i))->qs (n*(s+1)+1) (B8 n f)
 |0,_=>M0 ω
 |n+1,h=>by
  have:=BG (A9k (n:=n) λi hi=>h i ω) (h n ω);exact G4 this (by rw[tZ];omega)
def C4k {n s:Nat} {L U:Nat->Nat->Rat} {i j:Nat} (b:∀k,k<n->qs s (L i k)) (c:∀k,k<n->qs s (U k j)):qs (n*(s+s+1)+1) (B8 n λk=>L i k*U k j):=A9k λk a=>Kv (b k a) (c k a)
def C5a {n s:Nat} {A:Nat->Nat->Rat} {c:Nat->Rat} (b:∀i j,i<n->j<n->qs s (A i j)) (d:∀i,i<n->qs s (c i)):∀i j,i<n->j<n+1->qs s (eH n A c i j):=λi j a f=>by
 unfold eH;split
 . rename_i h;exact b i j a h
 exact d i a
def C1t {f:LUV} {n:Nat} (h:O3 f (n:Int)):det n (GB f n)≠0:=by
 obtain⟨_,_,_,_,b⟩:=h;have e:det n (GB f n)=det n (Qx n (el f.2.2.1) (el f.2.2.2)):=rfl;rw[e,Vh,lD λi j a c=>(b i j ω ω).1 a,WA λi j a c=>(b i j ω ω).2.2.1 a];intro a;rcases xE.1 a with a|a
 . exact BU (λi _ c=>by rw[(b i i ω ω).2.1];decide) a
 exact BU (λi _ c=>(b i i ω ω).2.2.2) a
def A8v {L:Nat->Nat->Rat} {b:Nat->Rat} {k:Nat} {z:Nat->Rat} (f:∀i,i<=k->B8 i (λj=>L i j*z j)+z i=b i):∀d:Nat,∃a:Nat->Rat,(∀j,j<=k->a j=z j)/\∀i,i<=k+d->B8 i (λj=>L i j*a j)+a i=b i
 |0=>⟨z,λ_ _=>rfl,λi c=>f i c⟩
 |d+1=>by
  obtain⟨a,h,l⟩:=A8v f d;refine⟨λj=>if j=k+d+1 then b (k+d+1)-B8 (k+d+1) (λj=>L (k+d+1) j*a j)else a j,λj c=>(qG ω).trans (h j c),λi n=>?_⟩;rw[A8 (g:=λj=>L i j*a j) λj c=>sA (L i j* ·) (qG ω)];by_cases e:i=k+d+1
  . subst e;show _ +(if k+d+1=k+d+1 then _ else _)= _;rw[qK rfl];grind
  show _ +(if i=k+d+1 then _ else _)= _;rw[qG e];exact l i ω
def C3c {f:LUV} {b:List C6} {s s1:Nat} (h:O3 f (f.1.length:Int)) (w:f.1.length<=4294967296) (u:∀j,j<f.1.length->qs s (rv (b.getD (ix f.1 j) zr))) (x:s<=s1) (t:∀i j,i<f.1.length->j<f.1.length->qs s1 (GB f f.1.length i j)):
 B2p (tR s1 f.1.length (f.1.length+1)+tR s1 f.1.length (f.1.length+1)) f b:=by
 have d:=h.2.2.2.2;have n:=mG (R:=f.1.length) (C:=f.1.length+1) (s:=s1) (A:=eH f.1.length (GB f f.1.length) λj=>rv (b.getD (ix f.1 j) zr)) w (C5a t λj o=>G4 (u j o) x);refine⟨λr z v B=>?_,λD y i c=>C7l n (C1t h) y c⟩;obtain⟨a,g,k⟩:∃a:Nat->Rat,(∀j,j<=r->a j=z j)/\∀i,i<f.1.length->B8 i (λj=>el f.2.2.1 i j*a j)+a i=rv (b.getD (ix f.1 i) zr):=by
  obtain⟨a,g,k⟩:=A8v B f.1.length;exact⟨a,g,λi c=>k i ω⟩
 rw[<-g r (qT _)];exact C6o n (λi j _ _=>rfl) (λi j l o=>(d i j ω ω).1 l) (λi c=>(d i i ω ω).2.1) (λi j l c=>(d i j ω ω).2.2.1 l) (λi c=>(d i i ω ω).2.2.2) k v
def dnT (n:Nat) (P Q:Wf) (M:Nat->Nat->Rat) (i j:Nat) (out:List (List C6)):Prop:=out.length=n/\(∀a,a<n->(out.getD a []).length=n/\nK K1 (out.getD a []))/\∀a b,a<n->b<n->(a<i\/a=i/\b<j)->(out.getD (ix P a) []).getD (ix Q b) zr=rc (M a b)
def dnF (n:Nat) (p:Int×List (List C6)×Unit):Prop:=0<=p.1/\p.1<=(n:Int)/\p.2.1.length=n/\∀a:Nat,(a:Int)<p.1->p.2.1.getD a []=List.replicate n zr
def dnI (n:Nat) (P Q:Wf) (M:Nat->Nat->Rat) (p:Int×List (List C6)×Unit):Prop:=0<=p.1/\p.1<=(n:Int)/\dnT n P Q M p.1.toNat 0 p.2.1
def dnJ (n i:Nat) (P Q:Wf) (M:Nat->Nat->Rat) (p:Int×List (List C6)×Unit):Prop:=0<=p.1/\p.1<=(n:Int)/\dnT n P Q M i p.1.toNat p.2.1
def dnT.step {n i j:Nat} {P Q:Wf} {M:Nat->Nat->Rat} {out:List (List C6)} (h:dnT n P Q M i j out) (s:i<n) (t:j<n) (u:∀a,a<n->ix P a<n) (z:∀a b,a<n->b<n->ix P a=ix P b->a=b) (v:∀a,a<n->ix Q a<n) (A:∀a b,a<n->b<n->ix Q a=ix Q b->a=b) (y:sz K1 (rc (M i j))):dnT n P Q M i (j+1) (out.set (ix P i) ((out.getD (ix P i) []).set (ix Q j) (rc (M i j)))):=by
 obtain⟨w,d,r⟩:=h;have k:=u i s;have x:=v j t;refine⟨by rw[qP];exact w,λa c=>?_,λa b c f D=>?_⟩
 . by_cases e:a=ix P i
   . subst e;rw[B9 ω];refine⟨by rw[qP];exact(d _ k).1,λB l=>?_⟩;rcases g1s l with l|rfl
     . exact(d _ k).2 B l
     exact y
   rw[D8 e];exact d a c
 by_cases e:a=i
 . subst e;rw[B9 ω];by_cases o:b=j
   . subst o;rw[B9 (by rw[(d _ k).1];exact x)]
   rw[D8 λg=>o (A b j f t g)];exact r a b c f ω
 rw[D8 λg=>e (z a i c s g)];exact r a b c f ω
def OQ:sq Fl DG:=λx a6 ax=>by
 obtain⟨⟨(P:Wf),(Q:Wf),⟨a8,lc,L⟩,⟨ab,O,U⟩⟩,_⟩:=x;change List (List C8)at L U;change Int at a8 lc ab O;have au:Hc (a8,lc,L):=R4 a6.1.2.2.1.2.2.2;have av:Hc (ab,O,U):=R4 a6.1.2.2.2.2.2.2;obtain⟨aw,I,Z,a0⟩:=ax;have I:P.length<=200:=I;simp only[DG,iB,rT7,rT8];obtain⟨a1,a2,⟨a7,z,a4⟩,⟨aa,B,a5⟩,b9⟩:=id aw;simp only at a1 a2 a7 z aa B;obtain⟨_,T,b1⟩:=Q3 a1;obtain⟨b4,V,b2⟩:=Q3 a2;subst a7 aa;have z:lc=(P.length:Int):=z;have B:O=(P.length:Int):=B;subst z B;have t:(K0+K0+1)*(P.length+1)<=K1:=qY (sB _ (ω:P.length+1<=201)) δ;refine⟨⟨K0,P.length,δ,Z,a0,qH _,t⟩,?_⟩;rintro⟨(M:J6),e,_⟩ _ ay;obtain⟨X,_⟩:=(ay.2 ⟨a4,a5⟩).2 rfl;simp only[qN]at X|-;have u:Lq P.length P.length (GB (P,Q,((P.length:Int),(P.length:Int),L),((P.length:Int),(P.length:Int),U)) P.length) M:=X;have a3:∀i j,i<P.length->j<P.length->qs K1 (GB (P,Q,((P.length:Int),(P.length:Int),L),((P.length:Int),(P.length:Int),U)) P.length i j):=λi j b g=>by
  have:=C4k (n:=P.length) (s:=K0) (i:=i) (j:=j) (λk _=>Pf a4 au Z δ i k) (λk _=>Pf a5 av a0 δ k j);refine G4 this ?_;have G:P.length*(K0+K0+1)<=200*(K0+K0+1):=rG _ I;exact qY (xV G 1) δ
 generalize b8:GB (P,Q,((P.length:Int),(P.length:Int),L),((P.length:Int),(P.length:Int),U)) P.length=F at*;have ao:A3 M:=Gd u ω ω;refine⟨⟨Qt u δ a3,ao⟩,?_⟩;rintro⟨E,_⟩ _ H;have H:E=Ot M:=H;subst H;obtain⟨R,C,D⟩:=M;obtain⟨J,N,_⟩:=id u;have J:R=(P.length:Int):=J;have N:C=(P.length:Int):=N;subst J N;simp only;have ap:∀i j:Nat,i<P.length->j<P.length->gx dQ (gx [] (Ot ((P.length:Int),(P.length:Int),D)) (i:Int)) (j:Int)=rc (F i j):=λi j b g=>by
  rw[Fq (m:=((P.length:Int),(P.length:Int),D)) (qF _) (sG.2 b) (qF _) (sG.2 g),qN,qN,Ha u b g]
 refine⟨⟨qF _,qH _,ω,ω⟩,dnF P.length,λp=>((P.length:Int)-p.1).toNat,⟨qH _,qF _,rL,λa c=>absurd c (by simp only;omega)⟩,?_⟩;rintro⟨(i:Int),out,_⟩ _ ⟨h,w,o,A⟩;change List (List C6)at out;simp only at h w o A|-;have Y:List.length (α:=Int) Q=P.length:=b4;have o:out.length=P.length:=o;rw[Y,o];refine⟨λb=>?_,λb=>?_⟩
 . have b:=qA b;rw[wv ω];refine⟨⟨qF _,qH _,ω,ω⟩,⟨h,b⟩,⟨by simp only;omega,by simp only;omega,by simp only;rw[qP];exact o,λa c=>?_⟩,ω⟩;simp only at c|-;by_cases e:a=i.toNat
   . subst e;rw[B9 ω];rfl
   rw[D8 e];exact A a ω
 have b:=qB b;refine⟨dnI P.length P Q F,λp=>((P.length:Int)-p.1).toNat,⟨qH _,qF _,o,λa c=>?_,λa f _ _ aj=>?_⟩,?_⟩
 . rw[A a ω];refine⟨rL,λx b0=>?_⟩;rw[List.eq_of_mem_replicate b0];exact⟨rQ _,rQ _⟩
 . simp only[Int.toNat_zero]at aj;omega
 clear o A b h w;rintro⟨(i:Int),out,_⟩ _ ⟨h,w,v⟩;change List (List C6)at out;simp only at h w v|-;refine⟨λb=>?_,λb=>?_⟩
 . have b:=qA b;obtain⟨a,rfl⟩:∃a:Nat,i=(a:Int):=⟨i.toNat,ω⟩;rw[qN]at v;have c:a<P.length:=ω
   obtain⟨ag,W⟩:=T a c;rw[O8 (d:=(0:Int)) h b,qN,ag];refine⟨dnJ P.length a P Q F,λp=>((P.length:Int)-p.1).toNat,⟨qH _,qF _,v⟩,?_⟩;rintro⟨(j:Int),a9,_⟩ _ ⟨y,b3,l⟩;change List (List C6)at a9;simp only at y b3 l|-;refine⟨λg=>?_,λg=>?_⟩
   . have g:=qA g;obtain⟨f,rfl⟩:∃f:Nat,j=(f:Int):=⟨j.toNat,ω⟩;rw[qN]at l;have r:f<P.length:=ω
     obtain⟨ah,ai⟩:=V f r;have ar:a9.length=P.length:=l.1;rw[ap a f c r,O8 (d:=(0:Int)) y (show(f:Int)<(Q.length:Int)by rw[Y];exact g),qN,ah,qN,qN,wv ω];have az:=(l.2.1 _ W).1;have an:((Ot ((P.length:Int),(P.length:Int),D)).length:Int)=(P.length:Int):=by rw[Vj];rfl
     refine⟨⟨h,b⟩,⟨qF _,by rw[ar];exact sG.2 W⟩,⟨y,g⟩,⟨h,by rw[an];exact b⟩,⟨y,by rw[EL (m:=((P.length:Int),(P.length:Int),D)) h b,qN];exact g⟩,⟨qF _,by rw[az];exact sG.2 ai⟩,⟨by simp only;omega,by simp only;omega,?_⟩,ω⟩;simp only;rw[(ω:((f:Int)+1).toNat=f+1)];exact l.step c r (λa c=>(T a c).2) b1 (λa c=>(V a c).2) b2 (Tx (a3 a f c r))
   have g:=qB g;rw[wv ω];refine⟨⟨by simp only;omega,by simp only;omega,l.1,l.2.1,λac ad G ak am=>l.2.2 ac ad G ak (by simp only at am;omega)⟩,ω⟩
 have b:=qB b;obtain⟨b5,b6,b7⟩:=v;refine⟨⟨λba aq=>?_,qF _,ω,ω⟩,?_⟩
 . obtain⟨a,c,rfl⟩:=T8 [] aq;obtain⟨ae,af⟩:=b6 a ω;exact⟨af,sA Int.ofNat ae⟩
 rintro⟨m,_⟩ _ t;simp only[qN]at t|-;rw[b5]at t;refine⟨_,t,λa f c r=>?_⟩;rw[b7 a f c r ω,H2]
def kM:An:= {plan:= [(1,[0,4,6,10,12,16,17],[],false, .done)]}
def UK:An:= {}
def IE:An:= {plan:= [(5,[0,3],[],true, .done)]}
abbrev D1d:=MM×(Wf×Wf×MM×Int×Int×List (List EE))×Unit
def OP(x:D1d):Prop:=let c:=(decide (x.1.1=x.1.2.1));let b:=x.2.1.1.length;J1 K1 x.1/\Gh λr=>let a:=(F5 r.1 c false);r.1=decide (A3 x.1)->(F5 r.1 c false=true->0<=x.1.1/\x.1.1<=16384/\List.length x.2.1.1<=100000/\List.length x.2.1.2.1<=100000/\J1 K1 x.2.1.2.2.1/\J1 K1 x.2.1.2.2.2)/\∀(e:K2),(F5 r.1 c false=true->(True/\True)/\(e.1=true↔O3 x.2.1 x.1.1))->(F5 a e.1 false=true->O3 x.2.1 (↑b:Int)/\List.length x.2.1.1<=200/\J1 K0 x.2.1.2.2.1/\J1 K0 x.2.1.2.2.2)/\∀(d:T4),(F5 a e.1 false=true->(WfM d.1/\True)/\∃(f:Nat->Nat->Rat),Lq b b f d.1/\∀(i j:Nat),i<List.length x.2.1.1->j<List.length x.2.1.1->f (ix x.2.1.1 i) (ix x.2.1.2.1 j)=GB x.2.1 b i j)->(F5 a e.1 false=true->J1 K1 x.1/\J1 K1 d.1)/\∀(g:K2),(F5 a e.1 false=true->(True/\True)/\(g.1=true↔A3 x.1/\A3 d.1/\x.1.1=d.1.1/\x.1.2.1=d.1.2.1/\∀(i j:Nat),(↑i:Int)<x.1.1->(↑j:Int)<x.1.2.1->el x.1 i j=el d.1 i j))->(F5 (F5 a e.1 false) g.1 false=true↔A3 x.1/\x.1.1=x.1.2.1/\O3 x.2.1 x.1.1/\∀(i j:Nat),i<x.1.1.toNat->j<x.1.1.toNat->GB x.2.1 x.1.1.toNat i j=el x.1 (ix x.2.1.1 i) (ix x.2.1.2.1 j))
def Xj(x:D1d):Prop:=let e:=(16384:Nat);let d:=(0:Int);let c:Prop:=(x.1.1≠x.1.2.1);let b:(Nat)->(Nat)->Prop:=(λi j=>i<x.1.1.toNat->j<x.1.1.toNat->GB x.2.1 x.1.1.toNat i j=el x.1 (ix x.2.1.1 i) (ix x.2.1.2.1 j));let a:Prop:=((∃(i:Int),i∈x.2.1.1/\(i<d\/x.1.1<=i))\/∃(i:Int),i∈x.2.1.2.1/\(i<d\/x.1.2.1<=i));True/\Gh λr=>let f:=(F5 (!r.1) true (decide c));r.1=decide (A3 x.1)->(F5 (!r.1) true (decide c)=false->d<=x.1.1/\x.1.1<=16384/\J1 K1 x.2.1.2.2.1/\J1 K1 x.2.1.2.2.2)/\∀(h:K2),(F5 (!r.1) true (decide c)=false->(True/\True)/\(h.1=true↔O3 x.2.1 x.1.1))->(iB ((F5 f true !h.1)) ((false=true↔A3 x.1/\x.1.1=x.1.2.1/\O3 x.2.1 x.1.1/\∀(i j:Nat),b i j)) ((J1 K0 x.2.1.2.2.1/\J1 K0 x.2.1.2.2.2/\x.2.1.2.2.1.2.1<=1000)/\∀(r:nQ),WfM r.1/\R8 r.2.1/\True->(¬(A3 x.2.1.2.2.1/\A3 x.2.1.2.2.2)->r.1=zm/\r.2.1=1)/\(A3 x.2.1.2.2.1/\A3 x.2.1.2.2.2->(x.2.1.2.2.1.2.1≠x.2.1.2.2.2.1->r.1=zm/\r.2.1=4)/\(x.2.1.2.2.1.2.1=x.2.1.2.2.2.1->Lq x.2.1.2.2.1.1.toNat x.2.1.2.2.2.2.1.toNat (fun(i j:Nat)=>B8 x.2.1.2.2.1.2.1.toNat fun(k:Nat)=>el x.2.1.2.2.1 i k*el x.2.1.2.2.2 k j) r.1/\r.2.1=d))->(J1 K1 x.1/\List.length x.2.1.1<=1000/\List.length x.2.1.2.1<=1000/\List.Nodup x.2.1.2.1)/\∀(g:nQ),WfM g.1/\R8 g.2.1/\True->(¬A3 x.1->g.1=zm/\g.2.1=1)/\(A3 x.1->(a->g.1=zm/\g.2.1=3)/\(¬a->(e<List.length x.2.1.1\/e<List.length x.2.1.2.1->g.1=zm/\g.2.1=8)/\(List.length x.2.1.1<=e/\List.length x.2.1.2.1<=e->Lq x.2.1.1.length x.2.1.2.1.length (fun(i j:Nat)=>el x.1 (List.getD x.2.1.1 i d).toNat (List.getD x.2.1.2.1 j d).toNat) g.1/\g.2.1=d)))->(J1 K1 r.1/\J1 K1 g.1)/\Gh λl=>(l.1=true↔A3 r.1/\A3 g.1/\r.1.1=g.1.1/\r.1.2.1=g.1.2.1/\∀(i j:Nat),(↑i:Int)<r.1.1->(↑j:Int)<r.1.2.1->el r.1 i j=el g.1 i j)->(l.1=true↔A3 x.1/\x.1.1=x.1.2.1/\O3 x.2.1 x.1.1/\∀(i j:Nat),b i j)))
def Oj(x:T4):Prop:=let e:Prop:=(x.1.1≠x.1.2.1);let d:=(0:Int);let c:=(6:Int);let b:=(4:Int);let a:=(1:Int);J1 K1 x.1/\Gh λr=>r.1=decide (A3 x.1)->(iB ((!r.1)) ((¬A3 x.1->a=a)/\(A3 x.1->(x.1.1≠x.1.2.1->a=b)/\(x.1.1=x.1.2.1->(¬nonsing x.1.1.toNat (el x.1)->a=c)/\(nonsing x.1.1.toNat (el x.1)->a=d)))) ((iB (decide e) ((¬A3 x.1->b=a)/\(A3 x.1->(x.1.1≠x.1.2.1->b=b)/\(x.1.1=x.1.2.1->(¬nonsing x.1.1.toNat (el x.1)->b=c)/\(nonsing x.1.1.toNat (el x.1)->b=d)))) ((J1 K1 x.1/\A3 x.1/\∃(T:Nat),(1:Nat)<=T/\(8:Nat)*T+(8:Nat)<=K1/\Jr x.1.1.toNat x.1.2.1.toNat (el x.1) T)/\Ci λr=>(∃(l:Wf),QT x.1 l/\r.1=(↑l.length:Int))->(iB (decide (r.1<x.1.1)) ((¬A3 x.1->c=a)/\(A3 x.1->(x.1.1≠x.1.2.1->c=b)/\(x.1.1=x.1.2.1->(¬nonsing x.1.1.toNat (el x.1)->c=c)/\(nonsing x.1.1.toNat (el x.1)->c=d)))) ((¬A3 x.1->d=a)/\(A3 x.1->(x.1.1≠x.1.2.1->d=b)/\(x.1.1=x.1.2.1->(¬nonsing x.1.1.toNat (el x.1)->d=c)/\(nonsing x.1.1.toNat (el x.1)->d=d)))))))))
def selA {a b:Bool} :F5 a b false=true↔a=true/\b=true:=by cases a<;>cases b<;>decide
def C7f {a b:Bool} :F5 a true b=false↔a=false/\b=false:=by cases a<;>cases b<;>decide
def A8o {x:Nat->Rat} :∀ {n j:Nat},j<n->x j≠0->∃b,b<n/\x b≠0/\∀k,b<k->k<n->x k=0
 |0,_,h,_=>absurd h (tX _)
 |n+1,j,h,g=>by
  by_cases c:x n=0
  . have o:j<n:=by
     rcases g4q (g5c h)with h|h
     . exact h
     subst h;exact absurd c g
    obtain⟨b,r,i,l⟩:=A8o o g;refine⟨b,ω,i,λk d f=>?_⟩;rcases g4q (g5c f)with a|a
    . exact l k d a
    rw[a];exact c
  exact⟨n,ω,c,λk d f=>ω⟩
def C2l {n:Nat} {m:J6} {l:Wf} (h:QT m l) (F:m.1=(n:Int)) (s:m.2.1=(n:Int)):l.length<n↔¬nonsing n (el m):=by
 obtain⟨r,d⟩:=h;rw[F,s]at d;simp only[qN]at d;constructor
 . intro B u;have e:l=(List.range n).map Int.ofNat:=by
    refine XT r ?_ λb=>?_
    . rw[wK];exact List.pairwise_lt_range.imp λh=>sG.2 h
    rw[d,sV];constructor
    . rintro⟨k,o,_⟩;exact⟨b.toNat,xM.2 ω,tF k⟩
    rintro⟨t,j,rfl⟩;have j:=xM.1 j;exact⟨qF _,sG.2 j,fun⟨x,x1,x2,_⟩=>x2 (u x x1 t j)⟩
   rw[e,sO,g0f]at B;omega
 intro u;refine qM λH=>u λx G I A=>qM λE=>?_
 obtain⟨b,o,v,w⟩:=A8o A E;have z:LQ n n (el m) b:=by
  refine⟨λk=>if k<n then x k else 0,λi hi=>(A8 λk j=>?_).trans (G i hi),?_,λk j=>?_⟩
  . show el m i k*(if k<n then x k else 0)=el m i k*x k;rw[qK j]
  . show(if b<n then x b else 0)≠0;rw[qK o];exact v
  show(if k<n then x k else 0)=0;by_cases t:k<n
  . rw[qK t];exact w k j t
  rw[qG t]
 have D:(b:Int)∉l:=λhm=>((d _).1 hm).2.2 z
 have g:∀a,a<n->l.getD a 0∈l:=λa f=>D4 ω
 obtain⟨a,f,e⟩:=M9 (n:=n) (q:=λa=>(l.getD a 0).toNat) (λa f=>by
  have:=(d _).1 (g a f);show(l.getD a 0).toNat<n;omega) (λa c f s j=>by
  have y:=((d _).1 (g a f)).1;have k:=((d _).1 (g c s)).1;have j:(l.getD a 0).toNat=(l.getD c 0).toNat:=j;have j:l.getD a 0=l.getD c 0:=ω
  rw[H1 _ _ (ω:a<l.length),H1 _ _ (ω:c<l.length)]at j;rcases g1v a c with hac|hac|hac
  . have:=tC.1 r a c ω ω hac;omega
  . exact hac
  have:=tC.1 r c a ω ω hac;omega) o
 have e:(l.getD a 0).toNat=b:=e;have y:=((d _).1 (g a f)).1;exact D (by rw[(ω:(b:Int)=l.getD a 0)];exact g a f)
def Zm:sq Y5 Oj:=λx _ o=>by
 obtain⟨(m:J6),_⟩:=x;obtain⟨i,k⟩:=o;simp only[Oj,iB,Ci,Gh];refine⟨i,?_⟩;rintro⟨(v:Bool),_⟩ _ a;simp only at a|-;subst a;by_cases a:A3 m
 case neg=>
  rw[qX a];exact⟨λ_=>⟨λ_=>by trivial,λh=>absurd h a⟩,λh=>(by cases h)⟩
 rw[rB a];refine⟨λh=>(by cases h),λ_=>⟨λhne=>⟨λh=>absurd a h,λ_=>⟨λ_=>by trivial,λh=>absurd h (qA hne)⟩⟩,λb=>?_⟩⟩;have b:m.1=m.2.1:=qM (qB b);refine⟨⟨i,a,k a⟩,?_⟩;rintro⟨(r:Int),_⟩ _ ⟨t,l,g⟩;simp only at g|-;subst g;have s:=a.1;have j:=C2l (n:=m.1.toNat) l ω ω;refine⟨λf=>?_,λd=>?_⟩
 . have f:=qA f;have c:=j.1 ω;exact⟨λh=>absurd a h,λ_=>⟨λh=>absurd b h,λ_=>⟨λ_=>by trivial,λh=>absurd h c⟩⟩⟩
 have d:=qB d;have c:¬¬nonsing m.1.toNat (el m):=λh=>by have:=j.2 h;omega
 exact⟨λh=>absurd a h,λ_=>⟨λh=>absurd b h,λ_=>⟨λh=>absurd h c,λ_=>by trivial⟩⟩⟩
def B7b {n:Nat} {a:LUV} (c:n<=200) (b:O3 a n) (g:Hc a.2.2.1) (h:Hc a.2.2.2) (d:J1 K0 a.2.2.1) (f:J1 K0 a.2.2.2) (i j:Nat):qs K1 (GB a n i j):=by
 refine G4 (C4k (s:=K0) (λk _=>Pf b.2.2.1.2.2 g d δ i k) λk _=>Pf b.2.2.2.1.2.2 h f δ k j) ?_;have:n*(K0+K0+1)<=200*(K0+K0+1):=rG _ c;exact qY (xV this 1) δ
def VY:sq Kf OP:=λx a0 a5=>by
 obtain⟨(m:J6),⟨(P:Wf),(Q:Wf),⟨r,lc,L⟩,⟨t,s,U⟩⟩,_⟩:=x;change List (List C8)at L U;change Int at r lc t s;have a3:Hc (r,lc,L):=R4 a0.2.1.2.2.1.2.2.2;have a4:Hc (t,s,U):=R4 a0.2.1.2.2.2.2.2.2;obtain⟨H,B,E,I,a1⟩:=a5;have H:J1 K1 m:=H;have B:J1 K0 (r,lc,L):=B;have E:J1 K0 (t,s,U):=E;have I:P.length<=200:=I;have a1:Q.length<=200:=a1;simp only[OP,Gh];refine⟨H,?_⟩;rintro⟨(b:Bool),_⟩ _ c;simp only at c|-;subst c;refine⟨λh=>?_,?_⟩
 . have v:=qA (selA.1 h).1;exact⟨v.1,v.2.1,by show P.length<=100000;omega,by show Q.length<=100000;omega,λv O e M=>G5 (B v O e M) δ,λv O e M=>G5 (E v O e M) δ⟩
 rintro⟨(w:Bool),_⟩ G;simp only at G|-;have Z:O3 (P,Q,(r,lc,L),(t,s,U)) m.1->m.1=(P.length:Int):=λh=>h.1.1.symm
 refine⟨λh=>?_,?_⟩
 . obtain⟨d,J⟩:=selA.1 h;have a:=(G d).2.1 J;rw[Z a]at a;exact⟨a,I,B,E⟩
 rintro⟨(D:J6),_⟩ X;simp only at X|-;have get:F5 (F5 (decide (A3 m)) (decide (m.1=m.2.1)) false) w false=true->A3 m/\m.1=m.2.1/\m.1=(P.length:Int)/\O3 (P,Q,(r,lc,L),(t,s,U)) (P.length:Int)/\∃y:Nat->Nat->Rat,Lq P.length P.length y D/\∀i j:Nat,i<P.length->j<P.length->y (ix P i) (ix Q j)=GB (P,Q,(r,lc,L),(t,s,U)) P.length i j:=λh=>by
  obtain⟨d,J⟩:=selA.1 h;have a:=(G d).2.1 J;have e:=Z a;rw[e]at a;exact⟨qA (selA.1 d).1,qA (selA.1 d).2,e,a,(X h).2⟩
 refine⟨λh=>⟨H,?_⟩,?_⟩
 . obtain⟨_,_,_,a,y,k,A⟩:=get h;obtain⟨_,n,T⟩:=Q3 a.1;obtain⟨_,o,V⟩:=Q3 a.2.1;refine Qt k δ λi j f g=>?_
   obtain⟨b,c,rfl⟩:=M9 (λb c=>(n b c).2) T f;obtain⟨u,F,rfl⟩:=M9 (λb c=>(o b c).2) V g;rw[A b u c F];exact B7b I a a3 a4 B E b u
 rintro⟨(z:Bool),_⟩ R;simp only at R|-;constructor
 . intro h;obtain⟨d,a2⟩:=selA.1 h;obtain⟨v,e,l,a,y,k,A⟩:=get d;obtain⟨_,n,_⟩:=Q3 a.1;obtain⟨_,o,_⟩:=Q3 a.2.1;have Y:=((R d).2.1 a2).2.2.2.2;rw[l];rw[<-e,l]at Y;simp only[qN];refine⟨v,by rw[<-e,l],a,λi j f g=>?_⟩;rw[<-A i j f g,Y _ _ (sG.2 (n i f).2) (sG.2 (o j g).2),Ha k (n i f).2 (o j g).2]
 rintro⟨v,e,a,N⟩;have W:F5 (decide (A3 m)) (decide (m.1=m.2.1)) false=true:=selA.2 ⟨rB v,rB e⟩;have d:F5 (F5 (decide (A3 m)) (decide (m.1=m.2.1)) false) w false=true:=selA.2 ⟨W,(G W).2.2 a⟩;obtain⟨_,_,l,a,y,k,A⟩:=get d;obtain⟨_,n,T⟩:=Q3 a.1;obtain⟨_,o,V⟩:=Q3 a.2.1;rw[l]at N;simp only[qN]at N;refine selA.2 ⟨d,(R d).2.2 ⟨v,Gd k ω ω,by rw[l];exact k.1.symm,by rw[<-e,l];exact k.2.1.symm,λi j f g=>?_⟩⟩;have f:i<P.length:=ω
 have g:j<P.length:=ω
 rw[Ha k f g];obtain⟨b,c,rfl⟩:=M9 (λb c=>(n b c).2) T f;obtain⟨u,F,rfl⟩:=M9 (λb c=>(o b c).2) V g;rw[A b u c F];exact(N b u c F).symm
def PE:An:= {}
def Uz:An:= {}
def Ue(x:T4):Prop:=let e:=(8:Nat);let c:=x.1.1.toNat;(J1 K1 x.1/\(A3 x.1->x.1.1=x.1.2.1->∃(T:Nat),(1:Nat)<=T/\e*T+e<=K1/\Jr c c (el x.1) T))/\∀(r:B9i),let d:Prop:=(r.2.1≠0);let b:Prop:=(J1 K1 x.1/\J1 K0 r.1.2.2.1/\J1 K0 r.1.2.2.2/\List.length r.1.1<=200/\List.length r.1.2.1<=200);let a:(Nat)->(Nat)->Prop:=(λi j=>i<Int.toNat x.1.1->j<Int.toNat x.1.1->GB r.1 c i j=el x.1 (ix r.1.1 i) (ix r.1.2.1 j));(WX r.1.1/\WX r.1.2.1/\WfM r.1.2.2.1/\R8 r.1.2.2.2.1/\R8 r.1.2.2.2.2.1/\Ye r.1.2.2.2.2.2)/\R8 r.2.1/\True->(¬A3 x.1->r.1=WS/\r.2.1=1)/\(A3 x.1->(x.1.1≠x.1.2.1->r.1=WS/\r.2.1=4)/\(x.1.1=x.1.2.1->(¬nonsing c (el x.1)->r.1=WS/\r.2.1=6)/\(nonsing c (el x.1)->O3 r.1 x.1.1/\r.2.1=0/\(∀(v:List EE),v∈r.1.2.2.1.2.2->R3 v)/\(∀(v:List EE),v∈r.1.2.2.2.2.2->R3 v)/\(∀(T:Nat),(1:Nat)<=T->Jr c c (el x.1) T->∀(i j:Nat),i<Int.toNat x.1.1->qs (T+T) (el r.1.2.2.1 i j)/\qs (T+T) (el r.1.2.2.2 i j))/\∀(i j:Nat),a i j)))->(J1 K1 x.1/\(A3 x.1->∃(T:Nat),(1:Nat)<=T/\e*T+e<=K1/\Jr c x.1.2.1.toNat (el x.1) T))/\Ci λf=>(¬A3 x.1->f.1=1)/\(A3 x.1->(x.1.1≠x.1.2.1->f.1=4)/\(x.1.1=x.1.2.1->(¬nonsing c (el x.1)->f.1=6)/\(nonsing c (el x.1)->f.1=0)))->(iB (decide (r.2.1≠f.1)) (false=true) ((decide d=false->b)/\∀(g:K2),(decide d=false->(True/\True)/\(g.1=true↔A3 x.1/\x.1.1=x.1.2.1/\O3 r.1 x.1.1/\∀(i j:Nat),a i j))->(g.1=true/\decide d=false->b)/\∀(h:K2),(g.1=true/\decide d=false->(True/\True)/\(h.1=true↔A3 x.1/\x.1.1=x.1.2.1/\O3 r.1 x.1.1/\∀(i j:Nat),a i j))->F5 (decide d) true (F5 g.1 h.1 false)=true))
def Hx(x:MM×Wf×Unit):Prop:=let b:Prop:=(True/\True);True/\Gh λr=>r.1=true->(r.1=true->True)/\∀(d:K2),(r.1=true->b/\d.1=decide (List.length x.1.2.2<=12/\x.1.2.1<=12/\∀(v:List EE),v∈x.1.2.2->v.length<=(30:Nat)))->((!d.1)=false/\r.1=true->J1 K1 x.1/\List.length x.1.2.2<=12/\(A3 x.1->∃(T:Nat),(1:Nat)<=T/\T+T<=K0/\Jr x.1.1.toNat x.1.2.1.toNat (el x.1) T))/\∀(e:K2),let a:=(F5 (!d.1) true e.1);((!d.1)=false/\r.1=true->b/\e.1=true)->(F5 r.1 a false=true->(1:Int)<=(6:Int)/\(6:Int)<=(20:Int))/\∀(c:T4),(F5 r.1 a false=true->(WfM c.1/\True)/\sqG (6:Int) c.1)->(F5 r.1 a false=true->J1 K1 c.1/\List.length c.1.2.2<=12/\(A3 c.1->∃(T:Nat),(1:Nat)<=T/\T+T<=K0/\Jr c.1.1.toNat c.1.2.1.toNat (el c.1) T))/\∀(f:K2),(F5 r.1 a false=true->b/\f.1=true)->F5 (F5 r.1 a false) f.1 false=true
def JW:sq Dh Xj:=λx E a5=>by
 obtain⟨(m:J6),⟨(P:Wf),(Q:Wf),⟨r,lc,L⟩,⟨u,t,U⟩⟩,_⟩:=x;change List (List C8)at L U;change Int at r lc u t;have a4:Hc m:=R4 E.1.2.2.2;have a2:Hc (r,lc,L):=R4 E.2.1.2.2.1.2.2.2;have a3:Hc (u,t,U):=R4 E.2.1.2.2.2.2.2.2;obtain⟨s,n,o,I,T⟩:=a5;have s:J1 K1 m:=s;have n:J1 K0 (r,lc,L):=n;have o:J1 K0 (u,t,U):=o;have I:P.length<=200:=I;have T:Q.length<=200:=T;simp only[Xj,iB,Gh];refine⟨trivial,?_⟩;rintro⟨(V:Bool),_⟩ _ N;simp only at N|-;subst N;have R:F5 (!decide (A3 m)) true (decide (m.1≠m.2.1))=false->A3 m/\m.1=m.2.1:=λh=>by
  obtain⟨k,Z⟩:=C7f.1 h;exact⟨by simpa using k,qM (qB Z)⟩
 refine⟨λh=>?_,?_⟩
 . obtain⟨v,_⟩:=R h;exact⟨v.1,v.2.1,λv B e A=>G5 (n v B e A) δ,λv B e A=>G5 (o v B e A) δ⟩
 rintro⟨(w:Bool),_⟩ F;simp only at F|-;refine⟨λh=>?_,λh=>?_⟩
 . refine⟨λh=>(by cases h),fun⟨v,e,a,_⟩=>?_⟩;have g:F5 (!decide (A3 m)) true (decide (m.1≠m.2.1))=false:=C7f.2 ⟨by simp[v],qX λh=>h e⟩;have k:=(F g).2.2 a;rw[g,k]at h;cases h
 obtain⟨g,k⟩:=C7f.1 h;obtain⟨v,e⟩:=R g;have a:=(F g).2.1 (by simpa using k);have y:m.1=(P.length:Int):=a.1.1.symm;rw[y]at a;have W:m.2.1=(P.length:Int):=by rw[<-e,y]
 obtain⟨_,aa,ac⟩:=Q3 a.1;obtain⟨a0,ab,ad⟩:=Q3 a.2.1;obtain⟨G,H,a6⟩:=a.2.2.1;obtain⟨J,M,a7⟩:=a.2.2.2.1;have G:r=(P.length:Int):=G;have H:lc=(P.length:Int):=H;have J:u=(P.length:Int):=J;have M:t=(P.length:Int):=M;subst G H J M;refine⟨⟨n,o,by show(P.length:Int)<=1000;omega⟩,?_⟩;rintro⟨(D:J6),(X:Int),_⟩ _ l;simp only at l|-;have l:=((l.2 ⟨a6,a7⟩).2 (by first|rfl|trivial)).1;simp only[qN]at l;have f:Lq P.length P.length (GB (P,Q,((P.length:Int),(P.length:Int),L),((P.length:Int),(P.length:Int),U)) P.length) D:=l;refine⟨⟨s,ω,ω,a.2.1.2.2⟩,?_⟩;rintro⟨(S:J6),(Y:Int),_⟩ _ b;simp only at b|-;have a1:¬((∃i,i∈P/\(i<0\/m.1<=i))\/∃i,i∈Q/\(i<0\/m.2.1<=i)):=by
  rintro(⟨i,c,Z⟩ | ⟨i,c,Z⟩)
  . have:=a.1.2.1 i c;omega
  have:=a.2.1.2.1 i c;omega
 have b:=(((b.2 v).2 a1).2 ⟨ω,ω⟩).1;rw[a0]at b;have b:Lq P.length P.length (λi j=>el m (ix P i) (ix Q j)) S:=b;refine⟨⟨Qt f δ λi j _ _=>B7b I a a2 a3 n o i j,Qt b δ λi j _ _=>Pf v a4 s δ _ _⟩,?_⟩;rintro⟨(z:Bool),_⟩ _ O;simp only at O|-;rw[O,y];simp only[qN];have a8:D.1=(P.length:Int):=f.1;have a9:D.2.1=(P.length:Int):=f.2.1;rw[a8,a9];constructor
 . rintro⟨_,_,_,_,h⟩;refine⟨v,W.symm,a,λi j c d=>?_⟩;have:=h i j (sG.2 c) (sG.2 d);rw[Ha f c d,Ha b c d]at this;exact this
 rintro⟨_,_,_,h⟩;refine⟨Gd f ω ω,Gd b ω ω,b.1.symm,b.2.1.symm,λi j c d=>?_⟩;have c:i<P.length:=ω
 have d:j<P.length:=ω
 rw[Ha f c d,Ha b c d];exact h i j c d
def XD:An:= {loop:= [(4,⟨[1],[0],[(3,false,vI)],[],[]⟩)]}
def CK(x:T4):Prop:=let e:=(12:Int);let g:=(decide (e<x.1.2.1));let b:=(x.1.2.2.length:Int);let a:Prop:=(x.1.2.2.length<=(12:Nat)/\x.1.2.1<=e/\∀(v:List EE),v∈x.1.2.2->v.length<=(30:Nat));(iB (F5 (decide (e<b)) true g) (false=decide a) (∃(I:D3->Prop),∃(f: _->Nat),I ((0:Int),())/\∀(p:D3),let d:=(i64.wrap (p.1+1),());let c:Prop:=((30:Int)<(↑(gx [] x.1.2.2 p.1).length:Int));(Ty.int i64).wf p.1/\True->I p->(iB (decide (p.1<b)) ((0<=p.1/\p.1<b)/\(iB (decide c) (false=decide a) (I d/\f d<f p))) (true=decide a))))
def B2q {Y Y':Nat} {f:LUV} {b:List C6} (h:B2p Y f b) (a:Y<=Y'):B2p Y' f b:=⟨λk z d i=>G4 (h.1 k z d i) a,λx g j c=>G4 (h.2 x g j c) a⟩
def jI {n:Nat} {c:Nat->Nat} (i:∀a,a<n->c a<n) (h:∀a b,a<n->b<n->c a=c b->a=b) (f:Nat->Rat):B8 n (λa=>f (c a))=B8 n f:=by
 have l:B8 n (λa=>f (c a))=B8 n λa=>B8 n λj=>if j=c a then f j else 0:=A8 λa d=>by
  rw[G7 (k:=c a) (i a d) λj _ g=>qG g,qK rfl]
 rw[l,EZ];refine A8 λj g=>?_
 obtain⟨a,d,rfl⟩:=M9 i h g;rw[G7 (k:=a) d λb r s=>qG λo=>s (h b a r d o.symm),qK rfl]
structure B0c (n:Nat) (p q:Nat->Nat) (F g:Nat->Nat->Rat):Prop where
 p0:∀a,a<n->p a<n
 p1:∀a b,a<n->b<n->p a=p b->a=b
 q0:∀a,a<n->q a<n
 q1:∀a b,a<n->b<n->q a=q b->a=b
 eq:∀i j,i<n->j<n->g (p i) (q j)=F i j
variable {n:Nat} {p q:Nat->Nat} {F g:Nat->Nat->Rat}
def B0c.row (h:B0c n p q F g) (z:Nat->Rat) {i:Nat} (a:i<n):B8 n (λj=>F i j*z (q j))=B8 n λk=>g (p i) k*z k:=by
 rw[<-jI h.q0 h.q1 λk=>g (p i) k*z k];exact A8 λj b=>by rw[h.eq i j a b]
def B0c.col (h:B0c n p q F g) (z:Nat->Rat) {j:Nat} (b:j<n):B8 n (λi=>z (p i)*F i j)=B8 n λk=>g k (q j)*z k:=by
 rw[<-jI h.p0 h.p1 λk=>g k (q j)*z k];exact A8 λi a=>by rw[h.eq i j a b,wW]
def B0c.qs (h:B0c n p q F g) {s:Nat} (f:∀i j,i<n->j<n->qs s (F i j)):∀i j,i<n->j<n->Go.Proofs.YtcbjamefalhfgaaGreat.qs s (g i j):=λi j k l=>by
 obtain⟨a,c,rfl⟩:=M9 h.p0 h.p1 k;obtain⟨b,d,rfl⟩:=M9 h.q0 h.q1 l;rw[h.eq a b c d];exact f a b c d
def B7m {R C T T':Nat} {A:Nat->Nat->Rat} (h:Jr R C A T) (g:T<=T'):Jr R C A T':=λk r c a b d f=>G4 (h k r c a b d f) g
def C9l {n:Nat} {d:Nat->Nat} (j:∀a,a<n->d a<n) (i:∀a b,a<n->b<n->d a=d b->a=b) (f:Nat->Rat):B8 n (λa=>f (d a))=B8 n f:=by
 have k:B8 n f=B8 n λc=>B8 n λa=>if d a=c then f c else 0:=A8 λc h=>by
  obtain⟨a,g,rfl⟩:=M9 j i h;rw[G7 g λb l o=>qG λe=>o (i b a l g e),qK rfl]
 rw[k,EZ];refine A8 λa g=>?_
 rw[G7 (j a g) λc _ h=>qG (Ne.symm h),qK rfl]
def A9h {k:Nat} {m:J6} (b:A3 m) (c:∀v∈m.2.2,R3 v) (o:1<=k) (h:∀i j:Nat,(i:Int)<m.1->qs k (el m i j)):J1 k m:=λv a=>by
 obtain⟨i,g,rfl⟩:=T8 [] a;have l:(i:Int)<m.1:=by rw[<-b.2.2.2.2.1];exact sG.2 g
 refine LP (c _ a) λj=>?_
 by_cases n:0<=j
 . have:=h i j.toNat l;unfold el at this;rwa[(ω:((j.toNat:Nat):Int)=j)]at this
 rw[C7 λe d f=>n (by rw[<-f];exact((b.2.2.2.2.2 _ a).2 e d).1)];exact M0 o
def C9o {n:Nat} {A:Nat->Nat->Rat} {d:LUV} {b X:List C6} (l:O3 d n) (s:∀i j:Nat,i<n->j<n->GB d n i j=A (ix d.1 i) (ix d.2.1 j)) (o:∀i:Nat,i<n->B8 n (λj=>GB d n i j*rv (X.getD (ix d.2.1 j) zr))=rv (b.getD (ix d.1 i) zr)):∀a,a<n->B8 n (λc=>A a c*rv (X.getD c zr))=rv (b.getD a zr):=λa f=>by
 have g:=Q3 l.1;have h:=Q3 l.2.1;obtain⟨i,k,rfl⟩:=M9 (λa f=>(g.2.1 a f).2) g.2.2 f;rw[<-o i k, <-C9l (λa f=>(h.2.1 a f).2) h.2.2 (λc=>A (ix d.1 i) c*rv (X.getD c zr))];exact A8 λj r=>by rw[s i j k r]
def NV:sq Ez CK:=λx _ _=>by
 obtain⟨⟨(R:Int),(C:Int),D⟩,_⟩:=x;change List (List C8)at D;simp only[CK,iB,H7,uD,rE,rR,rM];refine⟨λh=>(qX fun⟨c,h2,_⟩=>by rcases h with h|h<;>omega).symm,fun⟨c,h2⟩=>?_⟩;refine⟨λp=>0<=p.1/\p.1<=(D.length:Int)/\∀k:Nat,(k:Int)<p.1->(D.getD k []).length<=30,λp=>((D.length:Int)-p.1).toNat,⟨qH _,qF _,λk a=>ω⟩,?_⟩;rintro⟨(i:Int),_⟩ _ ⟨b,l,a⟩;simp only at b l a|-;refine⟨λh=>⟨⟨b,h⟩,λg=>?_,λg=>?_⟩,λh=>?_⟩
 . have e:gx ([]:List C8) D i∈D:=F6 b h;exact(qX fun⟨_,_,h3⟩=>by have:=h3 _ e;omega).symm
 . have e:gx ([]:List C8) D i=D.getD i.toNat []:=rfl;rw[wv ω];refine⟨⟨ω,ω,λk d=>?_⟩,ω⟩;by_cases f:(k:Int)<i
   . exact a k f
   have:k=i.toNat:=ω
   rw[this, <-e];omega
 refine(rB ⟨ω,ω,λv j=>?_⟩).symm;obtain⟨k,d,rfl⟩:=T8 [] j;exact a k ω
def SN:sq Hp HN:=λx _ I=>by
 obtain⟨(l:List Wf),_⟩:=x;obtain⟨A,N,b⟩:l≠ []/\l.length<=10/\∀r∈l,r.length=(l.getD 0 []).length/\r.length<=10/\∀v∈r,v.natAbs<4294967296:=I;simp only[HN,iB,N6,rT8];refine⟨λp=>0<=p.2.1/\p.2.1<=(l.length:Int)/\p.1=(l.take p.2.1.toNat).map (List.map ri),λp=>((l.length:Int)-p.2.1).toNat,⟨qH _,qF _,rfl⟩,?_⟩;rintro⟨o,i,_⟩ _ ⟨k,J,a⟩;change List (List C6)at o;change Int at i;simp only at k J a|-;have P:o.length<=10:=by rw[a,sO,rA];omega
 refine⟨λh=>?_,λh=>?_⟩
 . have h:=qA h;have n:=H0 (d:=([]:Wf)) k h;have G:=F6 (d:=([]:Wf)) k h;generalize gx ([]:Wf) l i=row at*;have R:=(b row G).2.1;refine⟨⟨k,h⟩,λp=>0<=p.2.1/\p.2.1<=(row.length:Int)/\p.1=(row.take p.2.1.toNat).map ri,λp=>((row.length:Int)-p.2.1).toNat,⟨qH _,qF _,rfl⟩,?_⟩;rintro⟨(q:List C6),(j:Int),_⟩ _ ⟨s,M,c⟩;simp only at s M c|-;have Q:q.length<=10:=by rw[c,sO,rA];omega
   refine⟨λg=>?_,λg=>?_⟩
   . have g:=qA g;refine⟨⟨s,g⟩,trivial,?_⟩;rintro⟨v,_⟩ _ f;simp only at f|-;rw[f,wv ω];refine⟨⟨by simp only[rC];omega,by simp only[rC];omega⟩,⟨ω,ω,?_⟩,ω⟩;rw[c,(ω:(j+1).toNat=j.toNat+1),rP,H0 (d:=(0:Int)) s g,uZ];rfl
   have g:=qB g;rw[wv ω];refine⟨⟨by simp only[rC];omega,by simp only[rC];omega⟩,⟨ω,ω,?_⟩,ω⟩;rw[a,(ω:(i+1).toNat=i.toNat+1),rP,n,uZ,c,qU (ω:row.length<=j.toNat)];rfl
 have h:=qB h;have a:o=l.map (List.map ri):=by rw[a,qU ω]
 have E:0<l.length:=uX.2 A;have D:gx ([]:Wf) l 0=l.getD 0 []:=rfl;have F:l.getD 0 []∈l:=D4 E;have O:=(b _ F).2.1;rw[D];have n:∀i,i<l.length->o.getD i []=(l.getD i []).map ri:=λi hi=>by
  rw[a,qE,vH,qQ hi,qE,qQ hi];rfl
 have H:o.length=l.length:=by rw[a,sO]
 refine⟨⟨qH _,ω⟩,⟨λr y=>?_,ω,ω,ω⟩,?_⟩
 . rw[a]at y;obtain⟨w,z,rfl⟩:=sV.1 y;refine⟨λe B=>?_,by rw[sO];exact sA Int.ofNat (b w z).1⟩;obtain⟨v,f,rfl⟩:=sV.1 B;rw[Xg];exact Tx (G4 (Mx ((b w z).2.2 v f)) δ)
 rintro⟨m,_⟩ _ u;simp only at u|-;have:=ER u (g:=λi j=>(((l.getD i []).getD j 0:Int):Rat)) λi j hi hj=>by
  rw[n i ω];have t:j<(l.getD i []).length:=by
   have:=(b _ (D4 (d:=([]:Wf)) (ω:i<l.length))).1;omega
  generalize l.getD i []=w at t|-;rw[show(w.map ri).getD j zr=ri (w.getD j 0)from by simp[qE,qQ t]];exact NF _
 rw[H,qN]at this;exact this
def D1x (M:Mt):det 2 M=M 0 0*M 1 1-M 0 1*M 1 0:=by
 simp only[det,B8,eM,sg];simp;grind
def B4w {R C:Nat} {A:Nat->Nat->Rat} {b:Nat} (x:Nat->Rat) (a:∀i,i<R->B8 C (λj=>A i j*x j)=0) (c:x b≠0) (d:∀j,b<j->x j=0):LQ R C A b:=⟨x,a,c,d⟩
def B9a (f:Nat->Rat):B8 4 f=f 0+f 1+f 2+f 3:=by simp only[B8];grind
def C3i (f:Nat->Rat):B8 2 f=f 0+f 1:=by simp only[B8];grind
def C5x {A:Nat->Nat->Rat} (a:A 0 0=0) (b:A 0 1=1) (c:A 0 2=2) (d:A 0 3=3) (f:A 1 0=0) (g:A 1 1=2) (k:A 1 2=4) (l:A 1 3=1):LQ 2 4 A 0/\¬LQ 2 4 A 1/\LQ 2 4 A 2/\¬LQ 2 4 A 3:=by
 have two:∀ {i:Nat},i<2->i=0\/i=1:=λ{i} h=>ω
 refine⟨B4w (λj=>if j=0 then 1 else 0) (λi hi=>?_) δ (λj hj=>qG ω),fun⟨x,h1,h2,h3⟩=>?_,B4w (λj=>if j=1 then -2 else if j=2 then 1 else 0) (λi hi=>?_) δ (λj hj=>by rw[qG ω,qG ω]),fun⟨x,h1,h2,h3⟩=>?_⟩
 . rw[B9a];rcases two hi with rfl|rfl
   . rw[a,b,c,d];decide+kernel
   rw[f,g,k,l];decide+kernel
 . have e:=h1 0 ω;rw[B9a,a,b,c,d,h3 2 ω,h3 3 ω]at e;exact h2 (by grind)
 . rw[B9a];rcases two hi with rfl|rfl
   . rw[a,b,c,d];decide+kernel
   rw[f,g,k,l];decide+kernel
 have e:=h1 0 ω;have n:=h1 1 ω;rw[B9a,a,b,c,d]at e;rw[B9a,f,g,k,l]at n;exact h2 (by grind)
set_option maxHeartbeats 4000000 in
def NU:sq Ey CJ:=λx _ _=>by
 have bp:K1=549755813888:=rfl;simp only[CJ,N6,rT8];have Y:∀l:List Wf,(l= [[0,2],[3,0]]\/l= [[0,1,2,3],[0,2,4,1]])->l≠ []/\l.length<=10/\∀r∈l,r.length=(l.getD 0 []).length/\r.length<=10/\∀v∈r,v.natAbs<4294967296:=λl hl=>by
  rcases hl with rfl|rfl<;>refine⟨δ,δ,δ⟩
 have J:∀i j:Nat,qs 1 ((([[0,2],[3,0]].getD i ([]:Wf)).getD j 0:Int):Rat):=λi j=>Mx (by
  match i,j with
  |0,0=>decide
  |0,1=>decide
  |0,j+2=>show Int.natAbs 0<4294967296;decide
  |1,0=>decide
  |1,1=>decide
  |1,j+2=>show Int.natAbs 0<4294967296;decide
  |i+2,j=>show Int.natAbs 0<4294967296;decide)
 refine⟨Y _ (.inl rfl),?_⟩;rintro⟨w,_⟩ _ y;simp only at y|-;have bk:A3 w:=Gd y δ δ;have bc:∀i j:Nat,i<2->j<2->qs 1 (el w i j):=λi j a c=>by rw[Ha y a c];exact J i j
 have B1:Jr 2 2 (el w) (tB 1 2 2):=A5w δ bc;have b8:J1 K1 w:=Qt y δ λi j _ _=>G4 (J i j) δ
 have be:w.1=2:=y.1;have c1:w.2.1=2:=y.2.1;have O:∀i j:Nat,i<2->j<2->el w i j=((([[0,2],[3,0]].getD i ([]:Wf)).getD j 0:Int):Rat):=λi j a c=>Ha y a c
 rw[be,c1];refine⟨⟨b8,λ_ _=>⟨tB 1 2 2,δ,B1,δ⟩⟩,?_⟩;rintro⟨ao,(e:Int),_⟩ _ ⟨_,b0⟩;obtain⟨aa,d⟩:=(b0 bk).2 rfl;simp only at aa d|-;subst d;have b1:det (2:Int).toNat (el w)=((-6:Int):Rat):=by
  rw[show(2:Int).toNat=2 from rfl,D1x,O 0 0 ω ω,O 0 1 ω ω,O 1 0 ω ω,O 1 1 ω ω];decide+kernel
 refine⟨Y _ (.inr rfl),?_⟩;rintro⟨z,_⟩ _ F;simp only at F|-;have aj:A3 z:=Gd F δ δ;have ai:z.1=2:=F.1;have a1:z.2.1=4:=F.2.1;have u:∀i j:Nat,i<2->j<4->el z i j=((([[0,1,2,3],[0,2,4,1]].getD i ([]:Wf)).getD j 0:Int):Rat):=λi j a c=>Ha F a c
 have af:J1 1 z:=Qt F δ λi j a c=>Mx (by
  have a:i=0\/i=1:=by have:i<2:=a;omega
  have c:j=0\/j=1\/j=2\/j=3:=by have:j<4:=c;omega
  rcases a with rfl|rfl<;>rcases c with rfl|rfl|rfl|rfl<;>decide)
 rw[a1];rw[ai];refine⟨⟨1,δ,af,δ,λ_=>δ⟩,?_⟩;rintro⟨(p:Wf),(ar:Int),_⟩ _ ⟨_,b5⟩;obtain⟨R,ab⟩:=b5 aj;simp only at R ab|-;subst ab;have b6:p= [1,3]:=by
  obtain⟨a6,a9,ap,aq⟩:=C5x (A:=el z) (u 0 0 ω ω) ((u 0 1 ω ω).trans δ) ((u 0 2 ω ω).trans δ) ((u 0 3 ω ω).trans δ) (u 1 0 ω ω) ((u 1 1 ω ω).trans δ) ((u 1 2 ω ω).trans δ) ((u 1 3 ω ω).trans δ);refine XT R.1 δ λb=>?_
  rw[R.2,ai,a1];constructor
  . rintro⟨ak,am,Z⟩;have:b=0\/b=1\/b=2\/b=3:=ω
    rcases this with rfl|rfl|rfl|rfl
    . exact absurd a6 Z
    . simp
    . exact absurd ap Z
    simp
  intro a0;simp only[qV,wT,g1q]at a0;rcases a0 with rfl|rfl
  . exact⟨δ,δ,a9⟩
  exact⟨δ,δ,aq⟩
 refine⟨Y _ (.inl rfl),?_⟩;clear af aj u R;rintro⟨t,_⟩ _ G;simp only at G|-;have bl:A3 t:=Gd G δ δ;have o:∀i j:Nat,i<2->j<2->el t i j=((([[0,2],[3,0]].getD i ([]:Wf)).getD j 0:Int):Rat):=λi j a c=>Ha G a c
 have B3:Jr 2 2 (el t) (tB 1 2 2):=A5w δ λi j a c=>by rw[o i j a c];exact J i j
 have b9:J1 K1 t:=Qt G δ λi j _ _=>G4 (J i j) δ
 have bf:t.1=2:=G.1;have an:t.2.1=2:=G.2.1;rw[bf,an];refine⟨⟨b9,λ_ _=>⟨tB 1 2 2,δ,δ,B3⟩⟩,?_⟩;rintro⟨(n:LUV),(g:Int),_⟩ _ ⟨_,b3⟩;have b4:nonsing (2:Int).toNat (el t):=λx hx j c=>by
  have c:j<2:=c;have Z:=hx 0 δ;have a0:=hx 1 δ;rw[show(2:Int).toNat=2 from rfl,C3i,o 0 0 ω ω,o 0 1 ω ω]at Z;rw[show(2:Int).toNat=2 from rfl,C3i,o 1 0 ω ω,o 1 1 ω ω]at a0;have Z:(0:Rat)*x 0+(2:Rat)*x 1=0:=Z;have a0:(3:Rat)*x 0+(0:Rat)*x 1=0:=a0;have:j=0\/j=1:=ω
  rcases this with rfl|rfl<;>grind
 obtain⟨f,ac,a2,a3,W,V⟩:=((b3 bl).2 rfl).2 b4;simp only at f ac a2 a3 W V|-;subst ac;have f:O3 n ((2:Nat):Int):=f;have Q:n.1.length=2:=(Q3 f.1).1;have au:List.length (α:=Int) (n.1:Wf)=2:=Q;refine⟨trivial,?_⟩;rintro⟨ak,_⟩ _ a7;simp only at a7|-;refine⟨trivial,?_⟩;rintro⟨am,_⟩ _ a8;simp only at a8|-;subst a7 a8;have ay:nK 1 [ri 4,ri 9]:=λe d=>by
  simp only[qV,wT,g1q]at d;rcases d with rfl|rfl<;>(rw[Xg];exact Tx (Mx δ))
 have B13:Jr 2 2 (el t) 13:=B3;obtain⟨bg,_,bh⟩:=f.2.2.1;obtain⟨bi,_,bj⟩:=f.2.2.2.1;have ag:J1 26 n.2.2.1:=A9h bh a2 δ λi j a=>(W 13 δ B13 i j (by rw[bg]at a;exact sG.1 a)).1
 have ah:J1 26 n.2.2.2:=A9h bj a3 δ λi j a=>(W 13 δ B13 i j (by rw[bi]at a;exact sG.1 a)).2
 have ba:J1 K1 n.2.2.1:=λv hv e d=>G5 (ag v hv e d) δ
 have bb:J1 K1 n.2.2.2:=λv hv e d=>G5 (ah v hv e d) δ
 have ae:=(Q3 f.1).2.1;have b7:=(Q3 f.2.1).2.1;have av:B2p 10000 n [ri 4,ri 9]:=B2q (C3c (s:=26) (s1:=26) (by rw[Q];exact f) ω (λj c=>by
  have h:=(ae j ω).2;have h:ix n.1 j=0\/ix n.1 j=1:=ω
  rcases h with h|h<;>rw[h]
  . show qs 26 (rv (ri 4));rw[NF];exact G4 (Mx δ) δ
  . show qs 26 (rv (ri 9));rw[NF];exact G4 (Mx δ) δ) δ λi j a c=>by
  rw[Q]at a c|-;have h:=V i j a c;rw[o _ _ (ae i a).2 (b7 j c).2]at h;exact h▸G4 (J _ _) δ) (by rw[Q];decide)
 rw[au];refine⟨⟨ω,ba,bb,λ_ _=>⟨26,1,10000,δ,δ,δ,ag,ah,ay,av,δ⟩⟩,?_⟩;rintro⟨(X:List C6),(h:Int),_⟩ _ ⟨_,a4⟩;simp only at a4|-;obtain⟨b2,ax,U,aw⟩:=(a4 f).2 rfl;subst b2;have ad:=C9o (A:=el t) (b:= [ri 4,ri 9]) (X:=X) f (λi j a c=>V i j a c) aw;have H:=ad 0 δ;have s1:=ad 1 δ;rw[C3i,o 0 0 ω ω,o 0 1 ω ω]at H;rw[C3i,o 1 0 ω ω,o 1 1 ω ω]at s1;have H:(0:Rat)*rv (X.getD 0 zr)+(2:Rat)*rv (X.getD 1 zr)=((4:Int):Rat):=H.trans (NF 4);have s1:(3:Rat)*rv (X.getD 0 zr)+(0:Rat)*rv (X.getD 1 zr)=((9:Int):Rat):=s1.trans (NF 9);have H:(2:Rat)*rv (X.getD 1 zr)=4:=by rw[rV,sR]at H;exact H
 have s1:(3:Rat)*rv (X.getD 0 zr)=9:=by rw[rV,rK]at s1;exact s1
 have z:(2:Rat)*2=4:=by decide+kernel
 have t:(3:Rat)*3=9:=by decide+kernel
 have N:rv (X.getD 1 zr)=((2:Int):Rat):=by
  show _=(2:Rat);grind
 have M:rv (X.getD 0 zr)=((3:Int):Rat):=by
  show _=(3:Rat);grind
 have a5:X= [ri 3,ri 2]:=by
  match X,ax,U,M,N with
  | [Z,b],_,a9,M,N=>
   have a0:=a9 Z (by simp);have a6:=a9 b (by simp);have M:rv Z= _:=M;have N:rv b= _:=N;rw[M]at a0;rw[N]at a6;rw[Xg,Xg,a0,a6]
 refine⟨λ_=>trivial,?_⟩;rintro⟨bq,_⟩ P;refine⟨λ_=>trivial,?_⟩;rintro⟨bm,_⟩ I;refine⟨λ_=>trivial,?_⟩;rintro⟨bn,_⟩ B;refine⟨λ_=>trivial,?_⟩;rintro⟨bs,_⟩ D;refine⟨λ_=>trivial,?_⟩;rintro⟨bt,_⟩ E;change Bool at bm bn;have az:ao=ri (-6):=by rw[aa,b1,Xg]
 simp only[J5,g3z,wI]at P I B D E|-;have P:=(P trivial).2;have I:=(I trivial).2;rw[P,az,rB rfl]at I;subst I;simp only[wI]at B D E|-;have B:=(B trivial).2;rw[b6,rB rfl]at B;subst B;simp only[g4f,wI]at D E|-;have D:=(D trivial).2;have E:=(E trivial).2;subst D E;refine⟨λ_=>⟨λe d=>?_,λe d=>?_⟩,?_⟩
 . rw[U e d];refine N8 (k:=1) ?_ δ;rw[a5]at d;simp only[qV,wT,g1q]at d;rcases d with rfl|rfl<;>(rw[NF];exact Mx δ)
 . simp only[qV,wT,g1q]at d;rcases d with rfl|rfl<;>(rw[Xg];exact N8 (k:=1) (Mx δ) δ)
 rintro⟨(bo:Bool),_⟩ T;have T:=(T trivial).2;rw[T];exact rB ⟨a5,U⟩
def GL:sq Bu Ue:=λx _ V=>by
 have a2:K1=549755813888:=rfl;have a3:K0=1073741824:=rfl;obtain⟨(m:J6),_⟩:=x;obtain⟨g,P,o⟩:=V;have g:J1 K1 m:=g;have P:m.2.2.length<=12:=P;have o:A3 m->∃T:Nat,1<=T/\T+T<=K0/\Jr m.1.toNat m.2.1.toNat (el m) T:=o;simp only[Ue,iB,Ci];refine⟨⟨g,λv e=>?_⟩,?_⟩
 . obtain⟨T,k,t,d⟩:=o v;rw[<-e]at d;exact⟨T,k,ω,d⟩
 rintro⟨(a:LUV),(f:Int),_⟩ _ ⟨I,l⟩;refine⟨⟨g,λv=>?_⟩,?_⟩
 . obtain⟨T,k,t,d⟩:=o v;exact⟨T,k,ω,d⟩
 rintro⟨(G:Int),_⟩ _ ⟨H,r⟩;simp only at I l H r|-;have O:f=G/\(f=0->A3 m/\m.1=m.2.1/\nonsing m.1.toNat (el m)):=by
  by_cases v:A3 m
  case neg=>rw[(I v).2,H v];exact⟨rfl,λh=>ω⟩
  by_cases e:m.1=m.2.1
  case neg=>rw[((l v).1 e).2,(r v).1 e];exact⟨rfl,λh=>ω⟩
  by_cases n:nonsing m.1.toNat (el m)
  case neg=>rw[(((l v).2 e).1 n).2,((r v).2 e).1 n];exact⟨rfl,λh=>ω⟩
  rw[(((l v).2 e).2 n).2.1,((r v).2 e).2 n];exact⟨rfl,λ_=>⟨v,e,n⟩⟩
 refine⟨λh=>absurd O.1 (qA h),λ_=>?_⟩;have A:decide (f≠0)=false->A3 m/\m.1=m.2.1/\O3 a m.1/\J1 K0 a.2.2.1/\J1 K0 a.2.2.2/\a.1.length<=200/\a.2.1.length<=200/\∀i j:Nat,i<m.1.toNat->j<m.1.toNat->GB a m.1.toNat i j=el m (ix a.1 i) (ix a.2.1 j):=λh=>by
  obtain⟨v,e,W⟩:=O.2 (qM (qB h));obtain⟨b,_,R,U,N,s⟩:=((l v).2 e).2 W;obtain⟨T,k,t,d⟩:=o v;rw[<-e]at d;have a6:(m.2.2.length:Int)=m.1:=v.2.2.2.2.1;have a4:=b.1.1;have a5:=b.2.1.1;obtain⟨Y,_,Z⟩:=b.2.2.1;obtain⟨a0,_,a1⟩:=b.2.2.2.1;refine⟨v,e,b,λw D e n=>G5 (A9h Z R ω (λi j B=>(N T k d i j (by rw[Y]at B;omega)).1) w D e n) t,λw D e n=>G5 (A9h a1 U ω (λi j B=>(N T k d i j (by rw[a0]at B;omega)).2) w D e n) t,ω,ω,s⟩
 refine⟨λh=>?_,?_⟩
 . obtain⟨_,_,_,u,y,c,z,_⟩:=A h;exact⟨g,u,y,c,z⟩
 rintro⟨(E:Bool),_⟩ J;refine⟨λh=>?_,?_⟩
 . obtain⟨_,_,_,u,y,c,z,_⟩:=A h.2;exact⟨g,u,y,c,z⟩
 rintro⟨(F:Bool),_⟩ M;simp only at J M|-;by_cases h:decide (f≠0)=false
 . obtain⟨v,e,b,_,_,_,_,s⟩:=A h;have Q:E=true:=(J h).2.2 ⟨v,e,b,s⟩;have X:F=true:=(M ⟨Q,h⟩).2.2 ⟨v,e,b,s⟩;rw[Q,X,h];rfl
 rw[show decide (f≠0)=true from by revert h;cases decide (f≠0)<;>simp];rfl
def Pb:sq E3 Hx:=λx J I=>by
 obtain⟨(m:J6),Q,_⟩:=x;have H:Hc m:=R4 J.1.2.2.2;have u:J1 1048576 m:=I;simp only[Hx,Gh];refine⟨trivial,?_⟩;rintro⟨(y:Bool),_⟩ _ l;simp only at l|-;subst l;refine⟨λ_=>trivial,?_⟩;rintro⟨(b:Bool),_⟩ d;have d:=(d (by first|rfl|trivial)).2;simp only at d|-;refine⟨λz=>?_,?_⟩
 . have D:b=true:=by
    cases b with
    |true=>rfl
    |false=>exact absurd z.1 δ
   obtain⟨k,w,_⟩:=qA (d.symm.trans D);refine⟨λv h e g=>G5 (u v h e g) δ,k,λv=>⟨163577869,δ,δ,?_⟩⟩;have P:(m.2.2.length:Int)=m.1:=v.2.2.2.2.1;have k:m.2.2.length<=12:=k;have w:m.2.1<=12:=w;exact B7m (mG (s:=1048576) ω λi j _ _=>Pf v H u δ i j) (qY (A9y (R':=12) (C':=12) ω ω) δ)
 rintro⟨(c:Bool),_⟩ o;refine⟨λ_=>⟨δ,δ⟩,?_⟩;rintro⟨(q:J6),_⟩ t;simp only at o t|-;have f:F5 true (F5 (!b) true c) false=true:=by
  cases b with
  |false=>rfl
  |true=>
   rw[(o ⟨rfl,by first|rfl|trivial⟩).2];rfl
 obtain⟨_,n,R,T,O,r,a⟩:=t f;have M:J1 4 q:=Qt a δ λi j _ _=>r i j
 refine⟨λ_=>⟨λv h e g=>G5 (M v h e g) δ,?_,λ_=>⟨175,δ,δ,?_⟩⟩,?_⟩
 . have:=a.2.2.1;show q.2.2.length<=12;omega
 . have A:q.1=(n:Int):=a.1;have B:q.2.1=(n:Int):=a.2.1;rw[A,B];exact B7m (mG (s:=4) ω λi j F G=>by rw[Ha a F G];exact r i j) (qY (A9y (R':=6) (C':=6) ω ω) δ)
 rintro⟨N,_⟩ E;exact selA.2 ⟨f,(E f).2⟩
def C3a (p q:Rat):(p-q).num.sign=Lk p q:=by
 unfold Lk;have e:(p-q).num=0↔p-q=0:=yM;have f:0<=(p-q).num↔0<=p-q:=Rat.num_nonneg;by_cases h:p<q
 . rw[qK h];refine wJ ?_;have:¬0<=p-q:=by grind
   rw[<-f]at this;omega
 rw[qG h];by_cases a:q<p
 . rw[qK a];refine uK ?_;have b:0<=p-q:=by grind
   have c:p-q≠0:=by grind
   rw[<-f]at b;have:=mt e.1 c;omega
 rw[qG a];have:p-q=0:=by grind
 rw[e.2 this];rfl
def OG:sq Fi DC:=λx f g=>by
 obtain⟨p,q,_⟩:=x;have h:Sf p:=Vr f.1;have i:Sf q:=Vr f.2.1;change C6 at p q;obtain⟨a,b⟩:sz K1 p/\sz K1 q:=g;simp only[DC,Ci,N6];refine⟨⟨O4 a δ,O4 b δ⟩,?_⟩;rintro⟨(r:C6),_⟩ _ c;simp only at c|-;subst c;refine⟨N8 (A6p (Jw h a δ) (Jw i b δ)) δ,?_⟩;rintro⟨s,_⟩ _ d;simp only[H2]at d|-;rw[d];exact C3a _ _
end Go.Proofs.YtcbjamefalhfgaaGreat
namespace Go.Vc
open Go Go.RowKit Go.Gw Go.Shelf
open Go.IntKind (i64)
structure El (t:Ty) (w:World) (Z:Nat->Prop) where
 c:List Value
 v:t.den
 h:C9 t w Z c v
def pW {t:Ty} {w:World} {Z:Nat->Prop} :∀ {l:List t.den} {xs:List Value},G8 (C9 t w Z) xs l->∃L:List (El t w Z),L.flatMap El.c=xs/\L.map El.v=l
 | [],_,h=>⟨[],h.symm,rfl⟩
 |x::l,_,⟨c1,g,e,a,b⟩=>by
  obtain⟨L,d,f⟩:=pW b;exact⟨⟨c1,x,a⟩::L,by rw[yT,d,e],by rw[rT,f]⟩
def pX {t:Ty} {w w':World} {Z Z':Nat->Prop} (a:∀c x,C9 t w Z c x->C9 t w' Z' c x):∀L:List (El t w Z),G8 (C9 t w' Z') (L.flatMap El.c) (L.map El.v)
 | []=>rfl
 |p::L=>⟨p.c,L.flatMap El.c,rfl,a _ _ p.h,pX a L⟩
def A0g {α:Type} {enc:α->List Value} {k:Nat} (a:∀x,(enc x).length=k):∀(L:List α) (i r:Nat) {x:α},L[i]? =some x->r<k->(L.flatMap enc)[i*k+r]? =(enc x)[r]?
 | [],_,_,_,h,_=>by cases h
 |y::L,0,r,x,h,b=>by
  simp only[g2d,rF]at h;subst h;rw[yT,xW,rZ,vL (by rw[a];exact b)]
 |y::L,i+1,r,x,h,b=>by
  rw[uV]at h;have e:(i+1)*k+r-k=i*k+r:=by rw[tZ];omega
  rw[yT,tW (by rw[a,tZ];omega),a,e];exact A0g a L i r h b
def A0h {α:Type} {enc:α->List Value} {k:Nat} (a:∀x,(enc x).length=k):∀L:List α,(L.flatMap enc).length=L.length*k
 | []=>by simp
 |x::L=>by rw[yT,rS,A0h a L,a,rH,tZ];omega
def A0f {α:Type} [Inhabited α] {enc:α->List Value} {k:Nat} (c:∀x,(enc x).length=k) (d:Array α) {j:Nat} (a:j<d.size*k):(d.toList.flatMap enc)[j]? =some (Go.Sort.flatK enc k d)[j]!:=by
 have f:0<k:=by
  rcases vN k with h|h
  . rw[h,wV]at a;omega
  exact h
 have b:j/k<d.size:=(uA f).2 a;have g:j%k<k:=wL _ f;have e:j=j/k*k+j%k:=by rw[sH];exact(xB j k).symm
 rw[Go.Sort.get_flatK enc k d j a];have a:d.toList[j/k]? =some d[j/k]!:=by
  rw[wR,vK b,g1e d _ b]
 have:=A0g c d.toList (j/k) (j%k) a g;rw[<-e]at this;have a:j%k<(enc d[j/k]!).length:=by rw[c];exact g
 rw[this,qQ a,g1e (enc d[j/k]!) (j%k) a]
def B2d {F cur:Array Value} {n:Nat} {xs:List Value} (c:xs.length=n) (a:F.size=n) (b:n<=cur.size) (h:∀j,j<n->xs[j]? =some F[j]!):(Go.Sort.putCells id 0 F cur).size=cur.size/\(Go.Sort.putCells id 0 F cur).toList.take n=xs:=by
 refine⟨by simp[Go.Sort.putCells],?_⟩;apply xT;intro j;by_cases a:j<n
 . rw[sC a,h j a,wR];unfold Go.Sort.putCells;rw[Array.getElem?_mapIdx,vK ω];simp only[wQ];rw[qK ⟨rQ _,ω⟩];rfl
 rw[rW (by simp;omega),rW ω]
def B8i {α:Type} [Inhabited α] {d a:Array α} (h:Go.Sort.PermIn 0 d.size d a):a.toList.Perm d.toList:=by
 obtain⟨b,_,a⟩:=h;rw[g3j,g3j]at a;simpa[List.extract_eq_take_drop,qU,b]using a
def A6x {α:Type} [Inhabited α] {lt:α->α->Bool} {c:Array α} {n:Nat} (d:c.size=n) (h:Go.Sort.SortedIn lt 0 n c):c.toList.Pairwise λa b=>lt b a=false:=by
 rw[tC];intro i j d k g;have f:i<c.size:=by simpa using d
 have d:j<c.size:=by simpa using k
 have:=h i j (rQ _) g ω;rw[g1e c i f,g1e c j d]at this;simpa using this
def C3k {w:World} {b m:Nat} {f:Array Value->Array Value} {a:Array Obj} :w.heap.size<=(Go.Sort.grow (Go.Sort.mapBlock (Go.Sort.ahead w m) b f) a).heap.size:=by
 simp[Go.Sort.grow,Go.Sort.mapBlock,Go.Sort.ahead]
def A2y {w:World} {b m j:Nat} {f:Array Value->Array Value} {d:Array Obj} (a:j<w.heap.size) (c:j≠b):(Go.Sort.grow (Go.Sort.mapBlock (Go.Sort.ahead w m) b f) d).heap[j]? =w.heap[j]?:=by
 rw[Go.Sort.heap_grow_old _ _ (by simpa[Go.Sort.mapBlock,Go.Sort.ahead]using a)];unfold Go.Sort.mapBlock;simp only;rw[g3f,qG (Ne.symm c)];rfl
def C3j {w:World} {b m:Nat} {f:Array Value->Array Value} {c:Array Obj} {cur:Array Value} {e:TypeId} (a:w.heap[b]? =some (.cells cur e (0,0))):(Go.Sort.grow (Go.Sort.mapBlock (Go.Sort.ahead w m) b f) c).heap[b]? =some (.cells (f cur) e (0,0)):=by
 have c:b<w.heap.size:=(rX.1 a).1;rw[Go.Sort.heap_grow_old _ _ (by simpa[Go.Sort.mapBlock,Go.Sort.ahead]using c)];unfold Go.Sort.mapBlock;simp only;rw[g3f,qK rfl];have:(Go.Sort.ahead w m).heap[b]? =some (.cells cur e (0,0)):=a;rw[this];rfl
def Mh {P:Program} {f:FuncId} (a:Gx P f=true) (args:Array Value) (w:World):(callFunc f args).run P w= .ok (.enter f args) w:=by
 unfold Gx at a;split at a
 . rename_i fn d;simp only[qC,rO]at a;have c:¬fn.body=none:=by intro hb;rw[hb]at a;simp at a
   have b:¬fn.name= "runtime.NumGoroutine" :=by simpa using a.1
   simp[callFunc,d,b,c,go_sem]
 cases a
def C3l {α d:Type} {φ:α->α->Int} (v:d->α) (f:∀a,¬φ a a<0) (g:∀a b c,φ a b<0->φ b c<0->φ a c<0) (i:∀a b c,¬φ a b<0->¬φ b c<0->¬φ a c<0):
 Go.Sort.SWO (Go.Proofs.ltOf λx y:d=>φ (v x) (v y)):=by
 refine⟨λx=>?_,λx y z h d=>?_,λx y z h d=>?_⟩
 . exact qX (f _)
 . exact rB (g _ _ _ (qA h) (qA d))
 exact qX (i _ _ _ (qB h) (qB d))
def B2r {t:Ty} {φ:t.den->t.den->Int} {e:TypeId} {w w':World} {Z:Nat->Prop} {fv:Value} {g c:Nat} {cur F:Array Value} {k:Nat} {x:List t.den} {L L':List (El t w Z)}
 (E:∀b,Z b->b<w.heap.size) (I:¬Z g) (i:t.size=k)
 (a0:w.heap[g]? =some (.cells cur e (0,0))) (n:L.length<=c) (N:c<=maxLen) (s:cur.size=c*k) (D:L.map El.v=x)
 (u:L'.Perm L) (Q:L'.Pairwise λa b=>¬φ b.v a.v<0)
 (A:F.size=L.length*k) (B:∀j,j<L.length*k->(L'.flatMap El.c)[j]? =some F[j]!)
 (O:w'.os=w.os) (U:w'.tape=w.tape) (P:w'.output=w.output) (T:w.heap.size<=w'.heap.size)
 (l:∀j,j<w.heap.size->j≠g->w'.heap[j]? =w.heap[j]?) (H:w'.heap[g]? =some (.cells (Go.Sort.putCells id 0 F cur) e (0,0))):
 Y9 (ZN w (Ce t e φ).args [.slice (some ⟨g,0,none⟩) L.length c,fv]) w w'/\∃(r:Br (Ce t e φ).res) (o:Ox (Ce t e φ).args) (us:List Value) (Zn:Nat->Prop),(Ce t e φ).post (x,()) r/\(Q6 (Ce t e φ).args=true->(Ce t e φ).mpost (x,()) r o)/\Value.tuple #[]=BY us/\(∀b,Zn b->(w.heap.size<=b/\b<w'.heap.size)\/((Ce t e φ).shared=true/\Z b))/\Pd w.heap.size w' Zn (Ce t e φ).res us r/\Yd w w' Zn (Ce t e φ).args [.slice (some ⟨g,0,none⟩) L.length c,fv] o:=by
 have f:L'.length=L.length:=u.length_eq;have G:∀p:El t w Z,p.c.length=k:=λp=>by rw[<-i];exact C9.length p.h
 have y:(L'.flatMap El.c).length=L.length*k:=by rw[A0h G,f]
 obtain⟨W,X⟩:=B2d y A (by rw[s];exact rG _ n) B;have R:O6 Z w w':=λb d=>l b (E b d) (λe=>I (e▸d))
 refine⟨⟨O,U,P,T,λj J M=>l j J (λz=>M ?_),trivial⟩,(),(L'.map El.v,()),[],Z,trivial,λ_=>⟨?_,?_⟩,rfl,λb d=> .inr ⟨rfl,d⟩,rfl,?_⟩
 . subst z;refine⟨(.row t e, .slice (some ⟨j,0,none⟩) L.length c),rD,?_⟩;rfl
 . rw[<-D];exact u.map _
 . exact wK.2 Q
 refine⟨⟨L'.flatMap El.c,⟨?_, .inr ⟨g,c,Go.Sort.putCells id 0 F cur,?_,rQ _,H,?_,N,?_,?_⟩⟩,?_⟩,trivial⟩
 . simp only[sO];rw[y,f,i]
 . simp only[sO,f]
 . simp only[sO,f];exact n
 . rw[W,s,i]
 . simp only[sO,f,i];exact X
 refine pX (λY a1 V=>?_) L';exact C9.mono (λb d=>d) R V
def B3o (P:Program) (g:FuncId) (t:Ty) (φ:t.den->t.den->Int):Prop:=
 ∀(w:World) (Z:Nat->Prop) (c1 a:List Value) (x y:t.den),C9 t w Z c1 x->C9 t w Z a y->Calls P g #[.agg c1.toArray, .agg a.toArray] w λe b=>e= .returned (.int .i64 (φ x y))/\∃q a,b=Go.Sort.grow (w.drewN q) a
def A2u {P:Program} {ρ:Ren} (LL:Go.Proofs.SlLaysF0.n6 P ρ) {t:Ty} {e:TypeId} {g:FuncId} {φ:t.den->t.den->Int} (R:∀w,(isAgg (ρ.t 24)).run P w= .ok true w) (ah:∀w,(Go.sizeOf (ρ.t 24)).run P w= .ok t.size w)
 (U:∀a,¬φ a a<0) (V:∀a b c,φ a b<0->φ b c<0->φ a c<0) (W:∀a b c,¬φ a b<0->¬φ b c<0->¬φ a c<0) (a6:Gx P g=true) (a3:B3o P g t φ):A7q P (ρ.f 6) g t e φ:=by
 rintro w Z am aj D ⟨an,M,a5,a0⟩ a8;obtain⟨L,rfl,rfl⟩:=pW a5;have Y:(L.map El.v).length=L.length:=sO ..;rw[Y]at M a8;obtain⟨ai,af⟩:=M;have z:∀(p:Option Addr) (d:Nat),L= []->Gw.dU P (ρ.f 6) [.slice p 0 d, .func (.func g) #[] #[]] w λu Q=>u= .tuple #[]/\Q=w:=λp d _=>
  Calls.mono (Go.Proofs.AnyF.slices_SortFunc_none LL p d (.func (.func g) #[] #[]) w) λ_ _ ⟨N,hw⟩=>⟨_,N,rfl,hw⟩
 rcases af with⟨rfl,a9⟩ | ⟨b,d,cur,rfl,_,h,G,J,H,ae⟩
 . have n:L= []:=qR a9;subst n;refine(z none 0 rfl).mono ?_;rintro _ _ ⟨rfl,rfl⟩;refine⟨Y9.of (R7.refl _),(),([],()),[],(λ_=>False),trivial,λ_=>⟨wX _,List.Pairwise.nil⟩,rfl,λ_ s=>s.elim,rfl,⟨⟨[],World.ownsRow_nil _ _ _ _,rfl⟩,trivial⟩⟩
 have E:¬Z b:=a0 b rfl;have v:∀p:El t w Z,p.c.length=t.size:=λp=>C9.length p.h
 have a1:b<w.heap.size:=(rX.1 h).1;rcases n:L with _ | ⟨ag,L0⟩
 . subst n;refine(z _ d rfl).mono ?_;rintro _ _ ⟨rfl,rfl⟩;refine⟨Y9.of (R7.refl _),(),([],()),[],(λ_=>False),trivial,λ_=>⟨wX _,List.Pairwise.nil⟩,rfl,λ_ s=>s.elim,rfl,⟨⟨[],⟨by simp, .inr ⟨b,d,cur,rfl,rQ _,h,G,J,H,by simp⟩⟩,rfl⟩,trivial⟩⟩
 rw[<-n];clear z
 haveI:Inhabited (El t w Z):=⟨ag⟩
 have X:Go.Sort.HoldsK El.c t.size w b 0 L.toArray:=by
  intro r j;rw[Go.Sort.size_flatK]at j;have a7:r<L.length*t.size:=by simpa using j
  have N:=A0f v L.toArray j;rw[rZ];refine⟨?_,?_⟩
  . have T:cur[r]? =some (Go.Sort.flatK El.c t.size L.toArray)[r]!:=by
     rw[<-N];simp only;rw[<-ae,sC a7,wR]
    simp only[World.cell?,h];exact T
  simp[World.frozen?,h]
 have a4:Go.Proofs.CmpLays P g #[] El.c t.size (λx y:El t w Z=>φ x.v y.v) b 0 L.toArray.size w:=by
  intro m O T a7 x y;have N:O6 Z w (Go.Proofs.sortWorldK El.c t.size w b 0 m T O):=by
   intro B o;have:B≠b:=λe=>E (e▸o)
   exact A2y (D B o) this
  exact a3 _ Z x.c y.c x.v y.v (C9.mono (λ_ i=>i) N x.h) (C9.mono (λ_ i=>i) N y.h)
 have a2:=Go.Proofs.AnyQ.slices_SortFunc LL t.size R ah El.c v (λx=>C9.oneCell x.h) (λx y:El t w Z=>φ x.v y.v) (C3l El.v U V W) g #[] b 0 d L.toArray w (Mh a6) a4 X a1 (by simp;omega);refine Calls.mono a2 ?_;rintro _ Q ⟨rfl,l,ak,O,A,ad,rfl⟩;refine⟨_,rfl,?_⟩;have ab:=B8i A;have ac:=A6x A.1 ad;have I:l.size=L.length:=by rw[A.1];simp
 refine B2r (k:=t.size) (F:=Go.Sort.flatK El.c t.size l) (L:=L) (L':=l.toList) (cur:=cur) (x:=L.map El.v) D E rfl h G J H rfl ab ?_ ?_ ?_ rfl rfl rfl ?_ ?_ ?_
 . exact ac.imp λi=>qB i
 . rw[Go.Sort.size_flatK,I]
 . intro r j;exact A0f v l (by rw[I];exact j)
 . exact C3k
 . intro B o aa;exact A2y o aa
 exact C3j h
end Go.Vc
namespace Go.Proofs
open Go.Proofs.Tryz
open Go.Shelf
open Go.IntKind (i64)
def Tryz.sortEnt_ren:Go.Shelf.Ren:=⟨fun|6=>82|15=>129|14=>128|28=>171|29=>172|20=>163|21=>164|22=>165|23=>166|24=>167|25=>168|26=>169|27=>170|46=>192|47=>193|48=>194|49=>195|50=>196|57=>207|n=>n,fun|22=>61|24=>75|25=>120|3=>3|39=>151|0=>0|53=>118|55=>130|4=>4|46=>169|45=>168|50=>173|5=>5|9=>9|66=>196|70=>200|76=>208|77=>209|n=>n,fun|n=>n⟩
def Tryz.sortEnt:Go.Proofs.SlLaysF0.n6 prog sortEnt_ren:= {
 mixed:=by kernel_rfl
 f6:=⟨f82.name,δ,func82.trans (sA some (by kernel_rfl))⟩
 f14:=⟨f128.name,δ,func128.trans (sA some (by kernel_rfl))⟩
 f15:=func129.trans (sA some (by kernel_rfl))
 f20:=⟨f163.name,δ,func163.trans (sA some (by kernel_rfl))⟩
 f21:=⟨f164.name,δ,func164.trans (sA some (by kernel_rfl))⟩
 f22:=⟨f165.name,δ,func165.trans (sA some (by kernel_rfl))⟩
 f23:=⟨f166.name,δ,func166.trans (sA some (by kernel_rfl))⟩
 f24:=⟨f167.name,δ,func167.trans (sA some (by kernel_rfl))⟩
 f25:=⟨f168.name,δ,func168.trans (sA some (by kernel_rfl))⟩
 f26:=⟨f169.name,δ,func169.trans (sA some (by kernel_rfl))⟩
 f27:=⟨f170.name,δ,func170.trans (sA some (by kernel_rfl))⟩
 f28:=func171.trans (sA some (by kernel_rfl))
 f29:=func172.trans (sA some (by kernel_rfl))
 f46:=⟨f192.name,δ,func192.trans (sA some (by kernel_rfl))⟩
 f47:=func193.trans (sA some (by kernel_rfl))
 f48:=func194.trans (sA some (by kernel_rfl))
 f49:=⟨f195.name,δ,func195.trans (sA some (by kernel_rfl))⟩
 f50:=⟨f196.name,δ,func196.trans (sA some (by kernel_rfl))⟩
 f57:=⟨f207.name,δ,func207.trans (sA some (by kernel_rfl))⟩
 t0:=underlying0
 a0:=isAgg0
 z0:=sizeOf0
 v0:=zeroValue0
 t3:=underlying3
 a3:=isAgg3
 z3:=sizeOf3
 v3:=zeroValue3
 t4:=underlying4
 a4:=isAgg4
 z4:=sizeOf4
 v4:=zeroValue4
 t5:=underlying5
 a5:=isAgg5
 z5:=sizeOf5
 v5:=zeroValue5
 t9:=underlying9
 a9:=isAgg9
 z9:=sizeOf9
 v9:=zeroValue9
 t22:=underlying61
 a22:=isAgg61
 z22:=sizeOf61
 v22:=zeroValue61
 t25:=underlying120
 a25:=isAgg120
 z25:=sizeOf120
 v25:=zeroValue120
 t39:=underlying151
 a39:=isAgg151
 z39:=sizeOf151
 v39:=zeroValue151
 t45:=underlying168
 a45:=isAgg168
 z45:=sizeOf168
 v45:=zeroValue168
 t46:=underlying169
 a46:=isAgg169
 z46:=sizeOf169
 v46:=zeroValue169
 t50:=underlying173
 a50:=isAgg173
 z50:=sizeOf173
 v50:=zeroValue173
 t53:=underlying118
 a53:=isAgg118
 z53:=sizeOf118
 v53:=zeroValue118
 t55:=underlying130
 a55:=isAgg130
 z55:=sizeOf130
 v55:=zeroValue130
 t66:=underlying196
 a66:=isAgg196
 z66:=sizeOf196
 v66:=zeroValue196
 t70:=underlying200
 a70:=isAgg200
 z70:=sizeOf200
 v70:=zeroValue200
 t76:=underlying208
 a76:=isAgg208
 z76:=sizeOf208
 v76:=zeroValue208
 t77:=underlying209
 a77:=isAgg209
 z77:=sizeOf209
 v77:=zeroValue209}
def Tryz.cmpInt_ren:Go.Shelf.Ren:=⟨fun|5=>130|7=>173|n=>n,fun|22=>3|3=>3|4=>4|n=>n,fun|n=>n⟩
def Tryz.cmpInt:Go.Proofs.SlLaysC2.n5 prog cmpInt_ren:= {
 mixed:=by kernel_rfl
 f5:=⟨f130.name,δ,func130.trans (sA some (by kernel_rfl))⟩
 f7:=⟨f173.name,δ,func173.trans (sA some (by kernel_rfl))⟩
 t3:=underlying3
 a3:=isAgg3
 z3:=sizeOf3
 v3:=zeroValue3
 t4:=underlying4
 a4:=isAgg4
 z4:=sizeOf4
 v4:=zeroValue4
 t22:=underlying3
 a22:=isAgg3
 z22:=sizeOf3
 v22:=zeroValue3}
def Tryz.sortedInt_ren:Go.Shelf.Ren:=⟨fun|6=>177|8=>198|9=>199|11=>208|13=>129|12=>209|23=>171|24=>172|14=>212|15=>213|16=>214|17=>215|18=>216|19=>217|20=>218|21=>219|22=>220|25=>222|26=>193|27=>194|28=>223|29=>224|30=>173|31=>225|n=>n,fun|26=>3|28=>182|24=>22|0=>0|3=>3|37=>151|48=>118|50=>130|4=>4|40=>169|39=>168|45=>173|5=>5|9=>9|51=>196|55=>200|57=>208|58=>209|33=>110|n=>n,fun|n=>n⟩
def Tryz.sortedInt:Go.Proofs.SlLaysZI.n6 prog sortedInt_ren:= {
 mixed:=by kernel_rfl
 f6:=⟨f177.name,δ,func177.trans (sA some (by kernel_rfl))⟩
 f8:=⟨f198.name,δ,func198.trans (sA some (by kernel_rfl))⟩
 f11:=⟨f208.name,δ,func208.trans (sA some (by kernel_rfl))⟩
 t0:=underlying0
 a0:=isAgg0
 z0:=sizeOf0
 v0:=zeroValue0
 t24:=underlying22
 a24:=isAgg22
 z24:=sizeOf22
 v24:=zeroValue22
 t26:=underlying3
 a26:=isAgg3
 z26:=sizeOf3
 v26:=zeroValue3
 t28:=underlying182
 a28:=isAgg182
 z28:=sizeOf182
 v28:=zeroValue182
 i26:=by kernel_rfl}
def Tryz.keysGo_ren:Go.Shelf.Ren:=⟨fun|10=>200|n=>n,fun|33=>110|23=>179|0=>0|4=>4|26=>3|3=>46|n=>n,fun|n=>n⟩
def Tryz.keysGo:Go.Proofs.SlLaysZI.n10 prog keysGo_ren:= {
 mixed:=by kernel_rfl
 f10:=⟨f200.name,δ,func200.trans (sA some (by kernel_rfl))⟩
 t0:=underlying0
 a0:=isAgg0
 z0:=sizeOf0
 v0:=zeroValue0
 t4:=underlying4
 a4:=isAgg4
 z4:=sizeOf4
 v4:=zeroValue4
 t23:=underlying179
 a23:=isAgg179
 z23:=sizeOf179
 v23:=zeroValue179
 t26:=underlying3
 a26:=isAgg3
 z26:=sizeOf3
 v26:=zeroValue3
 t33:=underlying110
 a33:=isAgg110
 z33:=sizeOf110
 v33:=zeroValue110}
def Tryz.sortInt_ren:Go.Shelf.Ren:=⟨fun|5=>199|8=>129|7=>209|19=>171|20=>172|10=>212|11=>213|12=>214|13=>215|14=>216|15=>217|16=>218|17=>219|18=>220|30=>222|31=>193|32=>194|33=>223|34=>224|35=>173|40=>225|n=>n,fun|23=>22|25=>3|3=>3|32=>151|22=>22|0=>0|44=>118|46=>130|4=>4|36=>169|35=>168|41=>173|5=>5|9=>9|53=>196|57=>200|63=>208|64=>209|n=>n,fun|n=>n⟩
def Tryz.sortInt:Go.Proofs.SlLaysM.n5 prog sortInt_ren:= {
 mixed:=by kernel_rfl
 f5:=⟨f199.name,δ,func199.trans (sA some (by kernel_rfl))⟩
 f7:=⟨f209.name,δ,func209.trans (sA some (by kernel_rfl))⟩
 f8:=func129.trans (sA some (by kernel_rfl))
 f10:=⟨f212.name,δ,func212.trans (sA some (by kernel_rfl))⟩
 f11:=⟨f213.name,δ,func213.trans (sA some (by kernel_rfl))⟩
 f12:=⟨f214.name,δ,func214.trans (sA some (by kernel_rfl))⟩
 f13:=⟨f215.name,δ,func215.trans (sA some (by kernel_rfl))⟩
 f14:=⟨f216.name,δ,func216.trans (sA some (by kernel_rfl))⟩
 f15:=⟨f217.name,δ,func217.trans (sA some (by kernel_rfl))⟩
 f16:=⟨f218.name,δ,func218.trans (sA some (by kernel_rfl))⟩
 f17:=⟨f219.name,δ,func219.trans (sA some (by kernel_rfl))⟩
 f18:=⟨f220.name,δ,func220.trans (sA some (by kernel_rfl))⟩
 f19:=func171.trans (sA some (by kernel_rfl))
 f20:=func172.trans (sA some (by kernel_rfl))
 f30:=⟨f222.name,δ,func222.trans (sA some (by kernel_rfl))⟩
 f31:=func193.trans (sA some (by kernel_rfl))
 f32:=func194.trans (sA some (by kernel_rfl))
 f33:=⟨f223.name,δ,func223.trans (sA some (by kernel_rfl))⟩
 f34:=⟨f224.name,δ,func224.trans (sA some (by kernel_rfl))⟩
 f35:=⟨f173.name,δ,func173.trans (sA some (by kernel_rfl))⟩
 f40:=⟨f225.name,δ,func225.trans (sA some (by kernel_rfl))⟩
 t0:=underlying0
 a0:=isAgg0
 z0:=sizeOf0
 v0:=zeroValue0
 t3:=underlying3
 a3:=isAgg3
 z3:=sizeOf3
 v3:=zeroValue3
 t4:=underlying4
 a4:=isAgg4
 z4:=sizeOf4
 v4:=zeroValue4
 t5:=underlying5
 a5:=isAgg5
 z5:=sizeOf5
 v5:=zeroValue5
 t9:=underlying9
 a9:=isAgg9
 z9:=sizeOf9
 v9:=zeroValue9
 t22:=underlying22
 a22:=isAgg22
 z22:=sizeOf22
 v22:=zeroValue22
 t23:=underlying22
 a23:=isAgg22
 z23:=sizeOf22
 v23:=zeroValue22
 t25:=underlying3
 a25:=isAgg3
 z25:=sizeOf3
 v25:=zeroValue3
 t32:=underlying151
 a32:=isAgg151
 z32:=sizeOf151
 v32:=zeroValue151
 t35:=underlying168
 a35:=isAgg168
 z35:=sizeOf168
 v35:=zeroValue168
 t36:=underlying169
 a36:=isAgg169
 z36:=sizeOf169
 v36:=zeroValue169
 t41:=underlying173
 a41:=isAgg173
 z41:=sizeOf173
 v41:=zeroValue173
 t44:=underlying118
 a44:=isAgg118
 z44:=sizeOf118
 v44:=zeroValue118
 t46:=underlying130
 a46:=isAgg130
 z46:=sizeOf130
 v46:=zeroValue130
 t53:=underlying196
 a53:=isAgg196
 z53:=sizeOf196
 v53:=zeroValue196
 t57:=underlying200
 a57:=isAgg200
 z57:=sizeOf200
 v57:=zeroValue200
 t63:=underlying208
 a63:=isAgg208
 z63:=sizeOf208
 v63:=zeroValue208
 t64:=underlying209
 a64:=isAgg209
 z64:=sizeOf209
 v64:=zeroValue209}
end Go.Proofs
namespace Go.Proofs.YtcbjamefalhfgaaGreat
open Go.Proofs.Tryz
open Go.Vc Go.Gw Go.Lib Go.Shelf
open Go.IntKind (i64)
def Zt (w:World) (o:Obj):w.alloc o= {w with heap:=w.heap.push o} :=rfl
def B4o (a b:Int) (c d:List Value) (w:World):Calls prog 144 #[.agg (.int .i64 a::c).toArray, .agg (.int .i64 b::d).toArray] w λe w'=>e= .returned (.int .i64 (Lib.compareInt a b))/\∃q h,w'=Go.Sort.grow (w.drewN q) h:=by
 have i:∀args w,(callFunc 130 args).run prog w= .ok (.enter 130 args) w:=Go.Vc.Mh (by kernel_rfl);have f:=fun(w:World)=>AnyG.cmp_Compare_int cmpInt a b w
 go_enter func144,ntmps144
 go_wp2_with (go_at_fn (130);refine(f _).mono ?_;rintro e w' ⟨rfl,g⟩;rw[g])
 go_ret
 refine⟨rfl,0, #[.cells (Value.int .i64 a::c).toArray 75, .cells (Value.int .i64 b::d).toArray 75],?_⟩;rw[Zt,Zt];simp[Go.Sort.grow,World.drewN];apply zA.1;simp
def B4n (a b:Int):Lib.compareInt a b=N4 a b:=by
 unfold Lib.compareInt N4
 (repeat' split)<;>first|rfl|omega
def C5j:B3o prog 144 tE (λa b:C8=>N4 a.1 b.1):=by
 rintro w Z c1 f x y ⟨g,c,rfl,⟨rfl,_⟩,_⟩ ⟨h,d,rfl,⟨rfl,_⟩,_⟩;have:=B4o x.1 y.1 c d w;rw[B4n]at this;exact this
def C3d:GW prog 82 (WM 144 tE 75 (λa b=>N4 a.1 b.1)):=by
 refine bL (tys:= []) (A2u (ρ:=sortEnt_ren) sortEnt (t:=tE) (e:=75) (g:=144) (φ:=λa b:C8=>N4 a.1 b.1) isAgg75 sizeOf75 (λa=>?_) (λa b c=>?_) (λa b c=>?_) (by kernel_rfl) C5j);all_goals (simp only[N4];(repeat' split)<;>omega)
def B0q (a b:Int) (c d:List Value) (w:World):Calls prog 83 #[.agg (.int .i64 a::c).toArray, .agg (.int .i64 b::d).toArray] w λe w'=>e= .returned (.int .i64 (Lib.compareInt a b))/\∃q h,w'=Go.Sort.grow (w.drewN q) h:=by
 have i:∀args w,(callFunc 130 args).run prog w= .ok (.enter 130 args) w:=Go.Vc.Mh (by kernel_rfl);have f:=fun(w:World)=>AnyG.cmp_Compare_int cmpInt a b w
 go_enter func83,ntmps83
 go_wp2_with (go_at_fn (130);refine(f _).mono ?_;rintro e w' ⟨rfl,g⟩;rw[g])
 go_ret
 refine⟨rfl,0, #[.cells (Value.int .i64 a::c).toArray 75, .cells (Value.int .i64 b::d).toArray 75],?_⟩;rw[Zt,Zt];simp[Go.Sort.grow,World.drewN];apply zA.1;simp
def C0m:B3o prog 83 tE (λa b:C8=>N4 a.1 b.1):=by
 rintro w Z c1 f x y ⟨g,c,rfl,⟨rfl,_⟩,_⟩ ⟨h,d,rfl,⟨rfl,_⟩,_⟩;have:=B0q x.1 y.1 c d w;rw[B4n]at this;exact this
def B8v:GW prog 82 (WM 83 tE 75 (λa b=>N4 a.1 b.1)):=by
 refine bL (tys:= []) (A2u (ρ:=sortEnt_ren) sortEnt (t:=tE) (e:=75) (g:=83) (φ:=λa b:C8=>N4 a.1 b.1) isAgg75 sizeOf75 (λa=>?_) (λa b c=>?_) (λa b c=>?_) (by kernel_rfl) C0m);all_goals (simp only[N4];(repeat' split)<;>omega)
def B8c (n:Int) (w:World):Calls prog 141 #[.int .i64 n] w λe w'=>e= .returned (.func (.func 142) #[] #[.pointer (some ⟨w.heap.size,0,none⟩)])/\w'=w.alloc (.cells #[.int .i64 n] 3):=by
 go_enter func141,ntmps141
 go_wp2
 go_ret
 exact⟨rfl,rfl⟩
def C6w (o:B6 prog 142 L6):GW prog 141 (B5y prog [(false, .int .i64)] false .bool (.int .i64) (λn x=>decide (x.1<0\/n<=x.1))):=by
 refine B5z ?_;rintro w Z J n ⟨A,r⟩;obtain rfl:J= .int .i64 n:=by simpa using A
 refine Calls.mono (B8c _ w) ?_;rintro _ _ ⟨rfl,rfl⟩;have z:(w.alloc (.cells #[Value.int .i64 n] 3)).heap.size=w.heap.size+1:=by simp
 refine⟨_,rfl,R7.alloc w _,(λb=>b=w.heap.size),λb a=> .inr ⟨ω,by rw[z,a];omega⟩,142,[.pointer (some ⟨w.heap.size,0,none⟩)],rfl,by kernel_rfl,?_⟩;rintro d Z1 R ⟨i,_⟩ y g F ⟨f,T,rfl,B,rfl⟩ _;have k:(w.alloc (.cells #[Value.int .i64 n] 3)).heap[w.heap.size]? =some (.cells #[Value.int .i64 n] 3 (0,0)):=by rw[Zt];simp
 have l:d.heap[w.heap.size]? =some (.cells #[Value.int .i64 n] 3 (0,0)):=(y _ rfl).trans k;have v:Ac prog d (λb=>Z1 b\/b=w.heap.size) L6.args [f, .pointer (some ⟨w.heap.size,0,none⟩)] (i,n,()):=by
  refine⟨_,_,rfl,?_,_,_,rfl,?_,rfl⟩
  . exact B
  exact⟨w.heap.size,0,[Value.int .i64 n],rfl, .inr rfl,λj I c=>by
   rcases j with _ |j
   . simp only[g2d,rF]at c;subst c;rw[K5];simp[World.cell?,l]
   simp at c,rfl,r⟩
 have:=o d (λb=>Z1 b\/b=w.heap.size) [f, .pointer (some ⟨w.heap.size,0,none⟩)] (i,n,()) (λb a=>a.elim (F b) λe=>g b e) v trivial trivial;refine Gw.dU.mono this ?_;rintro I N ⟨E,⟨H,_⟩,O,P,Zn,t,_,rfl,G,⟨M,Q,rfl,D,_,rfl⟩,_⟩;refine⟨E.ext λb a=>?_,Zn,λb a=>?_,?_⟩
 . obtain⟨p,s,_⟩:=a;cases s
 . rcases G b a with h| ⟨h,_⟩
   . exact .inl h
   cases h
 have u:H=decide (i<0\/n<=i):=t;show Bi false .bool N Zn M (decide (i<0\/n<=i));rw[<-u];exact D
open Go Go.Vc Go.Gw Go.Lib Go.Shelf Go.Maps Go.Sort Go.RowKit
open Go.WideElems (Fit)
def A9c (_:Value):Option (DataW Unit×List MemPlace):=some (.nil,[])
def C1l {P:Program} {k:TypeId} (b:P.underlying k=some (.int .i64)) {n:Int} (a:GZ .i64 n):keyOf P k (.int .i64 n)=some (.int .i64 n):=by
 refine keyOf_int_mk b ?_;unfold GZ at a;simpa[Lit.wf]using a
def C7b {P:Program} {k:TypeId} (a:P.underlying k=some (.int .i64)) {x:MapEntry} {n:Int} (c:x.key= .int .i64 n) (b:GZ .i64 n):WideElems.rd P k A9c x=some (.int .i64 n, .nil):=by
 unfold WideElems.rd;rw[c,C1l a b];rfl
def gI {w:World} {Z:Nat->Prop} {r:Bool} {d:Ty} :∀ {es:List (Int×d.den)} {l:List MapEntry},Lh w Z false (.int .i64) r d l es->∀ {P:Program} {k:TypeId},P.underlying k=some (.int .i64)->(∀x∈l,∃y,WideElems.rd P k A9c x=some y)/\l.map (WideElems.rg P k A9c)=es.map λe=>(.int .i64 e.1, .nil)
 | [],l,h,P,k,b=>by
  obtain rfl:l= []:=h;exact⟨λx a=>(by cases a),rfl⟩
 |e::es,l,h,P,k,c=>by
  obtain⟨x,s,rfl,⟨f,g⟩,_,i⟩:=h;have j:x.key= .int .i64 e.1:=by simpa using f
  have b:=C7b c j g;obtain⟨n,o⟩:=gI i c;refine⟨λy a=>?_,?_⟩
  . rcases qV.1 a with rfl|a
    . exact⟨_,b⟩
    exact n y a
  rw[rT,rT,o];congr 1;unfold WideElems.rg;rw[b];rfl
def gJ {w:World} {Z:Nat->Prop} {f:Bool} {a:Ty} :∀ {es:List (Int×a.den)} {l:List MapEntry},Lh w Z false (.int .i64) f a l es->l.map (·.key)=es.map λe=>Value.int .i64 e.1
 | [],l,h=>by obtain rfl:l= []:=h;rfl
 |e::es,l,h=>by
  obtain⟨x,i,rfl,⟨b,g⟩,_,c⟩:=h;have d:x.key= .int .i64 e.1:=by simpa using b
  rw[rT,rT,gJ c,d]
def B6y {P:Program} {k:TypeId} (t:P.underlying k=some (.int .i64)) {w:World} {b c:Nat} {a:Array MapEntry} {Z:Nat->Prop} {x:Bool} {i:Ty} {es:List (Int×i.den)} (s:w.heap[b]? =some (.map a c)) (h:MOk a c) (g:Lh w Z false (.int .i64) x i a.toList es) (u:es.length<=100000) (v:List.Nodup (α:=Int) (es.map (·.1))):
 ∃D0:DataW Unit,w.ownsMap P k A9c b a.size D0/\(intKeys D0).Perm (es.map (·.1))/\Maps.size D0=es.length:=by
 obtain⟨l,d⟩:=gI g (P:=P) t;have f:a.toList.length=es.length:=by have:=sA List.length d;simpa using this
 have o:a.toList.map (·.key)=es.map λe=>Value.int .i64 e.1:=gJ g
 refine⟨_,⟨a,c,s,⟨?_,⟨h.1,h.2,?_⟩,l⟩,qT _,rfl⟩,?_,?_⟩
 . have:a.size=es.length:=by rw[<-f];simp
   rw[this];exact qY u δ
 . rw[o];have:(es.map λe=>Value.int .i64 e.1)=(es.map (·.1)).map λn:Int=>Value.int .i64 n:=by rw[g4z];rfl
   rw[this];exact List.Pairwise.map _ (λy b r j=>r (by simpa using j)) v
 . show(List.map _ _).Perm _;refine((WideShapes.sorted_perm _).map _).trans ?_;rw[d,g4z];exact List.Perm.of_eq (g4d λe _=>rfl)
 show List.length (List.foldr _ _ _)= _;rw[(WideShapes.sorted_perm _).length_eq,sO,f]
def gH {w:World} {Z:Nat->Prop} :∀ {l:Wf},(∀n∈l,GZ .i64 n)->G8 (C9 (.int .i64) w Z) (l.map encZ) l
 | [],_=>rfl
 |n::l,h=>⟨[encZ n],l.map encZ,rfl,⟨rfl,h n rD⟩,gH λm a=>h m (qJ _ a)⟩
def B8w (m:Nat):AnyZI.SortsIn prog sortedInt_ren Fence.wide m:=
 ⟨λblk f a g W b c d=>callsIn_wide.2 (AnyM.slices_Sort_int sortInt blk f a g W b c d),
  λp a W=>callsIn_wide.2 (AnyM.slices_Sort_int_none sortInt p a W)⟩
def C1m:GW prog 177 (mB 200 3):=by
 refine A5p (tys:= []) ?_;intro w Z a1 a2 i b Y T D E r g N s t Q;obtain⟨D0,R,z,A⟩:=B6y (P:=prog) (k:=3) underlying3 g N s t Q;have G:i<w.heap.size:=r.lt;have H:w.cell? ⟨i,0,none⟩=some (.map (some b)):=by
  exact r.cell (o:=0) rfl
 have V:=AnyZI.keys_gives keysGo Fence.wide 3 trivial rfl δ i b D.size D0 w G H R;have:=AnyZI.sorted_in sortedInt Fence.wide 6 trivial trivial trivial trivial rfl δ (B8w _) (λargs w=>Go.Vc.Mh (f:=199) (by kernel_rfl) args w) 200 _ trivial (Go.Vc.Mh (by kernel_rfl)) _ _ (by rw[A];exact qY t δ) (by rw[A];omega) w V;refine Calls.mono (callsIn_wide.1 this) ?_;rintro _ B ⟨v,d,rfl,l,U,a0,F⟩;have g:Below w.heap.size w B:=F;have tr:∀a b c:Int,decide (a<=b)=true->decide (b<=c)=true->decide (a<=c)=true:=λa b c h h'=>rB (g2q (qA h) (qA h'))
 have X:∀a b:Int,(decide (a<=b) ||decide (b<=a))=true:=λa b=>by
  simp only[uD,rR];omega
 have J:∀n∈d,GZ .i64 n:=λn j=>by
  have O:n∈E.map (·.1):=z.mem_iff.1 (l.mem_iff.1 j);obtain⟨e,I,rfl⟩:=sV.1 O;obtain⟨x,_,W,_⟩:=T5.mem s I;exact W.2
 refine⟨v,rfl,Y9.of ⟨g,trivial⟩,(d.mergeSort (λx y=>decide (x<=y)),()),(),[v],(λ_=>False),⟨?_,?_⟩,λh=>(by cases h),rfl,λ_ g=>g.elim,⟨v,[],rfl,⟨(d.mergeSort (λx y=>decide (x<=y))).map encZ,?_,?_,λ_ _ h=>h⟩,λ_=>⟨⟨rfl,λh=>(by cases h)⟩,λb _ u hu=>(by cases hu)⟩,rfl⟩,trivial⟩
 . exact(g0z d _).trans (l.trans z)
 . exact(List.pairwise_mergeSort tr X d).imp λh=>qA h
 . have M:(d.mergeSort (λx y=>decide (x<=y))).length=d.length:=(g0z d _).length_eq;show B.ownsRow w.heap.size 3 1 v (d.mergeSort (λx y=>decide (x<=y))).length _;rw[M];exact U
 exact gH λn j=>J n ((g0z d _).mem_iff.1 j)
open Go.Vc Go.Gw
def H9 {P:Program} {tys:List (Nat×TI)} {sp:G9} {f:FuncId} {fn:Func} {s:A9} {a:A5 s.args->Prop} (an:An) (c:P.funcs[f]? =some fn) (j:∀x,awf s.args x->s.pre x->a x) (i:H4 P tys=true) (h:Ql P sp) (b:∀x,C7h P tys sp an s fn x=a x:=by intro x;kernel_rfl) (a:fn.body.isSome=true:=by kernel_rfl) (d:Nat.ble s.args.length fn.ntmps=true:=by kernel_rfl) (g:Cm fn.ntmps (fn.body.getD .skip)=true:=by kernel_rfl):B6 P f s:=
 B7i c a d g i h b j
def BB:B6 prog 142 L6:=H9 Zw func142 Uh A7 (A2)
def A1x:B6 prog 6 Jc:=H9 oM func6 cA A7 (A2)
def A1w:B6 prog 52 Nc:=H9 oL func52 bZ A7 (A2)
def Hf:B6 prog 19 V2:=H9 KZ func19 CM A7 (A0 A1w (A2))
def Pq:B6 prog 53 Nq:=H9 oX func53 dE A7 (A2)
def Wb:B6 prog 88 Jy:=H9 kE func88 VQ A7 (A2)
def U7:B6 prog 152 Ng:=H9 oO func152 cG A7 (A2)
def Bd:B6 prog 105 Nh:=H9 oP func105 cM A7 (A0 U7 (A2))
def TM:B6 prog 101 Ni:=H9 oQ func101 cQ A7 (A0 Bd (A2))
def TN:B6 prog 100 Nj:=H9 oR func100 cR A7 (A0 TM (A2))
def aD:B6 prog 106 Ta:=H9 A3u func106 fB A7 (A0 U7 (A2))
def aG:B6 prog 153 Fg:=H9 XK func153 OC A7 (A0 U7 (A2))
def aH:B6 prog 107 Td:=H9 A3x func107 fE A7 (A0 U7 (A0 aG (A2)))
def Pp:B6 prog 109 Ao:=H9 LF func109 CY A7 (A0 U7 (A2))
def eU:B6 prog 181 Hs:=H9 eD func181 SQ A7 (A0 U7 (A2))
def A1y:B6 prog 182 Nf:=H9 oN func182 cC A7 (A0 U7 (A2))
def A6e:B6 prog 183 Te:=H9 A3y func183 fF A7 (A2)
def HD:B6 prog 149 Hr:=H9 eC func149 SP A7 (A0 aD (A0 aH (A0 Pp (A0 U7 (A0 eU (A0 A1y (A0 A6e (A2))))))))
def A6c:B6 prog 148 Tb:=H9 A3v func148 fC A7 (A0 HD (A0 U7 (A2)))
def A6g:B6 prog 102 Ti:=H9 A4b func102 fI A7 (A0 Bd (A0 A6c (A2)))
def JF:B6 prog 56 Tg:=H9 A4a func56 fH A7 (A0 Bd (A0 aD (A0 aH (A2))))
def Mr:B6 prog 59 Fh:=H9 XL func59 OF A7 (A0 Bd (A0 Pp (A2)))
def A6f:B6 prog 150 Tf:=H9 A3z func150 fG A7 (A0 Bd (A2))
def JH:B6 prog 104 Tk:=H9 A4d func104 fK A7 (A0 Bd (A2))
def A6h:B6 prog 151 Tl:=H9 A4e func151 fL A7 (A0 JF (A0 JH (A2)))
def eV:B6 prog 103 Ht:=H9 eE func103 SR A7 (A0 JF (A0 Mr (A0 Bd (A0 HD (A0 A6f (A0 A6h (A2)))))))
def Dd:B6 prog 55 Nk:=H9 oS func55 cW A7 (A0 Pq (A0 Wb (A0 TN (A0 TM (A0 A6g (A0 eV (A0 JH (A2))))))))
def De:B6 prog 48 Nl:=H9 oT func48 cZ A7 (A0 Dd (A2))
def Gf:B6 prog 64 Np:=H9 oW func64 dC A7 (A0 De (A0 TN (A2)))
def A6d:B6 prog 108 Tc:=H9 A3w func108 fD A7 (A0 U7 (A2))
def JG:B6 prog 57 Tj:=H9 A4c func57 fJ A7 (A0 Bd (A0 A6d (A2)))
def Wd:B6 prog 58 Tr:=H9 A4k func58 fR A7 (A0 De (A2))
def Wc:B6 prog 22 Lz:=H9 A4f func22 fM A7 (A0 De (A0 Dd (A0 JF (A0 JG (A0 Wd (A2))))))
def aL:B6 prog 99 Ts:=H9 A4l func99 fS A7 (A0 Wc (A0 Pq (A2)))
def aM:B6 prog 147 Fj:=H9 XO func147 OK A7 (A2)
def TO:B6 prog 98 Nr:=H9 oY func98 dH A7 (A0 Gf (A0 aL (A0 aM (A2))))
def RR:B6 prog 60 Ca:=H9 PL func60 GP A7 (A0 TO (A2))
def Gg:B6 prog 24 Jd:=H9 oZ func24 dI A7 (A0 RR (A2))
def B1x:B6 prog 61 BN:=H9 B0i func61 nU A7 (A0 Dd (A0 Mr (A2)))
def RP:B6 prog 25 Bv:=H9 PF func25 GM A7 (A0 Hf (A0 B1x (A2)))
def GC:B6 prog 20 Q8:=H9 FN func20 Ww A7 (A0 Hf (A0 Gg (A0 RP (A0 Pq (A2)))))
def Hh:B6 prog 23 Ck:=H9 XN func23 OI A7 (A0 Dd (A0 Mr (A2)))
def MN:B6 prog 92 Kb:=H9 kI func92 VU A7 (A0 Gf (A2))
def MK:B6 prog 54 Gi:=H9 kH func54 VT A7 (A0 MN (A0 TO (A0 aL (A2))))
def aA:B6 prog 5 Fa:=H9 (sp:=bM) XE func5 NW Jm (A0 A1x (A0 Hf (A0 GC (A0 Wc (A0 Hh (A0 Gg (S5 (Iw (cx:=⟨prog,nS⟩) (fn:=f21) (c:=f21.body.getD .skip) func21 (by kernel_rfl) (by kernel_rfl) Jm (J7 (A0 MK (A2)) (U9))) (A2))))))))
def ZZ:B6 prog 8 Ez:=H9 XD func8 NV A7 (A2)
def Pn:B6 prog 70 V3:=H9 LA func70 CN A7 (A2)
def I7:B6 prog 162 Cj:=H9 XJ func162 OB A7 (A2)
def N5:B6 prog 155 Y1:=H9 HZ func155 Zh A7 (A0 I7 (A2))
def X4:B6 prog 120 Av:=H9 LH func120 DK A7 (A0 N5 (A2))
def Xe:B6 prog 135 Dl:=H9 UO func135 KA A7 (A0 N5 (A2))
def K8:B6 prog 90 X1:=H9 PP func90 GU A7 (A0 X4 (A0 Xe (A2)))
def La:B6 prog 112 W1:=H9 FU func112 Xb A7 (A2)
def VM:B6 prog 71 Dt:=H9 VB func71 KO A7 (A0 K8 (A0 La (A2)))
def P8:B6 prog 30 N1:=H9 UQ func30 KC A7 (A0 Pn (A0 VM (A2)))
def X3:B6 prog 126 Aj:=H9 KX func126 CH A7 (A2)
def M6:B6 prog 127 S2:=H9 Yi func127 Ro A7 (A0 I7 (A2))
def JB:B6 prog 80 X9:=H9 HY func80 Zg A7 (A0 X3 (A0 M6 (A2)))
def T9:B6 prog 34 Q9:=H9 FR func34 Wz A7 (A0 JB (A2))
def Ku:B6 prog 113 Du:=H9 VC func113 KP A7 (A0 K8 (A2))
def RN:B6 prog 173 Bt:=H9 PD func173 GI A7 (A2)
def Mp:B6 prog 130 X6:=H9 HV func130 Zd A7 (A0 RN (A2))
def MQ:B6 prog 83 Az:=H9 LN func83 DU A7 (A0 Mp (A2))
def Kr:B6 prog 187 Dp:=H9 US func187 KE A7 (A2)
def MI:B6 prog 157 Al:=H9 LD func157 CU A7 (A0 I7 (A0 Kr (A2)))
def Cq:B6 prog 118 Aw:=H9 LI func118 DL A7 (A0 MI (A2))
def Df:B6 prog 119 U4:=H9 Zx func119 Uo A7 (A0 M6 (A2))
def Bn:B6 prog 159 Dn:=H9 UR func159 KD A7 (A0 I7 (A2))
def VH:B6 prog 158 Dk:=H9 UN func158 JZ A7 (A0 X3 (A0 Bn (A2)))
def So:B6 prog 190 P4:=H9 Ry func190 Oe A7 (A0 M6 (A0 I7 (A2)))
def eN:B6 prog 171 Hn:=H9 dW func171 SJ A7 (A2)
def He:B6 prog 202 M7:=H9 Us func202 Oz A7 (A0 eN (A2))
def JE:B6 prog 204 S8:=H9 IC func204 Zk A7 (A2)
def Yr:B6 prog 206 O2:=H9 Yj func206 Rp A7 (A0 I7 (A2))
def Ys:B6 prog 191 S3:=H9 (sp:=Yy) Yk func191 Rq A7 (A0 I7 (A0 He (A0 JE (A0 Yr (S5 (Iw (cx:=⟨prog,tys⟩) (fn:=f205) (c:=f205.body.getD .skip) func205 (by kernel_rfl) (by kernel_rfl) A7 (J7 (A2) (U9))) (A2))))))
def Po:B6 prog 161 Ak:=H9 LB func161 CP A7 (A0 M6 (A0 N5 (A0 Bn (A0 I7 (A0 Kr (A0 So (A0 Ys (A2))))))))
def GD:B6 prog 211 V7:=H9 FP func211 Wx A7 (A2)
def MJ:B6 prog 203 Am:=H9 LE func203 CW A7 (A0 GD (A2))
def JD:B6 prog 188 Y3:=H9 IB func188 Zj A7 (A0 He (A0 MJ (A2)))
def Hg:B6 prog 123 Fe:=H9 XH func123 NZ A7 (A0 I7 (A2))
def BC:B6 prog 186 Ff:=H9 XI func186 OA A7 (A0 N5 (A0 I7 (A2)))
def JC:B6 prog 189 Y2:=H9 IA func189 Zi A7 (A0 Hg (A0 M6 (A0 BC (A2))))
def aC:B6 prog 160 Fc:=H9 XG func160 NY A7 (A0 M6 (A0 N5 (A0 Bn (A0 Po (A0 I7 (A0 Kr (A0 JD (A0 JC (A2)))))))))
def Fv:B6 prog 121 Y7:=H9 IG func121 Zp A7 (A0 VH (A0 Bn (A0 aC (A0 Po (A2)))))
def Q7:B6 prog 116 T3:=H9 PO func116 GT A7 (A0 Cq (A0 Df (A0 X4 (A0 Fv (A2)))))
def Mq:B6 prog 122 Ew:=H9 XA func122 NS A7 (A0 Hg (A0 X3 (A2)))
def aB:B6 prog 185 Fb:=H9 XF func185 NX A7 (A0 I7 (A2))
def ZW:B6 prog 156 Ev:=H9 WZ func156 NQ A7 (A0 X3 (A0 aB (A0 BC (A2))))
def Bp:B6 prog 117 Aq:=H9 UU func117 KG A7 (A0 K8 (A0 Q7 (A0 Cq (A0 Df (A0 X4 (A0 Fv (A0 Mq (A0 Hg (A0 N5 (A0 ZW (A2)))))))))))
def Er:B6 prog 163 G1:=H9 En func163 Cy A7 (A2)
def Ie:B6 prog 201 Je:=A1l λ_ h=>h
def Jv:B6 prog 184 I8:=H9 Jo func184 Hy A7 (A0 Er (A0 Ie (A2)))
def Ee:B6 prog 154 F7:=H9 Dw func154 Co A7 (A0 Jv (A2))
def Hi:B6 prog 114 Ay:=H9 LM func114 DT A7 (A0 MQ (A0 La (A0 Bp (A0 Ee (A2)))))
def RX:B6 prog 115 Cd:=H9 PQ func115 GV A7 (A0 Q7 (A2))
def BD:B6 prog 72 Cl:=H9 XR func72 OT A7 (A0 Ku (A0 Hi (A0 RX (A2))))
def Sq:B6 prog 81 P5:=H9 Rz func81 Oo A7 (A2)
def Pr:B6 prog 35 R0:=H9 LK func35 DR A7 (A0 BD (A0 Sq (S5 B8v (A2))))
def VJ:B6 prog 75 Au:=H9 UW func75 KI A7 (A0 K8 (A0 Q7 (A2)))
def eW:B6 prog 76 Eh:=H9 eF func76 SS A7 (A0 T9 (A0 Bp (A2)))
def X0:B6 prog 77 V9:=H9 UX func77 KJ A7 (A0 Cq (A0 Df (A0 X4 (A0 Fv (A0 Mq (A0 Hg (A2)))))))
def Yt:B6 prog 124 S4:=H9 Yl func124 Rr A7 (A0 X0 (A0 K8 (A0 Q7 (A0 Bp (A2)))))
def Kz:B6 prog 78 N7:=H9 FT func78 Xa A7 (A0 Ku (A0 Hi (A0 Yt (A2))))
def ZX:B6 prog 125 Ex:=H9 XB func125 NT A7 (A0 X3 (A0 Bn (A2)))
def Ks:B6 prog 79 W0:=H9 UY func79 KL A7 (A0 Q7 (A0 ZX (A2)))
def Ix:B6 prog 10 T2:=H9 (sp:=Tv) Ru func10 GK FF (A0 P8 (A0 T9 (A0 Pr (S5 (Iw (cx:=⟨prog,VP⟩) (fn:=f31) (c:=f31.body.getD .skip) func31 (by kernel_rfl) (by kernel_rfl) FF (J7 (A0 BD (A2)) (U9))) (S5 (Iw (cx:=⟨prog,VP⟩) (fn:=f32) (c:=f32.body.getD .skip) func32 (by kernel_rfl) (by kernel_rfl) FF (J7 (S5 (Iw (cx:=⟨prog,VP⟩) (fn:=f73) (c:=f73.body.getD .skip) func73 (by kernel_rfl) (by kernel_rfl) FF (J7 (A2) (J7 (A2) (J7 (A2) (J7 (A2) (U9)))))) (A2)) (U9))) (S5 (Iw (cx:=⟨prog,VP⟩) (fn:=f33) (c:=f33.body.getD .skip) func33 (by kernel_rfl) (by kernel_rfl) FF (J7 (A0 VJ (A0 eW (A0 X0 (A0 Kz (A0 Ks (S5 (Iw (cx:=⟨prog,VP⟩) (fn:=f74) (c:=f74.body.getD .skip) func74 (by kernel_rfl) (by kernel_rfl) FF (J7 (A2) (J7 (A2) (U9)))) (A2))))))) (U9))) (A2))))))) GJ
def Sn:B6 prog 132 P3:=H9 Rx func132 Nz A7 (A2)
def Vz:B6 prog 133 Q4:=H9 Uy func133 Pa A7 (A0 P8 (A2))
def IZ:B6 prog 197 X7:=H9 HW func197 Ze A7 (A2)
def BA:B6 prog 174 U2:=H9 Zu func174 Uc A7 (A0 IZ (A2))
def JA:B6 prog 175 X8:=H9 HX func175 Zf A7 (A0 Xe (A0 N5 (A2)))
def Ky:B6 prog 134 V8:=H9 FQ func134 Wy A7 (A0 K8 (A0 Cq (A0 X4 (A0 Mq (A0 Mp (A0 BA (A0 JA (A2))))))))
def Ju:B6 prog 89 U3:=H9 Zv func89 Ud A7 (A0 T9 (A0 Sn (A0 Vz (A0 Ky (A2)))))
def MG:B6 prog 41 Ah:=H9 KV func41 BZ A7 (A0 Ju (A2))
def VK:B6 prog 91 Dr:=H9 UZ func91 KM A7 (A0 Bp (A2))
def ZV:B6 prog 42 Eu:=H9 WY func42 NP A7 (A0 X0 (A0 K8 (A0 VK (A2))))
def Xf:B6 prog 43 Ar:=H9 UV func43 KH A7 (A0 X0 (A0 K8 (A2)))
def VF:B6 prog 12 Di:=H9 UL func12 JX A7 (A0 MG (A0 ZV (A0 Xf (A2))))
def mQ:B6 prog 87 Jz:=H9 kF func87 VR A7 (A0 Wb (A2))
def Ls:B6 prog 39 Ka:=H9 kG func39 VS A7 (A0 mQ (A0 Wb (A2)))
def Sp:B6 prog 47 Bz:=H9 PK func47 GO A7 (A0 Ls (A0 De (A2)))
def A2a:B6 prog 16 Nn:=H9 oV func16 dB A7 (A0 Ls (A0 Sp (A2)))
def VG:B6 prog 84 Dj:=H9 UM func84 JY A7 (A2)
def eO:B6 prog 36 Ho:=H9 dX func36 SL A7 (A0 Ix (A0 T9 (A0 X0 (A0 Ks (A0 VG (A2))))))
def eP:B6 prog 37 Hp:=H9 dY func37 SN A7 (A0 Hh (A0 Gg (A2)))
def Yp:B6 prog 85 O0:=H9 (sp:=Yw) Yg func85 Rm Jm (A0 Pr (S5 (Iw (cx:=⟨prog,nS⟩) (fn:=f131) (c:=f131.body.getD .skip) func131 (by kernel_rfl) (by kernel_rfl) Jm (J7 (A0 P8 (A0 Q7 (S5 (Iw (cx:=⟨prog,nS⟩) (fn:=f139) (c:=f139.body.getD .skip) func139 (by kernel_rfl) (by kernel_rfl) Jm (J7 (A2) (U9))) (A2)))) (U9))) (A2)))
def Yo:B6 prog 38 S1:=H9 (sp:=Yv) Yf func38 Rl A7 (A0 P8 (A0 Yp (S5 (Iw (cx:=⟨prog,tys⟩) (fn:=f86) (c:=f86.body.getD .skip) func86 (by kernel_rfl) (by kernel_rfl) A7 (J7 (A0 Xf (A0 Kz (A0 Ks (A2)))) (U9))) (A2))))
def MH:B6 prog 40 Ai:=H9 KW func40 CC A7 (A2)
def ZY:B6 prog 11 Ey:=H9 XC func11 NU A7 (A0 Ix (A0 VF (A0 A2a (A0 Hh (A0 eO (A0 eP (A0 Yo (A0 Ls (A0 MH (A2))))))))))
def Ed:B6 prog 44 Ke:=H9 kL func44 VX A7 (A0 MN (A2))
def Bo:B6 prog 21 Dq:=H9 UT func21 KF A7 (A0 MK (A2))
def A6j:B6 prog 110 Tp:=H9 A4i func110 fP A7 (A0 De (A0 Dd (A0 Wd (A0 JH (A2)))))
def aK:B6 prog 67 Tq:=H9 A4j func67 fQ A7 (A0 Wc (A0 A6j (A2)))
def aJ:B6 prog 68 Tn:=H9 A4h func68 fO A7 (A0 De (A0 Dd (A0 JG (A0 Wd (A2)))))
def A6i:B6 prog 111 Tm:=H9 A4g func111 fN A7 (A0 De (A0 Dd (A0 JG (A0 Wd (A0 Gf (A2))))))
def A1z:B6 prog 69 Nm:=H9 oU func69 dA A7 (A0 A6i (A2))
def aO:B6 prog 66 Fo:=H9 XQ func66 OR Jm (A0 Gf (A0 aK (A0 aJ (A0 A1z (A2)))))
def JK:B6 prog 136 Y6:=H9 IF func136 Zo A7 (A0 Bo (A0 Ed (A0 aO (A2))))
def A2b:B6 prog 93 Ns:=H9 pA func93 dK A7 (A0 JK (A2))
def JJ:B6 prog 49 Y5:=H9 IE func49 Zm A7 (A0 Ed (A0 A2b (A2)))
def JI:B6 prog 62 Y4:=H9 ID func62 Zl A7 (A2)
def aI:B6 prog 63 Fi:=H9 XM func63 OG A7 (A0 Gf (A0 aK (A2)))
def MO:B6 prog 26 Ap:=H9 LG func26 DI A7 (A0 Bo (A0 Hh (A0 Ed (A0 JI (A0 aI (A0 Gf (A2)))))))
def A6k:B6 prog 65 Tt:=H9 A4m func65 fT Jm (A0 Bo (A0 Wc (A0 Gg (A0 Ed (A0 Pq (A0 aJ (A2)))))))
def aN:B6 prog 27 Fl:=H9 XP func27 OQ Jm (A0 Bo (A0 Gg (A0 A6k (A2))))
def RU:B6 prog 176 Cb:=H9 PM func176 GQ A7 (A0 Ls (A0 Sp (A2)))
def RV:B6 prog 137 Cc:=H9 PN func137 GR A7 (A0 RU (A2))
def mR:B6 prog 138 Kc:=H9 kJ func138 VV A7 (A0 Bo (A0 Gg (A2)))
def mS:B6 prog 94 Kd:=H9 kK func94 VW A7 (A0 Ed (A0 RV (A0 mR (A2))))
def mT:B6 prog 50 Kf:=H9 kM func50 VY A7 (A0 MO (A0 aN (A0 Ed (A0 mS (A2)))))
def Yq:B6 prog 140 O1:=H9 (sp:=Yx) Yh func140 Rn A7 (A0 X0 (A0 K8 (A0 Bp (S5 C1m (S5 (Iw (cx:=⟨prog,tys⟩) (fn:=f178) (c:=f178.body.getD .skip) func178 (by kernel_rfl) (by kernel_rfl) A7 (J7 (A2) (U9))) (A2))))))
def eQ:B6 prog 95 Hq:=H9 (sp:=eY) dZ func95 SO A7 (A0 P8 (A0 Yq (S5 (Iw (cx:=⟨prog,tys⟩) (fn:=f139) (c:=f139.body.getD .skip) func139 (by kernel_rfl) (by kernel_rfl) A7 (J7 (A2) (U9))) (A2))))
def Kt:B6 prog 179 J4:=H9 Kn func179 Ig A7 (A2)
def Ic:B6 prog 143 G3:=H9 Ib func143 Fx A7 (A0 Kt (A2))
def RQ:B6 prog 96 Bw:=H9 (sp:=SE) PH func96 GN Jm (A0 P8 (A0 Pn (S5 C3d (A0 Q7 (S5 (C6w BB) (A0 Ic (S5 (Iw (cx:=⟨prog,nS⟩) (fn:=f139) (c:=f139.body.getD .skip) func139 (by kernel_rfl) (by kernel_rfl) Jm (J7 (A2) (U9))) (A2))))))))
def W6:B6 prog 145 D5:=H9 W4 func145 U6 A7 (A2)
def MP:B6 prog 180 Ax:=H9 LJ func180 DN A7 (A0 T9 (A0 Ky (A2)))
def VL:B6 prog 146 Ds:=H9 VA func146 KN A7 (A0 Ku (A0 Hi (A0 MP (A2))))
def VI:B6 prog 97 Dm:=H9 UP func97 KB A7 (A0 P8 (A0 W6 (A0 VL (A2))))
def VE:B6 prog 51 Dh:=H9 UK func51 JW A7 (A0 P8 (A0 Ju (A0 eQ (A0 RQ (A0 VI (A2))))))
def RO:B6 prog 18 Bu:=H9 PE func18 GL A7 (A0 Ix (A0 JJ (A0 mT (A0 VE (A2)))))
def Wa:B6 prog 4 E3:=H9 Uz func4 Pb A7 (A0 aA (A0 ZZ (A0 ZY (A0 RO (A2)))))
def A7y {t:Ty} {l:List t.den} {x:t.den} (h:x∈l):II t x+1<=II (.sl t) l:=by
 simp only[II]
 induction l with
 |nil=>cases h
 |cons y r a=>
  simp only[rT,g4j];cases qV.1 h with
  |inl e=>subst e;omega
  |inr e=>have:=a e;omega
def A7x {t:Ty} (a:∀x,1<=II t x) (l:List t.den):l.length+1<=II (.sl t) l:=by
 simp only[II]
 induction l with
 |nil=>simp
 |cons y r b=>simp only[rT,g4j,rH];have:=a y;omega
def C5f {k:Nat} {x:C6} (h:II tQ x<=k):sz k x:=by
 have a:=A7x (t:= .int .u32) (λ_=>qT _) x.1.2;have a:=A7x (t:= .int .u32) (λ_=>qT _) x.2;have h:II .bool x.1.1+II (.sl (.int .u32)) x.1.2+II (.sl (.int .u32)) x.2<=k:=h;exact⟨ω,ω⟩
def C0k {k:Nat} {m:J6} (h:II tM m<=k):J1 k m:=λv b e a=>C5f (by
 have h:1+(1+II (.sl (.sl tE)) m.2.2)<=k:=h;have c:=A7y (t:= .sl tE) b;have b:=A7y (t:=tE) a;have a:II tE e=1+II tQ e.2:=rfl;omega)
def MY (x:A5 E3.args) (h:A7w E3.args x<=1048576):E3.pre x:=by
 obtain⟨m,l,u⟩:=x;have h:II tM m+(II (.sl (.int .i64)) l+0)<=1048576:=h;have a:J1 1048576 m:=C0k ω;exact a
end Go.Proofs.YtcbjamefalhfgaaGreat
