/- Part. -/
import Derived.Shelf.SlSortCmp.NoneTotal
import Derived.Lib.QuietBelow
import Derived.Shelf.SlGeneric
import Derived.Shelf.SlicesG.Cmp
import Derived.Ground.SlsfProg
import Derived.Shelf.SlIterI.Sorted
import Derived.Shelf.SortM.Plain
import Derived.Shelf.SortM.SortNone
import Derived.Ground.GgzProg
import Derived.Ground.SlgmProg
import Derived.Ground.SlgcProg
import Derived.Test.YtdbnghliccifcaaGreatProg
import Derived.Test.YtdbnghliccifcaaGreatKLI
set_option linter.all false
namespace Go.Proofs.YtdbnghliccifcaaGreat
open Go.Proofs.Tryz
open Go.Vc Go.Gw
open Go.IntKind (i64)
def A6p {n:Nat} {A B:Nat->Nat->Rat} (h:∀i j,i<n->j<n->A i j=B i j) (b:nonsing n A):nonsing n B:=λx c=>b x λi a=>by
 rw[<-c i a];exact B6 λj b=>by rw[h i j a b]
def C2q {M:G9} {s:Nat} (b:A4 M) (f:1<=s) (g:N4 s M) (a:rY s M.1.toNat<=268435456):∃s,1<=s/\s<=134217728/\N4 s M/\rY s M.1.toNat<=268435456:=by
 by_cases c:M.1.toNat=0
 . refine⟨1,δ,δ,λv h=>?_,by rw[c];decide⟩;have d:=b.2.2.2.2.1;have i:=b.1;rw[qN (l:=M.2.2) ω]at h;cases h
 have d:=(B5q (s:=s) (n:=M.1.toNat) ω).1;unfold rY at a;exact⟨s,f,ω,g,a⟩
def B9n {s a n:Nat} (h:a<=n):rY s a<=rY s n:=by
 have:=VR (s:=s) h (ω:a+1<=n+1);unfold rY;omega
def prt (M:G9) (P Q:Wf) (r c:Int) (D:List (List D5)):Prop:=Ep P.length Q.length (Hy M P Q) (r,c,D)
set_option maxHeartbeats 4000000 in
def Oi:su Q5 Hr:=λx b2 bx=>by
 have cb:K1=549755813888:=rfl;have cc:K0=1073741824:=rfl;obtain⟨(M:G9),(H7:Wf),_⟩:=x;obtain⟨cj,b1,bz,bb,aw⟩:A2j M:=bx;have bv:LR M:=Oo b2.1.2.2.2;have ce:H7.length<=9223372036854775807:=b2.2.1.1;simp only[Hr,iB,N2,Jp];refine⟨trivial,?_⟩;rintro⟨r,_⟩ _ Y;simp only at Y|-;by_cases d:A4 M
 rotate_left
 . have Y:r=false:=by rw[Y];exact rC d
   rw[Y];exact⟨λ_=>⟨⟨λ_=>⟨rfl,rfl⟩,λh=>absurd h d⟩⟩,λh=>(by cases h)⟩
 have Y:r=true:=by rw[Y];exact rA d
 rw[Y];refine⟨λh=>(by cases h),λ_=>⟨λh=>?_,λh=>?_⟩⟩
 . have h:=qA h;exact⟨⟨λf=>absurd d f,λ_=>⟨λ_=>⟨rfl,rfl⟩,λI=>absurd I h⟩⟩⟩
 have a9:M.1=M.2.1:=sF.1 (qB h);obtain⟨cg,au⟩:=aw d a9;obtain⟨t,Z,ch,ba,bp⟩:=C2q d b1 bb au;clear b1 bz bb aw au;have bo:0<=M.1:=d.1;have cd:M.1=(M.1.toNat:Int):=ω
 have ak:∀ {e:Int},(Rc M H7 ([],(0,0,[]),0,0,[]) e)↔C6p M H7 zR e:=⟨λh=>h.s,λh=>⟨h⟩⟩;refine⟨λp=>0<=p.1/\p.1<=(H7.length:Int)/\∀n∈H7.take p.1.toNat,0<=n/\n<M.1,λp=>((H7.length:Int)-p.1).toNat,⟨qG _,qF _,λn y=>(by cases y)⟩,?_⟩;rintro⟨(i:Int),_⟩ _ ⟨O,aa,X⟩;simp only at O aa X|-;refine⟨λh=>?_,λh=>?_⟩
 . have h:=qA h;rw[K6 O h,H3];have g:H7.getD i.toNat 0∈H7:=C6 ω;refine⟨⟨O,h⟩,λk=>?_,λk=>?_⟩
   . simp only[tX,rU]at k;exact ak.2 ⟨λf=>absurd d f,λ_=>⟨λI=>absurd a9 I,λ_=>⟨λ_=>⟨rfl,rfl⟩,λae=>by have:=ae _ g;omega⟩⟩⟩
   simp only[rE,rM]at k;rw[wv ω];refine⟨⟨ω,ω,λn y=>?_⟩,ω⟩;rw[(ω:(i+1).toNat=i.toNat+1),rP,qM ω]at y;rcases qU.1 y with y|y
   . exact X n y
   have:n=H7.getD i.toNat 0:=by rw[G6 _ _ ω];simpa using y
   rw[this];omega
 have h:=qB h;rw[qP ω]at X;clear O aa h;refine⟨⟨bo,qG _,ω,ω⟩,?_⟩;refine⟨λp=>0<=p.1/\p.1<=(H7.length:Int)/\p.2.1.length=M.1.toNat/\(H7.take p.1.toNat).Nodup/\∀U,U<M.1.toNat->p.2.1.getD U false=decide ((U:Int)∈H7.take p.1.toNat),λp=>((H7.length:Int)-p.1).toNat,⟨qG _,qF _,rG,wT,λU J=>?_⟩,?_⟩
 . rw[qE,uD,qR J];exact(rC λk=>by cases k).symm
 rintro⟨(i:Int),(S:List Bool),_⟩ _ ⟨O,aa,sl,a7,a0⟩;simp only at O aa sl a7 a0|-;refine⟨λh=>?_,λh=>?_⟩
 . have h:=qA h;have g:H7.getD i.toNat 0∈H7:=C6 ω;have y:=X _ g;rw[K6 O h];have aq:H7.take (i+1).toNat=H7.take i.toNat++ [H7.getD i.toNat 0]:=by
    rw[(ω:(i+1).toNat=i.toNat+1),rP,qM ω,G6 _ _ ω];rfl
   generalize H7.getD i.toNat 0=n at*;have an:=a0 n.toNat ω;rw[(ω:((n.toNat:Nat):Int)=n)]at an;refine⟨⟨O,h⟩,⟨y.1,ω⟩,λv=>?_,λv=>⟨⟨y.1,ω⟩,?_⟩⟩
   . rw[an]at v;have ao:=qA v;refine ak.2 ⟨λf=>absurd d f,λ_=>⟨λI=>absurd a9 I,λ_=>⟨fun⟨a4,hg',ae⟩=>by have:=X a4 hg';omega,λ_=>⟨λ_=>⟨rfl,rfl⟩,λa5=>?_⟩⟩⟩⟩;have W:(H7.take (i+1).toNat).Nodup:=a5.sublist (g4m _ _);rw[aq,sZ]at W;exact absurd rfl (W.2.2 n ao n (wV _))
   rw[an]at v;have ao:=qB v;rw[wv ω];refine⟨⟨ω,ω,by rw[qT];exact sl,?_,λU J=>?_⟩,ω⟩
   . rw[aq,sZ];exact⟨a7,wD _ _,λa a6 V N e=>by rw[qJ.1 N]at e;exact ao (e▸a6)⟩
   rw[aq];by_cases av:U=n.toNat
   . subst av;rw[C1 ω];exact(rA (sQ _ (by rw[(ω:((n.toNat:Nat):Int)=n)];exact wV _))).symm
   rw[E5 av,a0 U J];refine vR.2 ⟨λk=>sE _ k,λk=>?_⟩;rcases qU.1 k with k|k
   . exact k
   have:=qJ.1 k;omega
 have h:=qB h;rw[qP ω]at a7 a0;clear O aa h;refine⟨by rw[sl];omega,?_⟩;rintro⟨(G:Wf),(K:Wf),_⟩ _ ⟨hG,R⟩;simp only at hG R|-;have hG:G=Eu M H7:=by rw[hG,sl];exact DT λi c=>a0 i c
 have R:K=oX M H7:=by rw[R,sl];exact DT λi c=>by rw[a0 i c];rfl
 have cf:G.length+K.length=M.1.toNat:=by rw[hG,R];exact Om _ _
 have ag:∀i∈G,0<=i/\i<M.1:=λi c=>by rw[hG]at c;have:=Gx.1 c;omega
 have ah:∀i∈K,0<=i/\i<M.1:=λi c=>by rw[R]at c;have:=Gx.1 c;omega
 have b7:G.Nodup:=by rw[hG];exact Rq _ _
 have b8:K.Nodup:=by rw[R];exact Rq _ _
 have ai:N4 K1 M:=λa2 d e b=>G4 (ba a2 d e b) ω
 have a8:∀i j,qs t (el M i j):=λi j=>XJ d bv ba Z i j
 have bn:∀ {r:Kf},nonsing G.length (Hy M G G)->ZU M G K r->Rc M H7 r 0:=λT h=>⟨⟨λf=>absurd d f,λ_=>⟨λI=>absurd a9 I,λ_=>⟨fun⟨a4,hg',ae⟩=>by have:=X a4 hg';omega,λ_=>⟨λa5=>absurd a7 a5,λ_=>⟨λW=>absurd (by rw[<-hG];exact T) W,λ_=>⟨by rw[<-hG, <-R];exact h,rfl⟩⟩⟩⟩⟩⟩⟩
 have c3:¬nonsing G.length (Hy M G G)->Rc M H7 ([],(0,0,[]),0,0,[]) 6:=λT=>ak.2 ⟨λf=>absurd d f,λ_=>⟨λI=>absurd a9 I,λ_=>⟨fun⟨a4,hg',ae⟩=>by have:=X a4 hg';omega,λ_=>⟨λa5=>absurd a7 a5,λ_=>⟨λ_=>⟨rfl,rfl⟩,λW=>absurd (by rw[<-hG]at W;exact W) T⟩⟩⟩⟩⟩
 clear a0 hG R sl;have aj:∀ {P Q:Wf},(∀i∈P,0<=i/\i<M.1)->(∀i∈Q,0<=i/\i<M.1)->P.length<=1000->Q.length<=1000->∀ {r:G9} {e:Int},((¬A4 M->r=zm/\e=1)/\(A4 M->(((∃i∈P,i<0\/M.1<=i)\/∃i∈Q,i<0\/M.2.1<=i)->r=zm/\e=3)/\(¬((∃i∈P,i<0\/M.1<=i)\/∃i∈Q,i<0\/M.2.1<=i)->((16384<P.length\/16384<Q.length)->r=zm/\e=8)/\(P.length<=16384/\Q.length<=16384->Ep P.length Q.length (λi j=>el M (P.getD i 0).toNat (Q.getD j 0).toNat) r/\e=0))))->Ep P.length Q.length (Hy M P Q) r/\e=0:=λhP hQ lP lQ r e h=>by
  have:=((h.2 d).2 (λk=>by
   rcases k with⟨i,c,h⟩ | ⟨i,c,h⟩
   . have:=hP i c;omega
   have:=hQ i c;omega)).2 ⟨ω,ω⟩
  exact this
 refine⟨λp=>0<=p.1/\p.1<=4/\(0<p.1->prt M G G p.2.1 p.2.2.1 p.2.2.2.1)/\(1<p.1->prt M G K p.2.2.2.2.1 p.2.2.2.2.2.1 p.2.2.2.2.2.2.1)/\(2<p.1->prt M K G p.2.2.2.2.2.2.2.1 p.2.2.2.2.2.2.2.2.1 p.2.2.2.2.2.2.2.2.2.1)/\(3<p.1->prt M K K p.2.2.2.2.2.2.2.2.2.2.1 p.2.2.2.2.2.2.2.2.2.2.2.1 p.2.2.2.2.2.2.2.2.2.2.2.2.1),λp=>(4-p.1).toNat,⟨qG _,δ,λh=>absurd h δ,λh=>absurd h δ,λh=>absurd h δ,λh=>absurd h δ⟩,?_⟩;rintro⟨(V:Int),(a3:Int),(ab:Int),D0,(ar:Int),(c1:Int),D1,(a1:Int),(H:Int),D2,(o:Int),(l:Int),D3,_⟩ _ ⟨b9,c0,A,D,w,E⟩;change List (List D5)at D0 D1 D2 D3;simp only at b9 c0 A D w E|-;refine⟨λh=>?_,λh=>?_⟩
 . have h:=qA h;refine⟨λp=>p.1=V/\(0<V+1->prt M G G p.2.1 p.2.2.1 p.2.2.2.1)/\(1<V+1->prt M G K p.2.2.2.2.1 p.2.2.2.2.2.1 p.2.2.2.2.2.2.1)/\(2<V+1->prt M K G p.2.2.2.2.2.2.2.1 p.2.2.2.2.2.2.2.2.1 p.2.2.2.2.2.2.2.2.2.1)/\(3<V+1->prt M K K p.2.2.2.2.2.2.2.2.2.2.1 p.2.2.2.2.2.2.2.2.2.2.2.1 p.2.2.2.2.2.2.2.2.2.2.2.2.1),⟨⟨b9,h⟩,⟨⟨⟨trivial,λN=>?_⟩,λN=>?_⟩,λN=>?_⟩,λN=>?_⟩,?_⟩
   . refine⟨⟨δ,δ⟩,⟨δ,δ⟩,⟨δ,δ⟩,⟨ai,ω,ω,b7⟩,?_⟩;rintro⟨m,e,_⟩ _ g;obtain⟨z,b⟩:=aj ag ag ω ω g;simp only at z b|-;subst b N;exact⟨λh=>absurd rfl (qA h),λ_=>⟨⟨δ,δ⟩,rfl,λ_=>z,λh=>absurd h δ,λh=>absurd h δ,λh=>absurd h δ⟩⟩
   . refine⟨⟨δ,δ⟩,⟨δ,δ⟩,⟨δ,δ⟩,⟨ai,ω,ω,b8⟩,?_⟩;rintro⟨m,e,_⟩ _ g;obtain⟨z,b⟩:=aj ag ah ω ω g;simp only at z b|-;subst b N;exact⟨λh=>absurd rfl (qA h),λ_=>⟨⟨δ,δ⟩,rfl,λ_=>A δ,λ_=>z,λh=>absurd h δ,λh=>absurd h δ⟩⟩
   . refine⟨⟨δ,δ⟩,⟨δ,δ⟩,⟨δ,δ⟩,⟨ai,ω,ω,b7⟩,?_⟩;rintro⟨m,e,_⟩ _ g;obtain⟨z,b⟩:=aj ah ag ω ω g;simp only at z b|-;subst b N;exact⟨λh=>absurd rfl (qA h),λ_=>⟨⟨δ,δ⟩,rfl,λ_=>A δ,λ_=>D δ,λ_=>z,λh=>absurd h δ⟩⟩
   . refine⟨⟨δ,δ⟩,⟨δ,δ⟩,⟨δ,δ⟩,⟨ai,ω,ω,b8⟩,?_⟩;rintro⟨m,e,_⟩ _ g;obtain⟨z,b⟩:=aj ah ah ω ω g;simp only at z b|-;subst b N;exact⟨λh=>absurd rfl (qA h),λ_=>⟨⟨δ,δ⟩,rfl,λ_=>A δ,λ_=>D δ,λ_=>w δ,λ_=>z⟩⟩
   rintro⟨(bf:Int),ci⟩ _ ⟨e,b3,b4,b5,b6⟩;simp only at e b3 b4 b5 b6|-;subst e;rw[wv ω];exact⟨⟨ω,ω,b3,b4,b5,b6⟩,ω⟩
 have h:=qB h;have A:Ep G.length G.length (Hy M G G) (a3,ab,D0):=A ω;have D:Ep G.length K.length (Hy M G K) (ar,c1,D1):=D ω;have w:Ep K.length G.length (Hy M K G) (a1,H,D2):=w ω;have E:Ep K.length K.length (Hy M K K) (o,l,D3):=E ω;have bc:N4 t (a3,ab,D0):=Fu A Z λi j _ _=>a8 _ _
 have be:N4 t (ar,c1,D1):=Fu D Z λi j _ _=>a8 _ _
 have c8:N4 t (a1,H,D2):=Fu w Z λi j _ _=>a8 _ _
 have c9:N4 t (o,l,D3):=Fu E Z λi j _ _=>a8 _ _
 have bq:rY t G.length<=268435456:=qX (B9n ω) bp;refine⟨⟨δ,δ⟩,⟨δ,δ⟩,⟨G.length,K.length,t,LP A,LP D,ω,ω,Z,bc,be,bq⟩,?_⟩;rintro⟨(F:G9),(e:Int),_⟩ _ ⟨af⟩;have bg:a3.toNat=G.length:=by have:a3=(G.length:Int):=A.1;omega
 have bh:c1.toNat=K.length:=by have:c1=(K.length:Int):=D.2.1;omega
 simp only[C6o,bg,bh]at af|-;have am:∀i j,i<G.length->j<G.length->el (a3,ab,D0) i j=Hy M G G i j:=λi j c u=>Ab A c u
 by_cases T:nonsing G.length (Hy M G G)
 rotate_left
 . obtain⟨_,b⟩:=af.1 λk=>T (A6p am k)
   subst b;exact⟨λ_=>c3 T,λh=>absurd (qB h) δ⟩
 obtain⟨b,J,bt,ay⟩:=af.2 (A6p (λi j c u=>(am i j c u).symm) T);subst b;clear af;have bu:∀i j,i<G.length->j<K.length->B8 G.length (λB=>Hy M G G i B*el F B j)= -Hy M G K i j:=λi j c u=>by
  have:=bt i j c u;rw[Ab D c u,B6 λB v=>by rw[am i B c v]]at this;exact this
 have ax:=ay t Z bc be;have bs:N4 (rY t G.length) F:=Fu J (by unfold rY tR;omega) ax;refine⟨λh=>absurd rfl (qA h),λ_=>⟨⟨δ,δ⟩,⟨λa2 d e b=>G4 (c8 a2 d e b) ω,λa2 d e b=>G4 (bs a2 d e b) ω,by have:H=(G.length:Int):=w.2.1;omega⟩,?_⟩⟩;rintro⟨(s:G9),(e:Int),_⟩ _ az;have c4:A4 (a1,H,D2):=W6 w ω ω;have c6:A4 F:=W6 J ω ω;have bi:a1.toNat=K.length:=by have:a1=(K.length:Int):=w.1;omega
 have bj:H.toNat=G.length:=by have:H=(G.length:Int):=w.2.1;omega
 have bk:F.2.1.toNat=K.length:=by have:F.2.1=(K.length:Int):=J.2.1;omega
 obtain⟨g,b⟩:=(az.2 ⟨c4,c6⟩).2 (by have:H=(G.length:Int):=w.2.1;have:F.1=(G.length:Int):=J.1;omega);simp only[bi,bj,bk]at g b|-;subst b;clear az;have bw:N4 K1 s:=Fu g ω λi j c u=>by
  have f:∀B,B<G.length->qs (t+rY t G.length) (el (a1,H,D2) i B*el F B j):=λB v=>Hg (by rw[Ab w c v];exact a8 _ _) (ax B j v u)
  refine G3 (VO f) ?_;have:=uJ (ω:G.length<=900) (ω:t+rY t G.length+1<=402653185);omega
 have ca:N4 K1 (o,l,D3):=λa2 d e b=>G4 (c9 a2 d e b) ω
 have c5:A4 (o,l,D3):=W6 E ω ω;have c7:A4 s:=W6 g ω ω;have bl:o.toNat=K.length:=by have:o=(K.length:Int):=E.1;omega
 have bm:l.toNat=K.length:=by have:l=(K.length:Int):=E.2.1;omega
 have fin:∀one:C7,one=ri 1->((N4 K1 (o,l,D3)/\sz K1 one/\N4 K1 s)/\∀(r:G9) (e:Int),(¬(A4 (o,l,D3)/\A4 s)->r=zm/\e=1)/\(A4 (o,l,D3)/\A4 s->(¬(o=s.1/\l=s.2.1)->r=zm/\e=4)/\(o=s.1/\l=s.2.1->Ep o.toNat l.toNat (λi j=>el (o,l,D3) i j+rv one*el s i j) r/\e=0))->(decide (e≠0)=true->Rc M H7 ([],(0,0,[]),0,0,[]) e)/\(decide (e≠0)=false->Rc M H7 (K,r,F) 0)):=λone f=>by
  subst f;refine⟨⟨ca,by rw[ZV];exact Nh (G3 (IX (a:=1) δ) δ),bw⟩,λr e h=>?_⟩;obtain⟨a6,b⟩:=(h.2 ⟨c5,c7⟩).2 ⟨by have:o=(K.length:Int):=E.1;have:s.1=(K.length:Int):=g.1;omega,by have:l=(K.length:Int):=E.2.1;have:s.2.1=(K.length:Int):=g.2.1;omega⟩;subst b;rw[bl,bm]at a6;refine⟨λh=>absurd rfl (qA h),λ_=>bn T ⟨rfl,LP a6,J,bu,λi j c u=>?_,λc2 ap b0=>ay c2 ap (Fu A ap λi j _ _=>b0 _ _) (Fu D ap λi j _ _=>b0 _ _)⟩⟩;have f:rv (ri 1)=1:=by rw[ZV,H6];rfl
  show el r i j= _;rw[Ab a6 c u,f,uR,Ab E c u,Ab g c u];congr 1;exact B6 λB v=>by rw[Ab w c v]
 refine⟨λh=>absurd rfl (qA h),λ_=>⟨⟨δ,δ⟩,⟨trivial,?_⟩,trivial,?_⟩⟩
 . rintro⟨one,_⟩ _ f;obtain⟨ac,ad⟩:=fin one f;exact⟨⟨ac,λr _ h=>ad r.1 r.2.1 h⟩,ac,λr _ h=>ad r.1 r.2.1 h⟩
 rintro⟨one,_⟩ _ f;obtain⟨ac,ad⟩:=fin one f;exact⟨ac,λr _ h=>ad r.1 r.2.1 h⟩
def KT:An:= {loop:= [(3,⟨[0,1],[],[(5,false,[.own qb 3]),(6,false,vI)],[(0,83,[.val qf, .val qb])],[]⟩)]}
def cF:An:= {}
def Pj(x:C4r):Prop:=let f:=(140737488355328:Nat);let d:=(0:Int);let e:=d.toNat;∃(I:C4v->Prop),∃(h: _->Nat),I ([],d,x.1.1,x.1.2,())/\∀(p:C4v),let g:=(p.2.2.1.length:Int);let c:=(↑p.1.length:Int);(Ty.int i64).sl.wf p.1/\(Ty.int i64).wf p.2.1/\(Ty.int i64).sl.wf p.2.2.1/\(Ty.int i64).wf p.2.2.2.1/\True->I p->(iB (decide (p.2.1<x.2.1)) ((d<i64.wrap (p.2.1+1)/\d<=p.2.2.2.1/\p.2.2.2.1<=g)/\∀(r:D7) (o:GC),let b:=r.1.toNat;let a:=(List.drop e (List.take b p.1)++ [p.2.1]++List.drop b (List.take c.toNat p.1),i64.wrap (p.2.1+1),o.1.1,o.1.2,());O5 r.1/\True->((Ty.int i64).sl.pair (Ty.int i64)).wf o.1/\True->d<=r.1/\r.1<i64.wrap (p.2.1+1)->o.1.1=p.2.2.1/\d<=o.1.2/\o.1.2<=g->(d<=d/\d<=r.1/\r.1<=c)/\(((0:Nat)+(List.drop e (List.take b p.1)).length)*(8:Nat)<=f/\(0:Nat)+(List.drop e (List.take b p.1)).length<=9223372036854775807)/\(((List.drop e (List.take b p.1)).length+ [p.2.1].length)*(8:Nat)<=f/\(List.drop e (List.take b p.1)).length+ [p.2.1].length<=9223372036854775807)/\(d<=r.1/\r.1<=c/\c<=c)/\(((List.drop e (List.take b p.1)++ [p.2.1]).length+(List.drop b (List.take c.toNat p.1)).length)*(8:Nat)<=f/\(List.drop e (List.take b p.1)++ [p.2.1]).length+(List.drop b (List.take c.toNat p.1)).length<=9223372036854775807)/\I a/\h a<h p) (K7 p.1 x.2.1/\p.2.2.1=x.1.1/\d<=p.2.2.2.1/\p.2.2.2.1<=(↑x.1.1.length:Int)))
def HH(x:aN):Prop:=let a:=(0:Int);True/\∀(r:GC),let b:=(r.1.1.length:Int);(WA r.1.1/\O5 r.1.2)/\True->r.1=(x.1,a)->(a<=x.2.1/\x.2.1<=100/\a<=r.1.2/\r.1.2<=b)/\∀(d:Qt) (o:GC),let c:=(o.1.1.length:Int);WA d.1/\True->((Ty.int i64).sl.pair (Ty.int i64)).wf o.1/\True->K7 d.1 x.2.1->o.1.1=r.1.1/\a<=o.1.2/\o.1.2<=b->(a<i64.wrap (x.2.1+1)/\a<=o.1.2/\o.1.2<=c)/\∀(r:D7) (e:GC),O5 r.1/\True->((Ty.int i64).sl.pair (Ty.int i64)).wf e.1/\True->a<=r.1/\r.1<i64.wrap (x.2.1+1)->e.1.1=o.1.1/\a<=e.1.2/\e.1.2<=c->(a<=a/\a<=r.1/\r.1<=(d.1.length:Int))/\(∀(g:Int),g∈List.drop a.toNat (List.take r.1.toNat d.1)->a<=g/\g<x.2.1)/\(List.drop a.toNat (List.take r.1.toNat d.1)).Nodup
def BN:su Aj Pj:=λx M A=>by
 obtain⟨⟨(l:Wf),(k:Int)⟩,(n:Int),_⟩:=x;obtain⟨I,P,G,H⟩:0<=n/\n<=100/\0<=k/\k<=(l.length:Int):=A;simp only[Pj,iB];refine⟨λp=>0<=p.2.1/\p.2.1<=n/\K7 p.1 p.2.1/\p.2.2.1=l/\0<=p.2.2.2.1/\p.2.2.2.1<=(l.length:Int),λp=>(n-p.2.1).toNat,⟨qG _,I,⟨rfl,λi y=>(by cases y),wT⟩,rfl,G,H⟩,?_⟩;rintro⟨(o:Wf),(i:Int),N,(F:Int),_⟩ _ ⟨B,D,⟨v,b,g⟩,rfl,c,d⟩;simp only at B D v b g c d|-;refine⟨λh=>?_,λh=>?_⟩
 . have h:=qA h;rw[wv ω];refine⟨⟨ω,c,d⟩,?_⟩;rintro⟨(t:Int),_⟩ ⟨⟨Q,R⟩,_⟩ _ _ ⟨j,J⟩ ⟨r,s,u⟩;simp only at j J r s u|-;have w:(0:Int).toNat=0:=rfl;rw[w,tP,(ω:((o.length:Int)).toNat=o.length),qP (qV _)];have lt:(o.take t.toNat).length<=100:=by rw[qZ];omega
   have O:(o.drop t.toNat).length<=100:=by rw[sS];omega
   refine⟨⟨qG _,j,ω⟩,⟨ω,ω⟩,⟨by simp only[qY];omega,by simp only[qY];omega⟩,⟨j,ω,qG _⟩,⟨by simp only[rQ,qY];omega,by simp only[rQ,qY];omega⟩,⟨ω,ω,?_,r,s,u⟩,ω⟩;have f:(o.take t.toNat++ [i]++o.drop t.toNat).Perm (i::o):=by
    rw[uC,g2z];exact g4t.trans (by rw[uE])
   have z:i∉o:=λhh=>by have:=b i hh;omega
   refine⟨by rw[f.length_eq,rK];omega,λE a=>?_,f.nodup_iff.2 (sP.2 ⟨z,g⟩)⟩;rcases qW.1 (f.mem_iff.1 a)with a|a
   . omega
   have:=b E a;omega
 have h:=qB h;have:i=n:=ω
 subst this;exact⟨⟨v,b,g⟩,by trivial,c,d⟩
def RH:su Hi HH:=λx y o=>by
 obtain⟨(l:Wf),(n:Int),_⟩:=x;obtain⟨r,s⟩:0<=n/\n<=100:=o;simp only[HH];refine⟨trivial,?_⟩;rintro⟨⟨tl,ti⟩,_⟩ _ a;have a:(tl,ti)=(l,(0:Int)):=a;cases a;simp only;refine⟨⟨r,s,qG _,qF _⟩,?_⟩;rintro⟨(t:Wf),_⟩ ⟨⟨(tl:Wf),(ti:Int)⟩,_⟩ _ _ ⟨u,f,g⟩ ⟨b,c,d⟩;simp only at u f g b c d|-;subst b;rw[wv ω];refine⟨⟨ω,c,d⟩,?_⟩;rintro⟨(v:Int),_⟩ ⟨⟨z,A⟩,_⟩ _ _ ⟨h,w⟩ _;simp only at h w|-;have i:(0:Int).toNat=0:=rfl;rw[i,tP];exact⟨⟨qG _,h,ω⟩,λj k=>f j (rO k),g.sublist (g4m _ _)⟩
def WI:An:= {join:= [(7,⟨[5,6,7,8],[8,10,11],[(9,false,[.fixB 16])],[(16,24,[.val qb, .val qb, .val qk])],[]⟩)],plan:= [(6,[0,1,4,6],[11],true, .done),(8,[4,10,11,16,17,18],[],false, .done)],mv:= [(6,[9])]}
abbrev C4s:=(Wf×MM×Int×Int×List (List EE))×Int×Unit
def BK(x:Unit):Prop:=let w:Prop:=(True/\True);let t:=(3:Int);let s:=(1:Int);let q:=(16384:Nat);let o:=(16384:Int);let n:=(0:Int);let k:=(2:Int);let u:=k.toNat;True/\N2 λr=>r.1=ri s->True/\N2 λF=>F.1=ri k->True/\N2 λB=>B.1=ri (-1:Int)->True/\N2 λC=>C.1=rc (0:Rat)->((∀(l:List QQ),l∈ [[r.1,B.1,C.1],[B.1,F.1,B.1],[C.1,B.1,r.1]]->Tj K1 l/\(↑l.length:Int)=t)/\n<=t/\t<=o/\ [[r.1,B.1,C.1],[B.1,F.1,B.1],[C.1,B.1,r.1]].length<=q)/\rT1 λG=>Ep [[r.1,B.1,C.1],[B.1,F.1,B.1],[C.1,B.1,r.1]].length t.toNat (fun(i j:Nat)=>rv (([[r.1,B.1,C.1],[B.1,F.1,B.1],[C.1,B.1,r.1]].getD i []).getD j zr)) G.1->A2j G.1/\∀(r:C4s),let m:Prop:=(r.2.1=n);(WA r.1.1/\WfM r.1.2.1/\O5 r.1.2.2.1/\O5 r.1.2.2.2.1/\Oa r.1.2.2.2.2)/\O5 r.2.1/\True->Rc G.1 [s] r.1 r.2.1->True/\∀(z:C8),let b:(C8)->(C8)->Prop:=(λr y=>(∀(l:List QQ),l∈ [[z.1,r.1],[y.1,z.1]]->Tj K1 l/\(↑l.length:Int)=k)/\n<=k/\k<=o/\ [[z.1,r.1],[y.1,z.1]].length<=q);RR z.1/\True->z.1=rc (Rat.divInt s k)->∃(J:C0r->Prop),let c:(C8)->(C8)->(Cg)->Prop:=(λr y A=>WfM A.1/\True->Ep [[z.1,r.1],[y.1,z.1]].length u (fun(i j:Nat)=>rv (([[z.1,r.1],[y.1,z.1]].getD i []).getD j zr)) A.1->J (A.1.1,A.1.2.1,A.1.2.2,()));let a:(C8)->(C8)->Prop:=(λr y=>((∀(l:List QQ),l∈ [[z.1,r.1],[y.1,z.1]]->Tj K1 l/\(↑l.length:Int)=k)/\n<=k/\k<=o/\ [[z.1,r.1],[y.1,z.1]].length<=q)/\rT1 λA=>Ep [[z.1,r.1],[y.1,z.1]].length u (fun(i j:Nat)=>rv (([[z.1,r.1],[y.1,z.1]].getD i []).getD j zr)) A.1->J (A.1.1,A.1.2.1,A.1.2.2,()));let f:(C8)->(C8)->Prop:=(λr y=>RR y.1/\True->y.1=rc (-rv z.1)->(a r y)/\(b r y)/\∀(A:Cg),c r y A);let d:(C8)->Prop:=(λr=>J8 z.1/\N2 λy=>y.1=rc (-rv z.1)->a r y);((J8 z.1/\N2 λr=>r.1=rc (-rv z.1)->((J8 z.1/\N2 λy=>y.1=rc (-rv z.1)->(((a r y)/\a r y)/\a r y)/\(b r y)/\∀(A:Cg),c r y A)/\d r)/\(J8 z.1/\∀(y:C8),let g:Prop:=((((a r y)/\a r y)/\a r y)/\a r y);RR y.1/\True->y.1=rc (-rv z.1)->g/\g/\(a r y)/\(b r y)/\∀(A:Cg),c r y A)/\(d r)/\J8 z.1/\∀(y:C8),f r y)/\J8 z.1/\N2 λr=>r.1=rc (-rv z.1)->(d r)/\J8 z.1/\∀(y:C8),f r y)/\∀(p:C0r),(Ty.int i64).wf p.1/\(Ty.int i64).wf p.2.1/\tE.sl.sl.wf p.2.2.1/\True->J p->A2j G.1/\∀(y:C4s),(WA y.1.1/\WfM y.1.2.1/\O5 y.1.2.2.1/\O5 y.1.2.2.2.1/\Oa y.1.2.2.2.2)/\O5 y.2.1/\True->Rc G.1 [n,s,k] y.1 y.2.1->(decide m=true->True)/\∀(A:W4),let h:=(L5 (decide m) A.1 false);(decide m=true->w/\A.1=decide (r.1.1= [n,k]))->(L5 (decide m) A.1 false=true->N4 K1 r.1.2.1)/\∀(D:W4),(L5 (decide m) A.1 false=true->w/\(D.1=true↔r.1.2.1=(p.1,p.2.1,p.2.2.1)/\∀(v:List EE),v∈r.1.2.1.2.2->∀(e:EE),e∈v->e.2=rc (rv e.2)))->(L5 h D.1 false=true->(∀(l:List QQ),l∈ [[z.1,z.1]]->Tj K1 l/\(↑l.length:Int)=k)/\n<=k/\k<=o/\ [[z.1,z.1]].length<=q)/\∀(H:Cg),(L5 h D.1 false=true->(WfM H.1/\True)/\Ep [[z.1,z.1]].length u (fun(i j:Nat)=>rv (([[z.1,z.1]].getD i []).getD j zr)) H.1)->(L5 h D.1 false=true->N4 K1 r.1.2.2)/\∀(I:W4),(L5 h D.1 false=true->w/\(I.1=true↔r.1.2.2=H.1/\∀(v:List EE),v∈r.1.2.2.2.2->∀(e:EE),e∈v->e.2=rc (rv e.2)))->L5 (L5 (L5 h D.1 false) I.1 false) (decide (y.2.1=6)) false=true
set_option maxHeartbeats 4000000 in
def NK:su Fc BK:=λx _ _=>by
 have av:∀k:Int,k.natAbs<4294967296->sz K1 (ri k):=λk hk=>by rw[ZV];exact Nh (G3 (IX hk) δ)
 have ax:sz K1 (rc (0:Rat)):=Nh (M5 δ);have ai:qs 1 (Rat.divInt 1 2):=by unfold qs;decide+kernel
 have ab:sz K1 (rc (Rat.divInt 1 2)):=Nh (G3 ai δ);have b8:sz K1 (rc (-Rat.divInt 1 2)):=Nh (G3 (kV ai) δ);simp only[BK,N2,rT1];refine⟨trivial,?_⟩;rintro⟨one,_⟩ _ a1;refine⟨trivial,?_⟩;rintro⟨two,_⟩ _ a3;refine⟨trivial,?_⟩;rintro⟨az,_⟩ _ a4;refine⟨trivial,?_⟩;rintro⟨zero,_⟩ _ a5;change C7 at one two az zero;simp only at a1 a3 a4 a5|-;subst a1 a3 a4 a5;refine⟨⟨λt o=>?_,δ,δ,by show 3<=16384;decide⟩,?_⟩
 . simp only[qW,vP,g0e]at o;rcases o with rfl|rfl|rfl<;>exact⟨λe d=>by
    simp only[qW,vP,g0e]at d;rcases d with rfl|rfl|rfl<;>first|exact ax|exact av _ δ,rfl⟩
 rintro⟨(M:G9),_⟩ _ c;have c:Ep 3 3 _ M:=c;simp only;have M1:M.1=3:=c.1;have M2:M.2.1=3:=c.2.1;have F:el M 0 0=((1:Int):Rat):=(Ab c δ δ).trans (MR 1);have z:el M 0 1=((-1:Int):Rat):=(Ab c δ δ).trans (MR (-1));have G:el M 0 2=((0:Int):Rat):=(Ab c δ δ).trans (H6 0);have H:el M 1 0=((-1:Int):Rat):=(Ab c δ δ).trans (MR (-1));have u:el M 1 1=((2:Int):Rat):=(Ab c δ δ).trans (MR 2);have I:el M 1 2=((-1:Int):Rat):=(Ab c δ δ).trans (MR (-1));have J:el M 2 0=((0:Int):Rat):=(Ab c δ δ).trans (H6 0);have A:el M 2 1=((-1:Int):Rat):=(Ab c δ δ).trans (MR (-1));have N:el M 2 2=((1:Int):Rat):=(Ab c δ δ).trans (MR 1);have U:∀ {i:Nat},i<3->i=0\/i=1\/i=2:=λh=>ω
 have B:∀i j,i<3->j<3->qs 1 (el M i j):=λi j l f=>by
  rcases U l with rfl|rfl|rfl<;>rcases U f with rfl|rfl|rfl<;>simp only[F,z,G,H,u,I,J,A,N]<;>exact IX δ
 have r:A4 M:=W6 c δ δ;have ad:N4 1 M:=Fu (PT c λi j l f=>(Ab c l f).symm) δ B;have ac:∀i j,qs 1 (el M i j):=λi j=>XJ r (DU c) ad δ i j
 have aa:A2j M:=⟨1,δ,δ,ad,λ_ _=>⟨ω,by rw[M1];decide⟩⟩;refine⟨aa,?_⟩;rintro⟨(b:Kf),(aj:Int),_⟩ _ a9;simp only at a9|-;have a0:Eu M [1]= [1]:=by unfold Eu;rw[M1];decide
 have am:oX M [1]= [0,2]:=by unfold oX;rw[M1];decide
 obtain⟨aq,E⟩:=A7b a9 r (M1.trans M2.symm) (λg hg=>by rw[qJ.1 hg,M1];decide) (wD _ _) (by
  rw[a0];intro x au j f;have ao:(0:Rat)+el M 1 1*x 0=0:=au 0 δ;rw[u]at ao;have:j=0:=by have:j<1:=f;omega
  subst this;grind)
 subst aq;rw[a0,am]at E;have b0:N4 K1 b.2.1:=A6z E δ ac δ;have b1:N4 K1 b.2.2:=A7a E δ ac δ;obtain⟨ay,af,ag,ah,D,_⟩:=E;have w:(0:Rat)+el M 1 1*el b.2.2 0 0= -el M 1 0:=ah 0 0 δ δ;have y:(0:Rat)+el M 1 1*el b.2.2 0 1= -el M 1 2:=ah 0 1 δ δ;have O:el b.2.1 0 0=el M 0 0+(0+el M 0 1*el b.2.2 0 0):=D 0 0 δ δ;have P:el b.2.1 0 1=el M 0 2+(0+el M 0 1*el b.2.2 0 1):=D 0 1 δ δ;have Q:el b.2.1 1 0=el M 2 0+(0+el M 2 1*el b.2.2 0 0):=D 1 0 δ δ;have T:el b.2.1 1 1=el M 2 2+(0+el M 2 1*el b.2.2 0 1):=D 1 1 δ δ;have b6:Rat.divInt 1 2*((2:Int):Rat)=1:=by decide+kernel
 rw[u,H]at w;rw[u,I]at y;generalize b7:Rat.divInt 1 2=a at*;have w:el b.2.2 0 0=a:=by grind
 have y:el b.2.2 0 1=a:=by grind
 have O:el b.2.1 0 0=a:=by rw[O,F,z,w];grind
 have P:el b.2.1 0 1= -a:=by rw[P,G,z,y];grind
 have Q:el b.2.1 1 0= -a:=by rw[Q,J,A,w];grind
 have T:el b.2.1 1 1=a:=by rw[T,N,A,y];grind
 refine⟨trivial,?_⟩;rintro⟨(ap:C7),_⟩ _ a6;simp only at a6|-;subst a6;have v:rv (rc a)=a:=H6 a;rw[v];have aw:J8 (rc a):=N1 ab δ;have two:∀ {i:Nat},i<2->i=0\/i=1:=λh=>ω
 refine⟨λp=>(p.1,p.2.1,p.2.2.1)=b.2.1,?_,?_⟩
 . have L1:(∀t:List C7,t∈ [[rc a,rc (-a)],[rc (-a),rc a]]->Tj K1 t/\(t.length:Int)=2)/\(0:Int)<=2/\(2:Int)<=16384/\ [[rc a,rc (-a)],[rc (-a),rc a]].length<=16384:=by
    refine⟨λt o=>?_,δ,δ,by show 2<=16384;decide⟩;simp only[qW,vP,g0e]at o;rcases o with rfl|rfl<;>exact⟨λe d=>by
     simp only[qW,vP,g0e]at d;rcases d with rfl|rfl<;>assumption,rfl⟩
   have L2:∀W:G9,Ep 2 2 (λi j=>rv (([[rc a,rc (-a)],[rc (-a),rc a]].getD i []).getD j zr)) W->W=b.2.1:=λW n=>by
    refine A6b n af λi j l f=>?_
    rcases two l with rfl|rfl<;>rcases two f with rfl|rfl
    . exact v.trans O.symm
    . exact(H6 _).trans P.symm
    . exact(H6 _).trans Q.symm
    exact v.trans T.symm
   repeat' first
    |exact L1
    |exact aw
    | (rintro⟨W,_⟩ _ n;exact L2 W n)
    |apply And.intro
    | (rintro⟨q,_⟩ _ B;simp only at B|-;subst B)
 rintro⟨b3,b4,b5,_⟩ _ n;have n:(b3,b4,b5)=b.2.1:=n;simp only at n|-;refine⟨aa,?_⟩;rintro⟨(b2:Kf),(an:Int),_⟩ _ ae;simp only at ae|-;have ak:Eu M [0,1,2]= [0,1,2]:=by unfold Eu;rw[M1];decide
 obtain⟨_,ar⟩:=B5s ae r (M1.trans M2.symm) (λg hg=>by
  simp only[qW,vP,g0e]at hg;rw[M1];omega) δ (by
  rw[ak];intro au;have ao:=au (λ_=>1) (λi l=>by
   show(0:Rat)+Hy M [0,1,2] [0,1,2] i 0*1+Hy M [0,1,2] [0,1,2] i 1*1+Hy M [0,1,2] [0,1,2] i 2*1=0;rcases U l with rfl|rfl|rfl
   . show(0:Rat)+el M 0 0*1+el M 0 1*1+el M 0 2*1=0;rw[F,z,G];decide+kernel
   . show(0:Rat)+el M 1 0*1+el M 1 1*1+el M 1 2*1=0;rw[H,u,I];decide+kernel
   show(0:Rat)+el M 2 0*1+el M 2 1*1+el M 2 2*1=0;rw[J,A,N];decide+kernel) 0 δ
  exact absurd ao δ)
 subst ar;refine⟨λ_=>trivial,?_⟩;rintro⟨(Y:Bool),_⟩ a7;simp only at a7|-;obtain rfl:Y=true:=(a7 rfl).2.trans (rA ay);refine⟨λ_=>b0,?_⟩;rintro⟨(Z:Bool),_⟩ a8;simp only at a8|-;obtain rfl:Z=true:=(a8 rfl).2.2 ⟨n.symm,λV r e d=>((A6a af V r).2 e d).2⟩;refine⟨λ_=>⟨λt o=>?_,δ,δ,by show 1<=16384;decide⟩,?_⟩
 . rw[qJ.1 o];exact⟨λe d=>by
    simp only[qW,vP,g0e]at d;rcases d with rfl|rfl<;>exact ab,rfl⟩
 rintro⟨(R:G9),_⟩ s;simp only at s|-;have s:=(s rfl).2;have s:Ep 1 2 (λi j=>rv (([[rc a,rc a]].getD i []).getD j zr)) R:=s;refine⟨λ_=>b1,?_⟩;rintro⟨(X:Bool),_⟩ a2;simp only at a2|-;obtain rfl:X=true:=(a2 rfl).2.2 ⟨A6b ag s λi j l f=>by
  have:i=0:=by have:i<1:=l;omega
  subst this;have f:j<2:=f;rcases two f with rfl|rfl
  . exact w.trans v.symm
  exact y.trans v.symm,λV r e d=>((A6a ag V r).2 e d).2⟩
 rfl
def FB:An:= {loop:= [(11,⟨[1,6,8,9,47,48],[],[(49,false,vI)],[],[(1, .row tQ 58),(2, .row .bool 4)]⟩),(18,⟨[6,8,71,72],[],[(73,false,vI)],[],[(1, .row tQ 58)]⟩)]}
abbrev C7r:=Int×List QQ×List Bool×Unit
def Kv(x:(Wf×MM×Int×Int×List (List EE))×List QQ×Unit):Prop:=let u:=(281474976710656:Int);let t:=x.2.1.length;let s:=(1:Int);let q:=(9223372036854775807:Int);let o:=(1:Nat);let l:=(↑t:Int);let g:=(0:Int);let f:=(x.1.1.length:Int);let n:=(i64.wrap (f+x.1.2.2.1));let e:=(↑(List.replicate n.toNat dQ).length:Int);let z:Prop:=(l≠f);True/\Jp λr=>r.1=decide (fmd x.1)->(iB ((!r.1)) (A7p x.1 x.2.1 [] s) ((iB (decide z) (A7p x.1 x.2.1 [] (4:Int)) ((∃(A:Nat),∃(T:Nat),∃(d:Nat),o<=A/\o<=T/\N4 A x.1.2.2/\Tj T x.2.1/\x.1.2.2.2.1<=(↑d:Int)/\(A+T+o)*(d+o)<=(2199023255552:Nat)/\A<=K1)/\∀(r:A4o),WB r.1/\O5 r.2.1/\True->(¬A4 x.1.2.2->r.1= []/\r.2.1=s)/\(A4 x.1.2.2->(l≠x.1.2.2.2.1->r.1= []/\r.2.1=4)/\(l=x.1.2.2.2.1->r.1=List.map (fun(i:Nat)=>rc (B8 t fun(j:Nat)=>el x.1.2.2 i j*rv (List.getD x.2.1 j zr))) (List.range x.1.2.2.1.toNat)/\r.2.1=g))->(iB (decide (r.2.1≠g)) (A7p x.1 x.2.1 [] r.2.1) ((g<=i64.wrap (f+x.1.2.2.1)/\i64.wrap (f+x.1.2.2.1)<=i64.wrap (f+x.1.2.2.1)/\(↑(56:Nat):Int)*i64.wrap (f+x.1.2.2.1)<=u/\i64.wrap (f+x.1.2.2.1)<=q)/\(g<=e/\e<=e/\(↑o:Int)*e<=u/\e<=q)/\∃(I:C7r->Prop),∃(a: _->Nat),I (g,List.replicate n.toNat dQ,List.replicate e.toNat false,())/\∀(p:C7r),let w:=(gx g x.1.1 p.1);let v:=(gx dQ x.2.1 p.1);let m:=p.2.2.1.length;let c:Prop:=(p.1<f);(Ty.int i64).wf p.1/\WB p.2.1/\(List.length p.2.2.1<=9223372036854775807/\∀(x:Bool),x∈p.2.2.1->True)/\True->I p->(iB (decide c) ((g<=p.1/\c)/\(g<=gx g x.1.1 p.1/\gx g x.1.1 p.1<(↑m:Int))/\(g<=p.1/\p.1<l)/\J8 v/\N2 λr=>let h:=(i64.wrap (p.1+s),List.set p.2.1 w.toNat r.1,List.set p.2.2.1 w.toNat true,());r.1=rc (rv v)->(g<=gx g x.1.1 p.1/\gx g x.1.1 p.1<(p.2.1.length:Int))/\I h/\a h<a p) (List.length p.2.2.1<=100000/\∀(y:Dy),WA y.1/\WA y.2.1/\True->((y.1=Z8 m fun(i:Nat)=>List.getD p.2.2.1 i false)/\y.2.1=Z8 m fun(i:Nat)=> !List.getD p.2.2.1 i false)->∃(I:GE->Prop),∃(a: _->Nat),I (g,p.2.1,())/\∀(p:GE),let k:=(i64.wrap (p.1+s),List.set p.2.1 (gx g y.2.1 p.1).toNat (gx dQ r.1 p.1),());let b:Prop:=(p.1<(y.2.1.length:Int));(Ty.int i64).wf p.1/\WB p.2.1/\True->I p->(iB (decide b) ((g<=p.1/\b)/\(g<=p.1/\p.1<(r.1.length:Int))/\(g<=gx g y.2.1 p.1/\gx g y.2.1 p.1<(p.2.1.length:Int))/\I k/\a k<a p) (A7p x.1 x.2.1 p.2.1 g))))))))))
def B3e {n:Nat} {l:Wf} (a:l.Nodup) (b:∀g∈l,0<=g/\g<(n:Int)):(Z8 n (PR l)).length=l.length:=
 ((g1h (Rq _ _) a).2 λg=>⟨λh=>by
   have:=Gx.1 h;have a:=qA this.2.2;rwa[sV this.1]at a,λh=>by
   have:=b g h;exact Gx.2 ⟨this.1,this.2,rA (by rw[sV this.1];exact h)⟩⟩).length_eq
def eF {l:Wf} (h:l.Pairwise (· < ·)):l.Nodup:=h.imp λh=>Int.ne_of_lt h
def C2a {l:Wf} {N:Nat} (h:l.Pairwise (· < ·)) (f:∀b∈l,0<=b/\b<(N:Int)):(∀j,j<l.length->l.getD j 0=(ix l j:Int)/\ix l j<N)/\∀j k,j<l.length->k<l.length->ix l j=ix l k->j=k:=by
 have c:∀j,j<l.length->l.getD j 0=(ix l j:Int)/\ix l j<N:=λj a=>by
  have:=f _ (C6 (d:=0) a);unfold ix;omega
 refine⟨c,λj k a g e=>?_⟩;have f:=(c j a).1;have b:=(c k g).1;rw[e, <-b,G6 _ _ a,G6 _ _ g]at f;exact(wB (eF h)).1 f
def B9e {r:Kf} (h:fmd r):(kQ r).length=r.2.2.1.toNat:=by
 have a:=Om (r.1.length+r.2.2.1.toNat) (PR r.1);have b:=h.2.1.1;rw[B3e (eF h.2.2.2.2.2.1) λg b=>by have:=h.2.2.2.2.2.2 g b;omega]at a;unfold kQ;omega
set_option maxHeartbeats 2000000 in
def Wk:su V8 Kv:=λx b4 ai=>by
 have az:K1=549755813888:=rfl;obtain⟨⟨(K:Wf),(FA:G9),(B:G9)⟩,(y:List C7),_⟩:=x;obtain⟨A,T,w,ac,ag,au,a7,ah,ae,ad,b2,b5⟩:∃A T w:Nat,1<=A/\1<=T/\N4 A B/\Tj T y/\B.2.1<=(w:Int)/\(A+T+1)*(w+1)<=2199023255552/\A<=K1/\T<=K1/\N4 K1 FA:=ai;simp only[Kv,iB,N2,Jp];refine⟨trivial,?_⟩;rintro⟨(V:Bool),_⟩ _ k;simp only at k|-;by_cases g:fmd (K,FA,B)
 rotate_left
 . have k:V=false:=by rw[k];exact rC g
   rw[k];exact⟨λ_=>⟨⟨λ_=>⟨rfl,rfl⟩,λh=>absurd h g⟩⟩,λh=>(by cases h)⟩
 have k:V=true:=by rw[k];exact rA g
 rw[k];refine⟨λh=>(by cases h),λ_=>⟨λh=>?_,λh=>?_⟩⟩
 . have h:=qA h;exact⟨⟨λI=>absurd g I,λ_=>⟨λ_=>⟨rfl,rfl⟩,λo=>absurd (sA Int.ofNat o) h⟩⟩⟩
 have U:y.length=K.length:=g0m (sF.1 (qB h));obtain⟨ar,W,X,ax,H,J,M⟩:=id g;have X:FA.1=(K.length:Int):=X;have H:B.2.1=(K.length:Int):=H;have J:K.Pairwise (· < ·):=J;have M:∀b∈K,0<=b/\b<(K.length:Int)+B.1:=M;have av:0<=B.1:=W.1;have aw:B.1<=16384:=W.2.1;have ay:FA.1<=16384:=ar.2.1;refine⟨⟨A,T,w,ac,ag,au,a7,ah,ae,ad⟩,?_⟩;rintro⟨(a6:List C7),(e:Int),_⟩ _ ⟨_,a2⟩;obtain⟨Q,Z⟩:=(a2 W).2 (by rw[U];exact H.symm);clear a2;simp only at Q Z|-;subst Z;refine⟨λh=>absurd rfl (qA h),λ_=>?_⟩;rw[wv (a:=(K.length:Int)+B.1) ω,rG];have af:((K.length:Int)+B.1).toNat=K.length+B.1.toNat:=ω
 have b0:((K.length+B.1.toNat:Nat):Int)=(K.length:Int)+B.1:=ω
 rw[af,qQ];obtain⟨a5,am⟩:=C2a (N:=K.length+B.1.toNat) J λb f=>by have:=M b f;omega
 refine⟨⟨ω,qG _,ω,ω⟩,⟨ω,qG _,ω,ω⟩,?_⟩;refine⟨λp=>0<=p.1/\p.1<=(K.length:Int)/\p.2.1.length=K.length+B.1.toNat/\p.2.2.1.length=K.length+B.1.toNat/\(∀b,b<K.length+B.1.toNat->p.2.2.1.getD b false=decide ((b:Int)∈K.take p.1.toNat))/\∀j,j<p.1.toNat->p.2.1.getD (ix K j) zr=rc (pV y j),λp=>((K.length:Int)-p.1).toNat,⟨qG _,qF _,rG,rG,λb f=>?_,λj r=>absurd r (uG _)⟩,?_⟩
 . rw[qE,uD,qR f];exact(rC λc=>by cases c).symm
 rintro⟨(i:Int),(a8:List C7),(S:List Bool),_⟩ _ ⟨s,ak,al,sl,F,D⟩;simp only at s ak al sl F D|-;refine⟨λh=>?_,λh=>?_⟩
 . have h:=qA h;have a0:i.toNat<K.length:=ω
   obtain⟨z,aa⟩:=a5 i.toNat a0;have aj:K.take (i+1).toNat=K.take i.toNat++ [K.getD i.toNat 0]:=by
    rw[(ω:(i+1).toNat=i.toNat+1),rP,qM ω,G6 _ _ ω];rfl
   rw[K6 s h,z,qQ,Wr s ω,wv (a:=i+1) ω];refine⟨⟨s,h⟩,⟨qF _,ω⟩,⟨s,ω⟩,N1 (a7 _ (C6 ω)) ω,?_⟩;rintro⟨(aq:C7),_⟩ _ a4;simp only at a4|-;refine⟨⟨qF _,ω⟩,⟨ω,ω,by rw[qT];exact al,by rw[qT];exact sl,λb f=>?_,λj r=>?_⟩,ω⟩
   . rw[aj];by_cases Y:b=ix K i.toNat
     . subst Y;rw[C1 ω];exact(rA (sQ _ (by rw[z];exact wV _))).symm
     rw[E5 Y,F b f];refine vR.2 ⟨λc=>sE _ c,λc=>?_⟩;rcases qU.1 c with c|c
     . exact c
     have:=qJ.1 c;omega
   by_cases a1:j=i.toNat
   . subst a1;rw[C1 ω];exact a4
   rw[E5 λe=>a1 (am j i.toNat ω a0 e)];exact D j ω
 have h:=qB h;rw[qP ω]at F;rw[(ω:i.toNat=K.length)]at D;refine⟨by rw[sl];omega,?_⟩;rintro⟨(I0:Wf),(O:Wf),_⟩ _ ⟨_,d⟩;simp only at d|-;have d:O=kQ (K,FA,B):=by rw[d,sl];exact DT λb f=>by rw[F b f];rfl
 have b1:O.length=B.1.toNat:=by rw[d];exact B9e g
 have ao:∀t,t<O.length->O.getD t 0=(ix O t:Int)/\ix O t<K.length+B.1.toNat/\(ix O t:Int)∉K:=λt l=>by
  have:=jM (n:=K.length+B.1.toNat) (p:=λi=> !PR K i) (a:=t) (by rw[d]at l;exact l);rw[d];have o:(!PR K (ix (kQ (K,FA,B)) t))=true:=this.2.1;exact⟨this.2.2,this.1,λc=>by rw[show PR K (ix (kQ (K,FA,B)) t)=true from rA c]at o;cases o⟩
 have an:∀t u,t<O.length->u<O.length->ix O t=ix O u->t=u:=λt u l R e=>by
  rw[d]at l R e;exact B8f l R e
 refine⟨λp=>0<=p.1/\p.1<=(O.length:Int)/\p.2.1.length=K.length+B.1.toNat/\(∀j,j<K.length->p.2.1.getD (ix K j) zr=rc (pV y j))/\∀t,t<p.1.toNat->p.2.1.getD (ix O t) zr=rc (B8 K.length λj=>el B t j*pV y j),λp=>((O.length:Int)-p.1).toNat,⟨qG _,qF _,al,D,λt l=>absurd l (uG _)⟩,?_⟩;rintro⟨(t:Int),(a9:List C7),_⟩ _ ⟨v,ap,G,P,E⟩;simp only at v ap G P E|-;have b3:a6.length=B.1.toNat:=by rw[Q,tG,xT]
 refine⟨λh=>?_,λh=>?_⟩
 . have h:=qA h;obtain⟨z,aa,ab⟩:=ao t.toNat ω;rw[K6 v h,z,qQ,Wr v ω,wv (a:=t+1) ω];refine⟨⟨v,h⟩,⟨v,ω⟩,⟨qF _,ω⟩,⟨ω,ω,by rw[qT];exact G,λj r=>?_,λu R=>?_⟩,ω⟩
   . rw[E5 λe=>ab (by rw[<-e, <-(a5 j r).1];exact C6 r)];exact P j r
   by_cases a3:u=t.toNat
   . subst a3;rw[C1 ω,Q,qE,vT,wL ω,U];rfl
   rw[E5 λe=>a3 (an u t.toNat ω ω e)];exact E u ω
 have h:=qB h;rw[(ω:t.toNat=O.length),d]at E;exact⟨⟨λI=>absurd g I,λ_=>⟨λo=>absurd U o,λ_=>⟨rfl,G,P,E⟩⟩⟩⟩
def Py:An:= {loop:= [(13,⟨[7,9,10,12,14,78,79],[1],[(80,false,vI)],[],[]⟩),(19,⟨[9,10,12,14,92,93],[],[(94,false,vI)],[],[]⟩)],plan:= [(6,[3],[5],true, .done),(21,[3,7,14,18],[],false, .done)]}
def Fp(x:Dy):Prop:=let s:=(2199023255552:Nat);let n:=(1:Int);let h:=(1:Nat);let d:=(0:Int);(n<=(5:Int)/\(5:Int)<=(20:Int))/\rT1 λr=>sqG (5:Int) r.1->(d<=r.1.1/\r.1.1<=100)/\∀(L:Qt),WA L.1/\True->(∀(g:Int),g∈L.1->d<=g/\g<r.1.1)/\L.1.Nodup->A2j r.1/\∀(D:C4s),let q:Prop:=(D.2.1=6);let k:=(D.1.1.length:Int);(WA D.1.1/\WfM D.1.2.1/\O5 D.1.2.2.1/\O5 D.1.2.2.2.1/\Oa D.1.2.2.2.2)/\O5 D.2.1/\True->Rc r.1 L.1 D.1 D.2.1->(iB (decide (D.2.1≠d)) ((decide q=true->True)/\∀(r:W4),(decide q=true->(True/\True)/\r.1=true)->L5 (decide q) r.1 false=true) (True/\∀(N:GC),let t:=(N.1.1.length:Int);(WA N.1.1/\O5 N.1.2)/\True->N.1=(x.2.1,d)->(k<=(1000:Int)/\d<=N.1.2/\N.1.2<=t)/\∀(J:C0u) (o:GC),let m:=(J.1.length:Int);WB J.1/\True->((Ty.int i64).sl.pair (Ty.int i64)).wf o.1/\True->((↑J.1.length:Int)=Max.max k d/\∀(e:QQ),e∈J.1->LN e)->o.1.1=N.1.1/\d<=o.1.2/\o.1.2<=t->(∃(A:Nat),∃(T:Nat),∃(c:Nat),h<=A/\h<=T/\N4 A D.1.2.2/\Tj T J.1/\D.1.2.2.2.1<=(↑c:Int)/\(A+T+h)*(c+h)<=s/\A<=K1/\T<=K1/\N4 K1 D.1.2.1)/\∀(K:A4o),let l:=(K.1.length:Int);WB K.1/\O5 K.2.1/\True->A7p D.1 J.1 K.1 K.2.1->(∃(A:Nat),∃(T:Nat),∃(c:Nat),h<=A/\h<=T/\N4 A r.1/\Tj T K.1/\r.1.2.1<=(↑c:Int)/\(A+T+h)*(c+h)<=s/\A<=K1)/\∀(G:A4o),let y:=(G.1.length:Int);WB G.1/\O5 G.2.1/\True->(¬A4 r.1->G.1= []/\G.2.1=n)/\(A4 r.1->(l≠r.1.2.1->G.1= []/\G.2.1=4)/\(l=r.1.2.1->G.1=List.map (fun(i:Nat)=>rc (B8 K.1.length fun(j:Nat)=>el r.1 i j*rv (List.getD K.1 j zr))) (List.range r.1.1.toNat)/\G.2.1=d))->(∃(A:Nat),∃(T:Nat),∃(c:Nat),h<=A/\h<=T/\N4 A D.1.2.1/\Tj T J.1/\D.1.2.1.2.1<=(↑c:Int)/\(A+T+h)*(c+h)<=s/\A<=K1)/\∀(H:A4o),let z:=(decide (H.2.1≠d));WB H.1/\O5 H.2.1/\True->(¬A4 D.1.2.1->H.1= []/\H.2.1=n)/\(A4 D.1.2.1->(m≠D.1.2.1.2.1->H.1= []/\H.2.1=4)/\(m=D.1.2.1.2.1->H.1=List.map (fun(i:Nat)=>rc (B8 J.1.length fun(j:Nat)=>el D.1.2.1 i j*rv (List.getD J.1 j zr))) (List.range D.1.2.1.1.toNat)/\H.2.1=d))->True/\Jp λP=>let f:=(L5 (L5 (!P.1) true (decide (K.2.1≠d))) true (decide (G.2.1≠d)));P.1=true->(iB (L5 f true z) (false=true) (∃(I:D7->Prop),∃(a: _->Nat),I (d,())/\∀(p:D7),let w:=(i64.wrap (p.1+n),());let u:=(gx dQ G.1 (gx d L.1 p.1));let b:Prop:=(p.1<(L.1.length:Int));(Ty.int i64).wf p.1/\True->I p->(iB (decide b) ((d<=p.1/\b)/\(d<=gx d L.1 p.1/\gx d L.1 p.1<y)/\J8 u/\Et λr=>r.1=(rv u).num.sign->(iB (decide (r.1≠d)) (false=true) (I w/\a w<a p))) (∃(I:D7->Prop),∃(a: _->Nat),I (d,())/\∀(F:D7),let C:=(gx dQ J.1 F.1);let B:=(gx d D.1.1 F.1);let v:=(i64.wrap (F.1+n),());let b:Prop:=(F.1<k);(Ty.int i64).wf F.1/\True->I F->(iB (decide b) ((d<=F.1/\b)/\(d<=gx d D.1.1 F.1/\gx d D.1.1 F.1<y)/\(d<=F.1/\F.1<(H.1.length:Int))/\True/\Jp λM=>M.1=decide (gx dQ G.1 B=gx dQ H.1 F.1)->((!M.1)=false->d<=gx d D.1.1 F.1/\gx d D.1.1 F.1<l)/\((!M.1)=false->d<=F.1/\F.1<m)/\((!M.1)=false->J8 C)/\∀(O:C8),((!M.1)=false->(RR O.1/\True)/\O.1=rc (rv C))->((!M.1)=false->True)/\∀(Q:W4),((!M.1)=false->(True/\True)/\Q.1=decide (gx dQ K.1 B=O.1))->(iB ((L5 (!M.1) true !Q.1)) (false=true) (I v/\a v<a F))) (true=true))))))))
def C4m {M:G9} (h:sqG 5 M):∃n:Nat,n<=5/\M.1=(n:Int)/\M.2.1=(n:Int)/\A4 M/\(∀i j,qs 4 (el M i j))/\A2j M:=by
 obtain⟨n,c,d,f,b,a⟩:=h;have c:=W6 a ω ω;have d:N4 4 M:=Fu a δ λi j _ _=>b i j
 have b:M.1=(n:Int):=a.1;refine⟨n,ω,b,a.2.1,c,λi j=>XJ c (DU a) d δ i j,4,δ,δ,d,λ_ _=>⟨ω,?_⟩⟩;rw[b,qQ];exact qX (A6x (n:=5) ω) δ
def kX {m:G9} {p:Nat->Bool} {n:Nat} {r:Kf} (h:ZU m (Z8 n p) (Z8 n λi=> !p i) r) (t:n<=16384):fmd r/\kQ r=Z8 n p:=by
 obtain⟨a,b,c,_⟩:=h;have s:=Om n p;have d:r.2.2.1=((Z8 n p).length:Int):=c.1;have j:r.1.length+r.2.2.1.toNat=n:=by rw[a,d];omega
 refine⟨⟨W6 b ω ω,W6 c ω ω,by rw[a];exact b.1,by rw[a];exact b.2.1,by rw[a];exact c.2.1,by rw[a];exact A5w _ _,λo f=>?_⟩,?_⟩
 . rw[a]at f;have:=Gx.1 f;rw[a,d];omega
 unfold kQ;rw[j];refine DT λi l=>?_
 unfold PR;rw[a];cases g:p i
 . rw[rA (Gx.2 ⟨qF _,sY.2 l,by simp[g]⟩)];rfl
 rw[rC λk=>by have:=(Gx.1 k).2.2;simp[g]at this];rfl
def A5o {m:G9} {p:Nat->Bool} {n:Nat} {r:Kf} {y x:List C7} (h:ZU m (Z8 n p) (Z8 n λi=> !p i) r) (a:n<=16384) (k:C2v r y x):x.length=n/\(∀j,j<(Z8 n λi=> !p i).length->pV x (ix (Z8 n λi=> !p i) j)=pV y j)/\(∀t,t<(Z8 n p).length->B8 n (λb=>el m (ix (Z8 n p) t) b*pV x b)=0)/\∀i,i<(Z8 n λi=> !p i).length->B8 n (λb=>el m (ix (Z8 n λi=> !p i) i) b*pV x b)=B8 (Z8 n λi=> !p i).length λj=>el r.2.1 i j*pV y j:=by
 obtain⟨d,c⟩:=kX h a;obtain⟨f,g,d⟩:=k;have a:=h.1;have l:r.2.2.1=((Z8 n p).length:Int):=h.2.2.1.1;have k:=Om n p;rw[c]at d;rw[a]at f g d;have c:∀j,j<(Z8 n λi=> !p i).length->pV x (ix (Z8 n λi=> !p i) j)=pV y j:=λj a=>by
  show rv (x.getD _ zr)= _;rw[g j a,H6]
 obtain⟨g,k⟩:=B9p h (x:=pV x) λt ht=>by
  show rv (x.getD _ zr)= _;rw[d t ht,H6];exact B6 λj a=>by rw[c j a]
 exact⟨by rw[f,l];omega,c,g,λi d=>(k i d).trans (B6 λj a=>by rw[c j a])⟩
def B4f {n b:Nat} {f:Nat->C7} (h:b<n):((List.range n).map f).getD b zr=f b:=by
 rw[qE,vT,wL h];rfl
def C2w {m:G9} {p:Nat->Bool} {n s T k:Nat} {r:Kf} {y x:List C7} (h:ZU m (Z8 n p) (Z8 n λi=> !p i) r) (f:n<=16384) (o:C2v r y x) (E:1<=s) (D:∀i j,qs s (el m i j)) (t:∀j,qs T (pV y j)) (w:T<=k) (A:n*(rY s n+T+1)+1<=k):Tj k x:=λe z=>by
 obtain⟨b,F,rfl⟩:=R8 zr z;have G:=(A5o h f o).1;obtain⟨_,B⟩:=kX h f;obtain⟨_,v,d⟩:=o;rw[B]at d;rw[h.1]at v d;have H:=Om n p;cases g:p b
 . obtain⟨j,c,rfl⟩:=A2p (n:=n) (p:=λi=> !p i) (b:=b) ω (by simp[g]);rw[v j c];exact Nh (G3 (t j) w)
 obtain⟨u,l,rfl⟩:=A2p (n:=n) (p:=p) (b:=b) ω g;rw[d u l];refine Nh (G3 (VO λj c=>Hg (G3 (h.2.2.2.2.2 s E D u j l c) (A6x (a:=(Z8 n p).length) (n:=n) ω)) (t j)) ?_);have:=uJ (ω:(Z8 n λi=> !p i).length<=n) (qV (rY s n+T+1));exact qX (wU this 1) A
set_option maxHeartbeats 4000000 in
def Lk:su H2 Fp:=λx ax bh=>by
 simp only[Fp,iB,rT1,Jp,Et];refine⟨⟨δ,δ⟩,?_⟩;rintro⟨(M:G9),_⟩ _ I;simp only at I|-;obtain⟨n,b0,ad,U,v,P,ar⟩:=C4m I;refine⟨⟨ω,ω⟩,?_⟩;rintro⟨(H7:Wf),_⟩ _ ⟨r,F⟩;simp only at r F|-;refine⟨ar,?_⟩;rintro⟨(c:Kf),(H:Int),_⟩ _ E;simp only at E|-;have ap:M.1.toNat=n:=ω
 refine⟨λh=>⟨λ_=>trivial,?_⟩,λh=>?_⟩
 . rintro⟨(b2:Bool),_⟩ ab;simp only at ab|-;have h:=qA h;have ao:H=6:=by
    by_cases aa:nonsing (Eu M H7).length (Hy M (Eu M H7) (Eu M H7))
    . exact absurd (A7b E v (ad.trans U.symm) r F aa).1 h
    exact(B5s E v (ad.trans U.symm) r F aa).2
   subst ao;rw[(ab rfl).2];rfl
 have a6:H=0:=sF.1 (qB h);obtain⟨_,_,_,_,_,f⟩:=C4a E a6;subst a6;simp only[Eu,oX,ap]at f;obtain⟨a7,bg⟩:=kX f ω;have bf:=Om n (PR H7);have ah:N4 1600 c.2.1:=A6z f δ P (qX (B7y (b:=5) ω) δ);have zR:N4 1600 c.2.2:=A7a f δ P (qX (A6x (n:=5) ω) δ);have g:c.1=Z8 n λi=> !PR H7 i:=f.1
 have bi:c.1.length<=5:=by rw[g];omega
 refine⟨trivial,?_⟩;rintro⟨⟨tl,ti⟩,_⟩ _ u;have u:(tl,ti)=(x.2.1,(0:Int)):=u;cases u;simp only;refine⟨⟨ω,qG _,qF _⟩,?_⟩;rintro⟨(y:List C7),_⟩ ⟨⟨bl,bk⟩,_⟩ _ _ ⟨w,Q⟩ _;simp only at w Q|-;have w:y.length=c.1.length:=ω
 have V:Tj 1 y:=λe O=>A5v (Q e O) δ
 have b1:∀j,qs 1 (pV y j):=λj=>by
  by_cases aa:j<y.length
  . exact A5u (Q _ (C6 aa))
  show qs 1 (rv (y.getD j zr));rw[qE,rT ω];exact M5 δ
 have c1:c.2.2.2.1=(c.1.length:Int):=by rw[g];exact f.2.2.1.2.1
 have aj:c.2.1.2.1=(c.1.length:Int):=by rw[g];exact f.2.1.2.1
 have bb:c.2.1.1=(c.1.length:Int):=by rw[g];exact f.2.1.1
 refine⟨⟨1600,1,5,δ,δ,zR,V,ω,δ,δ,δ,λb5 v e O=>G4 (ah b5 v e O) δ⟩,?_⟩;rintro⟨(X:List C7),(ak:Int),_⟩ _ Y;obtain⟨a3,D⟩:=(Y.s.2 a7).2 w;clear Y;simp only at a3 D|-;subst a3;obtain⟨ag,bm,b6,b7⟩:=A5o f ω D;have b9:Tj 1600 X:=C2w (T:=1) f ω D δ P b1 δ (by
  have aa:=A6x (s:=4) (a:=n) (n:=5) ω;have au:=uJ b0 (show rY 4 n+1+1<=294 from qX (wU (wU aa 1) 1) δ);omega)
 have b8:N4 1600 M:=by
  obtain⟨bj,_,_,be,au,aa⟩:=I;exact Fu aa δ λi j _ _=>G3 (au i j) δ
 refine⟨⟨1600,1600,5,δ,δ,b8,b9,ω,δ,δ⟩,?_⟩;rintro⟨(b:List C7),(am:Int),_⟩ _ ⟨_,a0⟩;obtain⟨J,a4⟩:=(a0 v).2 (by rw[ag];exact U.symm);clear a0;simp only at J a4|-;subst a4;refine⟨⟨1600,1,5,δ,δ,ah,V,ω,δ,δ⟩,?_⟩;rintro⟨(G:List C7),(an:Int),_⟩ _ ⟨_,a2⟩;obtain⟨N,a5⟩:=(a2 a7.1).2 (by rw[w];exact aj.symm);clear a2;simp only at N a5|-;subst a5;refine⟨trivial,?_⟩;rintro⟨(ai:Bool),_⟩ _ Z;simp only at Z|-;subst Z;refine⟨λh=>(by cases h),λ_=>?_⟩;have ba:b.length=n:=by rw[J,tG,xT];omega
 have bc:G.length=c.1.length:=by rw[N,tG,xT];omega
 have a1:∀i,i<n->b.getD i zr=rc (B8 n λj=>el M i j*pV X j):=λi hi=>by
  rw[J,B4f ω,ag];rfl
 refine⟨λp=>0<=p.1/\p.1<=(H7.length:Int),λp=>((H7.length:Int)-p.1).toNat,⟨qG _,qF _⟩,?_⟩;rintro⟨(i:Int),_⟩ _ ⟨d,R⟩;simp only at d R|-;have av:=ax;refine⟨λh=>?_,λh=>?_⟩
 . have h:=qA h;have a9:H7.getD i.toNat 0∈H7:=C6 ω;rw[K6 d h];have o:=r _ a9;generalize H7.getD i.toNat 0=W at*;have av:H7.length<=5:=by
    have aa:=B8b F r;have au:=C3b M H7;omega
   obtain⟨b4,u,e⟩:=A2p (n:=n) (p:=PR H7) (b:=W.toNat) ω (rA (by rw[sV o.1];exact a9));have az:b.getD W.toNat zr=rc 0:=by rw[a1 _ ω, <-e,b6 b4 u]
   rw[Wr o.1 ω,az,wv ω];refine⟨⟨d,h⟩,⟨o.1,ω⟩,Cq (M5 (k:=1) δ) δ,?_⟩;rintro⟨(s:Int),_⟩ _ t;simp only at t|-;rw[H6]at t;have t:s=0:=t;subst t;exact⟨λh=>absurd rfl (qA h),λ_=>⟨⟨ω,ω⟩,ω⟩⟩
 refine⟨λp=>0<=p.1/\p.1<=(c.1.length:Int),λp=>((c.1.length:Int)-p.1).toNat,⟨qG _,qF _⟩,?_⟩;rintro⟨(i:Int),_⟩ _ ⟨d,R⟩;simp only at d R|-;refine⟨λh=>?_,λ_=>by trivial⟩;have h:=qA h;have a8:i.toNat<(Z8 n λi=> !PR H7 i).length:=by rw[<-g];omega
 have ac:=jM a8;have o:c.1.getD i.toNat 0=(ix c.1 i.toNat:Int):=by rw[g];exact ac.2.2
 have aw:ix c.1 i.toNat<n:=by rw[g];exact ac.1
 have aq:b.getD (ix c.1 i.toNat) zr=G.getD i.toNat zr:=by
  rw[a1 _ aw,N,B4f ω,g,b7 _ a8,w,g];rfl
 have ay:X.getD (ix c.1 i.toNat) zr=rc (rv (y.getD i.toNat zr)):=D.2.1 i.toNat ω;rw[K6 d h,o,Wr (qF _) ω,qQ,Wr d ω,Wr (l:=y) d ω,Wr (l:=X) (qF _) ω,qQ,aq,ay,wv ω];refine⟨⟨d,h⟩,⟨qF _,ω⟩,⟨d,ω⟩,trivial,?_⟩;rintro⟨(af:Bool),_⟩ _ B;simp only at B|-;have B:af=true:=by rw[B];exact rA trivial
 subst B;refine⟨λ_=>⟨qF _,ω⟩,λ_=>⟨d,ω⟩,λ_=>N1 (V _ (C6 ω)) δ,?_⟩;rintro⟨(b3:C7),_⟩ z;simp only at z|-;have z:=(z rfl).2;subst z;refine⟨λ_=>trivial,?_⟩;rintro⟨(ae:Bool),_⟩ A;simp only at A|-;have A:ae=true:=(A rfl).2.trans (rA trivial);subst A;exact⟨λh=>(by cases h),λ_=>⟨⟨ω,ω⟩,ω⟩⟩
end Go.Proofs.YtdbnghliccifcaaGreat
namespace Go.Vc
open Go Go.RowKit Go.Gw Go.Shelf
open Go.IntKind (i64)
structure El (t:Ty) (w:World) (Z:Nat->Prop) where
 c:List Value
 v:t.den
 h:C9 t w Z c v
def nQ {t:Ty} {w:World} {Z:Nat->Prop} :∀ {l:List t.den} {xs:List Value},G5 (C9 t w Z) xs l->∃L:List (El t w Z),L.flatMap El.c=xs/\L.map El.v=l
 | [],_,h=>⟨[],h.symm,rfl⟩
 |x::l,_,⟨c1,g,e,a,b⟩=>by
  obtain⟨L,d,f⟩:=nQ b;exact⟨⟨c1,x,a⟩::L,by rw[yM,d,e],by rw[rW,f]⟩
def nR {t:Ty} {w w':World} {Z Z':Nat->Prop} (a:∀c x,C9 t w Z c x->C9 t w' Z' c x):∀L:List (El t w Z),G5 (C9 t w' Z') (L.flatMap El.c) (L.map El.v)
 | []=>rfl
 |p::L=>⟨p.c,L.flatMap El.c,rfl,a _ _ p.h,nR a L⟩
def oA {α:Type} {enc:α->List Value} {k:Nat} (a:∀x,(enc x).length=k):∀(L:List α) (i r:Nat) {x:α},L[i]? =some x->r<k->(L.flatMap enc)[i*k+r]? =(enc x)[r]?
 | [],_,_,_,h,_=>by cases h
 |y::L,0,r,x,h,b=>by
  simp only[g1u,rF]at h;subst h;rw[yM,xV,sD,vF (by rw[a];exact b)]
 |y::L,i+1,r,x,h,b=>by
  rw[uP]at h;have e:(i+1)*k+r-k=i*k+r:=by rw[tZ];omega
  rw[yM,tS (by rw[a,tZ];omega),a,e];exact oA a L i r h b
def oB {α:Type} {enc:α->List Value} {k:Nat} (a:∀x,(enc x).length=k):∀L:List α,(L.flatMap enc).length=L.length*k
 | []=>by simp
 |x::L=>by rw[yM,rQ,oB a L,a,rK,tZ];omega
def nZ {α:Type} [Inhabited α] {enc:α->List Value} {k:Nat} (c:∀x,(enc x).length=k) (d:Array α) {j:Nat} (a:j<d.size*k):(d.toList.flatMap enc)[j]? =some (Go.Sort.flatK enc k d)[j]!:=by
 have f:0<k:=by
  rcases vN k with h|h
  . rw[h,wQ]at a;omega
  exact h
 have b:j/k<d.size:=(tU f).2 a;have g:j%k<k:=wJ _ f;have e:j=j/k*k+j%k:=by rw[sN];exact(xA j k).symm
 rw[Go.Sort.get_flatK enc k d j a];have a:d.toList[j/k]? =some d[j/k]!:=by
  rw[wM,uU b,g1a d _ b]
 have:=oA c d.toList (j/k) (j%k) a g;rw[<-e]at this;have a:j%k<(enc d[j/k]!).length:=by rw[c];exact g
 rw[this,qM a,g1a (enc d[j/k]!) (j%k) a]
def A9m {F cur:Array Value} {n:Nat} {xs:List Value} (c:xs.length=n) (a:F.size=n) (b:n<=cur.size) (h:∀j,j<n->xs[j]? =some F[j]!):(Go.Sort.putCells id 0 F cur).size=cur.size/\(Go.Sort.putCells id 0 F cur).toList.take n=xs:=by
 refine⟨by simp[Go.Sort.putCells],?_⟩;apply xS;intro j;by_cases a:j<n
 . rw[rX a,h j a,wM];unfold Go.Sort.putCells;rw[Array.getElem?_mapIdx,uU ω];simp only[xC];rw[qR ⟨rS _,ω⟩];rfl
 rw[rT (by simp;omega),rT ω]
def B5i {α:Type} [Inhabited α] {d a:Array α} (h:Go.Sort.PermIn 0 d.size d a):a.toList.Perm d.toList:=by
 obtain⟨b,_,a⟩:=h;rw[g3a,g3a]at a;simpa[List.extract_eq_take_drop,qP,b]using a
def A4c {α:Type} [Inhabited α] {lt:α->α->Bool} {c:Array α} {n:Nat} (d:c.size=n) (h:Go.Sort.SortedIn lt 0 n c):c.toList.Pairwise λa b=>lt b a=false:=by
 rw[uH];intro i j d k g;have f:i<c.size:=by simpa using d
 have d:j<c.size:=by simpa using k
 have:=h i j (rS _) g ω;rw[g1a c i f,g1a c j d]at this;simpa using this
def C0j {w:World} {b m:Nat} {f:Array Value->Array Value} {a:Array Obj} :w.heap.size<=(Go.Sort.grow (Go.Sort.mapBlock (Go.Sort.ahead w m) b f) a).heap.size:=by
 simp[Go.Sort.grow,Go.Sort.mapBlock,Go.Sort.ahead]
def A0q {w:World} {b m j:Nat} {f:Array Value->Array Value} {d:Array Obj} (a:j<w.heap.size) (c:j≠b):(Go.Sort.grow (Go.Sort.mapBlock (Go.Sort.ahead w m) b f) d).heap[j]? =w.heap[j]?:=by
 rw[Go.Sort.heap_grow_old _ _ (by simpa[Go.Sort.mapBlock,Go.Sort.ahead]using a)];unfold Go.Sort.mapBlock;simp only;rw[g2w,qL (Ne.symm c)];rfl
def C0i {w:World} {b m:Nat} {f:Array Value->Array Value} {c:Array Obj} {cur:Array Value} {e:TypeId} (a:w.heap[b]? =some (.cells cur e (0,0))):(Go.Sort.grow (Go.Sort.mapBlock (Go.Sort.ahead w m) b f) c).heap[b]? =some (.cells (f cur) e (0,0)):=by
 have c:b<w.heap.size:=(rV.1 a).1;rw[Go.Sort.heap_grow_old _ _ (by simpa[Go.Sort.mapBlock,Go.Sort.ahead]using c)];unfold Go.Sort.mapBlock;simp only;rw[g2w,qR rfl];have:(Go.Sort.ahead w m).heap[b]? =some (.cells cur e (0,0)):=a;rw[this];rfl
def Lz {P:Program} {f:FuncId} (a:Gq P f=true) (args:Array Value) (w:World):(callFunc f args).run P w= .ok (.enter f args) w:=by
 unfold Gq at a;split at a
 . rename_i fn d;simp only[qC,rN]at a;have c:¬fn.body=none:=by intro hb;rw[hb]at a;simp at a
   have b:¬fn.name= "runtime.NumGoroutine" :=by simpa using a.1
   simp[callFunc,d,b,c,go_sem]
 cases a
def C0k {α d:Type} {φ:α->α->Int} (v:d->α) (f:∀a,¬φ a a<0) (g:∀a b c,φ a b<0->φ b c<0->φ a c<0) (i:∀a b c,¬φ a b<0->¬φ b c<0->¬φ a c<0):
 Go.Sort.SWO (Go.Proofs.ltOf λx y:d=>φ (v x) (v y)):=by
 refine⟨λx=>?_,λx y z h d=>?_,λx y z h d=>?_⟩
 . exact rC (f _)
 . exact rA (g _ _ _ (qA h) (qA d))
 exact rC (i _ _ _ (qB h) (qB d))
def A9x {t:Ty} {φ:t.den->t.den->Int} {e:TypeId} {w w':World} {Z:Nat->Prop} {fv:Value} {g c:Nat} {cur F:Array Value} {k:Nat} {x:List t.den} {L L':List (El t w Z)}
 (E:∀b,Z b->b<w.heap.size) (I:¬Z g) (i:t.size=k)
 (a0:w.heap[g]? =some (.cells cur e (0,0))) (n:L.length<=c) (N:c<=maxLen) (s:cur.size=c*k) (D:L.map El.v=x)
 (u:L'.Perm L) (Q:L'.Pairwise λa b=>¬φ b.v a.v<0)
 (A:F.size=L.length*k) (B:∀j,j<L.length*k->(L'.flatMap El.c)[j]? =some F[j]!)
 (O:w'.os=w.os) (U:w'.tape=w.tape) (P:w'.output=w.output) (T:w.heap.size<=w'.heap.size)
 (l:∀j,j<w.heap.size->j≠g->w'.heap[j]? =w.heap[j]?) (H:w'.heap[g]? =some (.cells (Go.Sort.putCells id 0 F cur) e (0,0))):
 Y6 (YQ w (Ce t e φ).args [.slice (some ⟨g,0,none⟩) L.length c,fv]) w w'/\∃(r:Br (Ce t e φ).res) (o:Od (Ce t e φ).args) (us:List Value) (Zn:Nat->Prop),(Ce t e φ).post (x,()) r/\(Q7 (Ce t e φ).args=true->(Ce t e φ).mpost (x,()) r o)/\Value.tuple #[]=BB us/\(∀b,Zn b->(w.heap.size<=b/\b<w'.heap.size)\/((Ce t e φ).shared=true/\Z b))/\Oj w.heap.size w' Zn (Ce t e φ).res us r/\Xr w w' Zn (Ce t e φ).args [.slice (some ⟨g,0,none⟩) L.length c,fv] o:=by
 have f:L'.length=L.length:=u.length_eq;have G:∀p:El t w Z,p.c.length=k:=λp=>by rw[<-i];exact C9.length p.h
 have y:(L'.flatMap El.c).length=L.length*k:=by rw[oB G,f]
 obtain⟨W,X⟩:=A9m y A (by rw[s];exact rL _ n) B;have R:O6 Z w w':=λb d=>l b (E b d) (λe=>I (e▸d))
 refine⟨⟨O,U,P,T,λj J M=>l j J (λz=>M ?_),trivial⟩,(),(L'.map El.v,()),[],Z,trivial,λ_=>⟨?_,?_⟩,rfl,λb d=> .inr ⟨rfl,d⟩,rfl,?_⟩
 . subst z;refine⟨(.row t e, .slice (some ⟨j,0,none⟩) L.length c),rD,?_⟩;rfl
 . rw[<-D];exact u.map _
 . exact wW.2 Q
 refine⟨⟨L'.flatMap El.c,⟨?_, .inr ⟨g,c,Go.Sort.putCells id 0 F cur,?_,rS _,H,?_,N,?_,?_⟩⟩,?_⟩,trivial⟩
 . simp only[tG];rw[y,f,i]
 . simp only[tG,f]
 . simp only[tG,f];exact n
 . rw[W,s,i]
 . simp only[tG,f,i];exact X
 refine nR (λY a1 V=>?_) L';exact C9.mono (λb d=>d) R V
def B0w (P:Program) (g:FuncId) (t:Ty) (φ:t.den->t.den->Int):Prop:=
 ∀(w:World) (Z:Nat->Prop) (c1 a:List Value) (x y:t.den),C9 t w Z c1 x->C9 t w Z a y->Calls P g #[.agg c1.toArray, .agg a.toArray] w λe b=>e= .returned (.int .i64 (φ x y))/\∃q a,b=Go.Sort.grow (w.drewN q) a
def A0l {P:Program} {ρ:Ren} (LL:Go.Proofs.SlLaysF0.n6 P ρ) {t:Ty} {e:TypeId} {g:FuncId} {φ:t.den->t.den->Int} (R:∀w,(isAgg (ρ.t 24)).run P w= .ok true w) (ah:∀w,(Go.sizeOf (ρ.t 24)).run P w= .ok t.size w)
 (U:∀a,¬φ a a<0) (V:∀a b c,φ a b<0->φ b c<0->φ a c<0) (W:∀a b c,¬φ a b<0->¬φ b c<0->¬φ a c<0) (a6:Gq P g=true) (a3:B0w P g t φ):A4x P (ρ.f 6) g t e φ:=by
 rintro w Z am aj D ⟨an,M,a5,a0⟩ a8;obtain⟨L,rfl,rfl⟩:=nQ a5;have Y:(L.map El.v).length=L.length:=tG ..;rw[Y]at M a8;obtain⟨ai,af⟩:=M;have z:∀(p:Option Addr) (d:Nat),L= []->Gw.cD P (ρ.f 6) [.slice p 0 d, .func (.func g) #[] #[]] w λu Q=>u= .tuple #[]/\Q=w:=λp d _=>
  Calls.mono (Go.Proofs.AnyF.slices_SortFunc_none LL p d (.func (.func g) #[] #[]) w) λ_ _ ⟨N,hw⟩=>⟨_,N,rfl,hw⟩
 rcases af with⟨rfl,a9⟩ | ⟨b,d,cur,rfl,_,h,G,J,H,ae⟩
 . have n:L= []:=qN a9;subst n;refine(z none 0 rfl).mono ?_;rintro _ _ ⟨rfl,rfl⟩;refine⟨Y6.of (R5.refl _),(),([],()),[],(λ_=>False),trivial,λ_=>⟨wR _,List.Pairwise.nil⟩,rfl,λ_ s=>s.elim,rfl,⟨⟨[],World.ownsRow_nil _ _ _ _,rfl⟩,trivial⟩⟩
 have E:¬Z b:=a0 b rfl;have v:∀p:El t w Z,p.c.length=t.size:=λp=>C9.length p.h
 have a1:b<w.heap.size:=(rV.1 h).1;rcases n:L with _ | ⟨ag,L0⟩
 . subst n;refine(z _ d rfl).mono ?_;rintro _ _ ⟨rfl,rfl⟩;refine⟨Y6.of (R5.refl _),(),([],()),[],(λ_=>False),trivial,λ_=>⟨wR _,List.Pairwise.nil⟩,rfl,λ_ s=>s.elim,rfl,⟨⟨[],⟨by simp, .inr ⟨b,d,cur,rfl,rS _,h,G,J,H,by simp⟩⟩,rfl⟩,trivial⟩⟩
 rw[<-n];clear z
 haveI:Inhabited (El t w Z):=⟨ag⟩
 have X:Go.Sort.HoldsK El.c t.size w b 0 L.toArray:=by
  intro r j;rw[Go.Sort.size_flatK]at j;have a7:r<L.length*t.size:=by simpa using j
  have N:=nZ v L.toArray j;rw[sD];refine⟨?_,?_⟩
  . have T:cur[r]? =some (Go.Sort.flatK El.c t.size L.toArray)[r]!:=by
     rw[<-N];simp only;rw[<-ae,rX a7,wM]
    simp only[World.cell?,h];exact T
  simp[World.frozen?,h]
 have a4:Go.Proofs.CmpLays P g #[] El.c t.size (λx y:El t w Z=>φ x.v y.v) b 0 L.toArray.size w:=by
  intro m O T a7 x y;have N:O6 Z w (Go.Proofs.sortWorldK El.c t.size w b 0 m T O):=by
   intro B o;have:B≠b:=λe=>E (e▸o)
   exact A0q (D B o) this
  exact a3 _ Z x.c y.c x.v y.v (C9.mono (λ_ i=>i) N x.h) (C9.mono (λ_ i=>i) N y.h)
 have a2:=Go.Proofs.AnyQ.slices_SortFunc LL t.size R ah El.c v (λx=>C9.oneCell x.h) (λx y:El t w Z=>φ x.v y.v) (C0k El.v U V W) g #[] b 0 d L.toArray w (Lz a6) a4 X a1 (by simp;omega);refine Calls.mono a2 ?_;rintro _ Q ⟨rfl,l,ak,O,A,ad,rfl⟩;refine⟨_,rfl,?_⟩;have ab:=B5i A;have ac:=A4c A.1 ad;have I:l.size=L.length:=by rw[A.1];simp
 refine A9x (k:=t.size) (F:=Go.Sort.flatK El.c t.size l) (L:=L) (L':=l.toList) (cur:=cur) (x:=L.map El.v) D E rfl h G J H rfl ab ?_ ?_ ?_ rfl rfl rfl ?_ ?_ ?_
 . exact ac.imp λi=>qB i
 . rw[Go.Sort.size_flatK,I]
 . intro r j;exact nZ v l (by rw[I];exact j)
 . exact C0j
 . intro B o aa;exact A0q o aa
 exact C0i h
end Go.Vc
namespace Go.Proofs
open Go.Proofs.Tryz
open Go.Shelf
open Go.IntKind (i64)
def Tryz.sortEnt_ren:Go.Shelf.Ren:=⟨fun|6=>100|15=>138|14=>137|28=>181|29=>182|20=>173|21=>174|22=>175|23=>176|24=>177|25=>178|26=>179|27=>180|46=>207|47=>208|48=>209|49=>210|50=>211|57=>223|n=>n,fun|22=>49|24=>105|25=>134|3=>3|39=>168|0=>0|53=>108|55=>89|4=>4|46=>196|45=>195|50=>200|5=>5|9=>9|66=>220|70=>224|76=>234|77=>235|n=>n,fun|n=>n⟩
def Tryz.sortEnt:Go.Proofs.SlLaysF0.n6 prog sortEnt_ren:= {
 mixed:=by kernel_rfl
 f6:=⟨f100.name,δ,func100.trans (sA some (by kernel_rfl))⟩
 f14:=⟨f137.name,δ,func137.trans (sA some (by kernel_rfl))⟩
 f15:=func138.trans (sA some (by kernel_rfl))
 f20:=⟨f173.name,δ,func173.trans (sA some (by kernel_rfl))⟩
 f21:=⟨f174.name,δ,func174.trans (sA some (by kernel_rfl))⟩
 f22:=⟨f175.name,δ,func175.trans (sA some (by kernel_rfl))⟩
 f23:=⟨f176.name,δ,func176.trans (sA some (by kernel_rfl))⟩
 f24:=⟨f177.name,δ,func177.trans (sA some (by kernel_rfl))⟩
 f25:=⟨f178.name,δ,func178.trans (sA some (by kernel_rfl))⟩
 f26:=⟨f179.name,δ,func179.trans (sA some (by kernel_rfl))⟩
 f27:=⟨f180.name,δ,func180.trans (sA some (by kernel_rfl))⟩
 f28:=func181.trans (sA some (by kernel_rfl))
 f29:=func182.trans (sA some (by kernel_rfl))
 f46:=⟨f207.name,δ,func207.trans (sA some (by kernel_rfl))⟩
 f47:=func208.trans (sA some (by kernel_rfl))
 f48:=func209.trans (sA some (by kernel_rfl))
 f49:=⟨f210.name,δ,func210.trans (sA some (by kernel_rfl))⟩
 f50:=⟨f211.name,δ,func211.trans (sA some (by kernel_rfl))⟩
 f57:=⟨f223.name,δ,func223.trans (sA some (by kernel_rfl))⟩
 t0:=underlying0
 a0:=isAgg0
 z0:=sizeOf0
 v0:=zeroValue0
 t3:=underlying3
 a3:=isAgg3
 z3:=sizeOf3
 v3:=zeroValue3
 t4:=underlying4
 a4:=isAgg4
 z4:=sizeOf4
 v4:=zeroValue4
 t5:=underlying5
 a5:=isAgg5
 z5:=sizeOf5
 v5:=zeroValue5
 t9:=underlying9
 a9:=isAgg9
 z9:=sizeOf9
 v9:=zeroValue9
 t22:=underlying49
 a22:=isAgg49
 z22:=sizeOf49
 v22:=zeroValue49
 t25:=underlying134
 a25:=isAgg134
 z25:=sizeOf134
 v25:=zeroValue134
 t39:=underlying168
 a39:=isAgg168
 z39:=sizeOf168
 v39:=zeroValue168
 t45:=underlying195
 a45:=isAgg195
 z45:=sizeOf195
 v45:=zeroValue195
 t46:=underlying196
 a46:=isAgg196
 z46:=sizeOf196
 v46:=zeroValue196
 t50:=underlying200
 a50:=isAgg200
 z50:=sizeOf200
 v50:=zeroValue200
 t53:=underlying108
 a53:=isAgg108
 z53:=sizeOf108
 v53:=zeroValue108
 t55:=underlying89
 a55:=isAgg89
 z55:=sizeOf89
 v55:=zeroValue89
 t66:=underlying220
 a66:=isAgg220
 z66:=sizeOf220
 v66:=zeroValue220
 t70:=underlying224
 a70:=isAgg224
 z70:=sizeOf224
 v70:=zeroValue224
 t76:=underlying234
 a76:=isAgg234
 z76:=sizeOf234
 v76:=zeroValue234
 t77:=underlying235
 a77:=isAgg235
 z77:=sizeOf235
 v77:=zeroValue235}
def Tryz.cmpInt_ren:Go.Shelf.Ren:=⟨fun|5=>102|7=>139|n=>n,fun|22=>3|3=>3|4=>4|n=>n,fun|n=>n⟩
def Tryz.cmpInt:Go.Proofs.SlLaysC2.n5 prog cmpInt_ren:= {
 mixed:=by kernel_rfl
 f5:=⟨f102.name,δ,func102.trans (sA some (by kernel_rfl))⟩
 f7:=⟨f139.name,δ,func139.trans (sA some (by kernel_rfl))⟩
 t3:=underlying3
 a3:=isAgg3
 z3:=sizeOf3
 v3:=zeroValue3
 t4:=underlying4
 a4:=isAgg4
 z4:=sizeOf4
 v4:=zeroValue4
 t22:=underlying3
 a22:=isAgg3
 z22:=sizeOf3
 v22:=zeroValue3}
def Tryz.sortedInt_ren:Go.Shelf.Ren:=⟨fun|6=>151|8=>193|9=>194|11=>216|13=>138|12=>217|23=>181|24=>182|14=>227|15=>228|16=>229|17=>230|18=>231|19=>232|20=>233|21=>234|22=>235|25=>239|26=>208|27=>209|28=>240|29=>241|30=>139|31=>243|n=>n,fun|26=>3|28=>186|24=>25|0=>0|3=>3|37=>168|48=>108|50=>89|4=>4|40=>196|39=>195|45=>200|5=>5|9=>9|51=>220|55=>224|57=>234|58=>235|33=>128|n=>n,fun|n=>n⟩
def Tryz.sortedInt:Go.Proofs.SlLaysZI.n6 prog sortedInt_ren:= {
 mixed:=by kernel_rfl
 f6:=⟨f151.name,δ,func151.trans (sA some (by kernel_rfl))⟩
 f8:=⟨f193.name,δ,func193.trans (sA some (by kernel_rfl))⟩
 f11:=⟨f216.name,δ,func216.trans (sA some (by kernel_rfl))⟩
 t0:=underlying0
 a0:=isAgg0
 z0:=sizeOf0
 v0:=zeroValue0
 t24:=underlying25
 a24:=isAgg25
 z24:=sizeOf25
 v24:=zeroValue25
 t26:=underlying3
 a26:=isAgg3
 z26:=sizeOf3
 v26:=zeroValue3
 t28:=underlying186
 a28:=isAgg186
 z28:=sizeOf186
 v28:=zeroValue186
 i26:=by kernel_rfl}
def Tryz.keysGo_ren:Go.Shelf.Ren:=⟨fun|10=>195|n=>n,fun|33=>128|23=>183|0=>0|4=>4|26=>3|3=>58|n=>n,fun|n=>n⟩
def Tryz.keysGo:Go.Proofs.SlLaysZI.n10 prog keysGo_ren:= {
 mixed:=by kernel_rfl
 f10:=⟨f195.name,δ,func195.trans (sA some (by kernel_rfl))⟩
 t0:=underlying0
 a0:=isAgg0
 z0:=sizeOf0
 v0:=zeroValue0
 t4:=underlying4
 a4:=isAgg4
 z4:=sizeOf4
 v4:=zeroValue4
 t23:=underlying183
 a23:=isAgg183
 z23:=sizeOf183
 v23:=zeroValue183
 t26:=underlying3
 a26:=isAgg3
 z26:=sizeOf3
 v26:=zeroValue3
 t33:=underlying128
 a33:=isAgg128
 z33:=sizeOf128
 v33:=zeroValue128}
def Tryz.sortInt_ren:Go.Shelf.Ren:=⟨fun|5=>194|8=>138|7=>217|19=>181|20=>182|10=>227|11=>228|12=>229|13=>230|14=>231|15=>232|16=>233|17=>234|18=>235|30=>239|31=>208|32=>209|33=>240|34=>241|35=>139|40=>243|n=>n,fun|23=>25|25=>3|3=>3|32=>168|22=>25|0=>0|44=>108|46=>89|4=>4|36=>196|35=>195|41=>200|5=>5|9=>9|53=>220|57=>224|63=>234|64=>235|n=>n,fun|n=>n⟩
def Tryz.sortInt:Go.Proofs.SlLaysM.n5 prog sortInt_ren:= {
 mixed:=by kernel_rfl
 f5:=⟨f194.name,δ,func194.trans (sA some (by kernel_rfl))⟩
 f7:=⟨f217.name,δ,func217.trans (sA some (by kernel_rfl))⟩
 f8:=func138.trans (sA some (by kernel_rfl))
 f10:=⟨f227.name,δ,func227.trans (sA some (by kernel_rfl))⟩
 f11:=⟨f228.name,δ,func228.trans (sA some (by kernel_rfl))⟩
 f12:=⟨f229.name,δ,func229.trans (sA some (by kernel_rfl))⟩
 f13:=⟨f230.name,δ,func230.trans (sA some (by kernel_rfl))⟩
 f14:=⟨f231.name,δ,func231.trans (sA some (by kernel_rfl))⟩
 f15:=⟨f232.name,δ,func232.trans (sA some (by kernel_rfl))⟩
 f16:=⟨f233.name,δ,func233.trans (sA some (by kernel_rfl))⟩
 f17:=⟨f234.name,δ,func234.trans (sA some (by kernel_rfl))⟩
 f18:=⟨f235.name,δ,func235.trans (sA some (by kernel_rfl))⟩
 f19:=func181.trans (sA some (by kernel_rfl))
 f20:=func182.trans (sA some (by kernel_rfl))
 f30:=⟨f239.name,δ,func239.trans (sA some (by kernel_rfl))⟩
 f31:=func208.trans (sA some (by kernel_rfl))
 f32:=func209.trans (sA some (by kernel_rfl))
 f33:=⟨f240.name,δ,func240.trans (sA some (by kernel_rfl))⟩
 f34:=⟨f241.name,δ,func241.trans (sA some (by kernel_rfl))⟩
 f35:=⟨f139.name,δ,func139.trans (sA some (by kernel_rfl))⟩
 f40:=⟨f243.name,δ,func243.trans (sA some (by kernel_rfl))⟩
 t0:=underlying0
 a0:=isAgg0
 z0:=sizeOf0
 v0:=zeroValue0
 t3:=underlying3
 a3:=isAgg3
 z3:=sizeOf3
 v3:=zeroValue3
 t4:=underlying4
 a4:=isAgg4
 z4:=sizeOf4
 v4:=zeroValue4
 t5:=underlying5
 a5:=isAgg5
 z5:=sizeOf5
 v5:=zeroValue5
 t9:=underlying9
 a9:=isAgg9
 z9:=sizeOf9
 v9:=zeroValue9
 t22:=underlying25
 a22:=isAgg25
 z22:=sizeOf25
 v22:=zeroValue25
 t23:=underlying25
 a23:=isAgg25
 z23:=sizeOf25
 v23:=zeroValue25
 t25:=underlying3
 a25:=isAgg3
 z25:=sizeOf3
 v25:=zeroValue3
 t32:=underlying168
 a32:=isAgg168
 z32:=sizeOf168
 v32:=zeroValue168
 t35:=underlying195
 a35:=isAgg195
 z35:=sizeOf195
 v35:=zeroValue195
 t36:=underlying196
 a36:=isAgg196
 z36:=sizeOf196
 v36:=zeroValue196
 t41:=underlying200
 a41:=isAgg200
 z41:=sizeOf200
 v41:=zeroValue200
 t44:=underlying108
 a44:=isAgg108
 z44:=sizeOf108
 v44:=zeroValue108
 t46:=underlying89
 a46:=isAgg89
 z46:=sizeOf89
 v46:=zeroValue89
 t53:=underlying220
 a53:=isAgg220
 z53:=sizeOf220
 v53:=zeroValue220
 t57:=underlying224
 a57:=isAgg224
 z57:=sizeOf224
 v57:=zeroValue224
 t63:=underlying234
 a63:=isAgg234
 z63:=sizeOf234
 v63:=zeroValue234
 t64:=underlying235
 a64:=isAgg235
 z64:=sizeOf235
 v64:=zeroValue235}
end Go.Proofs
namespace Go.Proofs.YtdbnghliccifcaaGreat
open Go.Proofs.Tryz
open Go.Vc Go.Gw Go.Lib Go.Shelf
open Go.IntKind (i64)
def Yz (w:World) (o:Obj):w.alloc o= {w with heap:=w.heap.push o} :=rfl
def B1v (a b:Int) (c d:List Value) (w:World):Calls prog 101 #[.agg (.int .i64 a::c).toArray, .agg (.int .i64 b::d).toArray] w λe w'=>e= .returned (.int .i64 (Lib.compareInt a b))/\∃q h,w'=Go.Sort.grow (w.drewN q) h:=by
 have i:∀args w,(callFunc 102 args).run prog w= .ok (.enter 102 args) w:=Go.Vc.Lz (by kernel_rfl);have f:=fun(w:World)=>AnyG.cmp_Compare_int cmpInt a b w
 go_enter func101,ntmps101
 go_wp2_with (go_at_fn (102);refine(f _).mono ?_;rintro e w' ⟨rfl,g⟩;rw[g])
 go_ret
 refine⟨rfl,0, #[.cells (Value.int .i64 a::c).toArray 105, .cells (Value.int .i64 b::d).toArray 105],?_⟩;rw[Yz,Yz];simp[Go.Sort.grow,World.drewN];apply yT.1;simp
def B1u (a b:Int):Lib.compareInt a b=N3 a b:=by
 unfold Lib.compareInt N3
 (repeat' split)<;>first|rfl|omega
def C2k:B0w prog 101 tE (λa b:D5=>N3 a.1 b.1):=by
 rintro w Z c1 f x y ⟨g,c,rfl,⟨rfl,_⟩,_⟩ ⟨h,d,rfl,⟨rfl,_⟩,_⟩;have:=B1v x.1 y.1 c d w;rw[B1u]at this;exact this
def C0d:Yx prog 100 (VQ 101 tE 105 (λa b=>N3 a.1 b.1)):=by
 refine aG (tys:= []) (A0l (ρ:=sortEnt_ren) sortEnt (t:=tE) (e:=105) (g:=101) (φ:=λa b:D5=>N3 a.1 b.1) isAgg105 sizeOf105 (λa=>?_) (λa b c=>?_) (λa b c=>?_) (by kernel_rfl) C2k);all_goals (simp only[N3];(repeat' split)<;>omega)
def A8e (a b:Int) (c d:List Value) (w:World):Calls prog 188 #[.agg (.int .i64 a::c).toArray, .agg (.int .i64 b::d).toArray] w λe w'=>e= .returned (.int .i64 (Lib.compareInt a b))/\∃q h,w'=Go.Sort.grow (w.drewN q) h:=by
 have i:∀args w,(callFunc 102 args).run prog w= .ok (.enter 102 args) w:=Go.Vc.Lz (by kernel_rfl);have f:=fun(w:World)=>AnyG.cmp_Compare_int cmpInt a b w
 go_enter func188,ntmps188
 go_wp2_with (go_at_fn (102);refine(f _).mono ?_;rintro e w' ⟨rfl,g⟩;rw[g])
 go_ret
 refine⟨rfl,0, #[.cells (Value.int .i64 a::c).toArray 105, .cells (Value.int .i64 b::d).toArray 105],?_⟩;rw[Yz,Yz];simp[Go.Sort.grow,World.drewN];apply yT.1;simp
def B7n:B0w prog 188 tE (λa b:D5=>N3 a.1 b.1):=by
 rintro w Z c1 f x y ⟨g,c,rfl,⟨rfl,_⟩,_⟩ ⟨h,d,rfl,⟨rfl,_⟩,_⟩;have:=A8e x.1 y.1 c d w;rw[B1u]at this;exact this
def B5x:Yx prog 100 (VQ 188 tE 105 (λa b=>N3 a.1 b.1)):=by
 refine aG (tys:= []) (A0l (ρ:=sortEnt_ren) sortEnt (t:=tE) (e:=105) (g:=188) (φ:=λa b:D5=>N3 a.1 b.1) isAgg105 sizeOf105 (λa=>?_) (λa b c=>?_) (λa b c=>?_) (by kernel_rfl) B7n);all_goals (simp only[N3];(repeat' split)<;>omega)
def B5c (n:Int) (w:World):Calls prog 96 #[.int .i64 n] w λe w'=>e= .returned (.func (.func 97) #[] #[.pointer (some ⟨w.heap.size,0,none⟩)])/\w'=w.alloc (.cells #[.int .i64 n] 3):=by
 go_enter func96,ntmps96
 go_wp2
 go_ret
 exact⟨rfl,rfl⟩
def C3u (o:B7 prog 97 M0):Yx prog 96 (B2y prog [(false, .int .i64)] false .bool (.int .i64) (λn x=>decide (x.1<0\/n<=x.1))):=by
 refine B2z ?_;rintro w Z J n ⟨A,r⟩;obtain rfl:J= .int .i64 n:=by simpa using A
 refine Calls.mono (B5c _ w) ?_;rintro _ _ ⟨rfl,rfl⟩;have z:(w.alloc (.cells #[Value.int .i64 n] 3)).heap.size=w.heap.size+1:=by simp
 refine⟨_,rfl,R5.alloc w _,(λb=>b=w.heap.size),λb a=> .inr ⟨ω,by rw[z,a];omega⟩,97,[.pointer (some ⟨w.heap.size,0,none⟩)],rfl,by kernel_rfl,?_⟩;rintro d Z1 R ⟨i,_⟩ y g F ⟨f,T,rfl,B,rfl⟩ _;have k:(w.alloc (.cells #[Value.int .i64 n] 3)).heap[w.heap.size]? =some (.cells #[Value.int .i64 n] 3 (0,0)):=by rw[Yz];simp
 have l:d.heap[w.heap.size]? =some (.cells #[Value.int .i64 n] 3 (0,0)):=(y _ rfl).trans k;have v:Z9 prog d (λb=>Z1 b\/b=w.heap.size) M0.args [f, .pointer (some ⟨w.heap.size,0,none⟩)] (i,n,()):=by
  refine⟨_,_,rfl,?_,_,_,rfl,?_,rfl⟩
  . exact B
  exact⟨w.heap.size,0,[Value.int .i64 n],rfl, .inr rfl,λj I c=>by
   rcases j with _ |j
   . simp only[g1u,rF]at c;subst c;rw[K5];simp[World.cell?,l]
   simp at c,rfl,r⟩
 have:=o d (λb=>Z1 b\/b=w.heap.size) [f, .pointer (some ⟨w.heap.size,0,none⟩)] (i,n,()) (λb a=>a.elim (F b) λe=>g b e) v trivial trivial;refine Gw.cD.mono this ?_;rintro I N ⟨E,⟨H,_⟩,O,P,Zn,t,_,rfl,G,⟨M,Q,rfl,D,_,rfl⟩,_⟩;refine⟨E.ext λb a=>?_,Zn,λb a=>?_,?_⟩
 . obtain⟨p,s,_⟩:=a;cases s
 . rcases G b a with h| ⟨h,_⟩
   . exact .inl h
   cases h
 have u:H=decide (i<0\/n<=i):=t;show Bl false .bool N Zn M (decide (i<0\/n<=i));rw[<-u];exact D
open Go Go.Vc Go.Gw Go.Lib Go.Shelf Go.Maps Go.Sort Go.RowKit
open Go.WideElems (Fit)
def A6o (_:Value):Option (DataW Unit×List MemPlace):=some (.nil,[])
def B8m {P:Program} {k:TypeId} (b:P.underlying k=some (.int .i64)) {n:Int} (a:GU .i64 n):keyOf P k (.int .i64 n)=some (.int .i64 n):=by
 refine keyOf_int_mk b ?_;unfold GU at a;simpa[Lit.wf]using a
def C4c {P:Program} {k:TypeId} (a:P.underlying k=some (.int .i64)) {x:MapEntry} {n:Int} (c:x.key= .int .i64 n) (b:GU .i64 n):WideElems.rd P k A6o x=some (.int .i64 n, .nil):=by
 unfold WideElems.rd;rw[c,B8m a b];rfl
def eQ {w:World} {Z:Nat->Prop} {r:Bool} {d:Ty} :∀ {es:List (Int×d.den)} {l:List MapEntry},La w Z false (.int .i64) r d l es->∀ {P:Program} {k:TypeId},P.underlying k=some (.int .i64)->(∀x∈l,∃y,WideElems.rd P k A6o x=some y)/\l.map (WideElems.rg P k A6o)=es.map λe=>(.int .i64 e.1, .nil)
 | [],l,h,P,k,b=>by
  obtain rfl:l= []:=h;exact⟨λx a=>(by cases a),rfl⟩
 |e::es,l,h,P,k,c=>by
  obtain⟨x,s,rfl,⟨f,g⟩,_,i⟩:=h;have j:x.key= .int .i64 e.1:=by simpa using f
  have b:=C4c c j g;obtain⟨n,o⟩:=eQ i c;refine⟨λy a=>?_,?_⟩
  . rcases qW.1 a with rfl|a
    . exact⟨_,b⟩
    exact n y a
  rw[rW,rW,o];congr 1;unfold WideElems.rg;rw[b];rfl
def eT {w:World} {Z:Nat->Prop} {f:Bool} {a:Ty} :∀ {es:List (Int×a.den)} {l:List MapEntry},La w Z false (.int .i64) f a l es->l.map (·.key)=es.map λe=>Value.int .i64 e.1
 | [],l,h=>by obtain rfl:l= []:=h;rfl
 |e::es,l,h=>by
  obtain⟨x,i,rfl,⟨b,g⟩,_,c⟩:=h;have d:x.key= .int .i64 e.1:=by simpa using b
  rw[rW,rW,eT c,d]
def B3z {P:Program} {k:TypeId} (t:P.underlying k=some (.int .i64)) {w:World} {b c:Nat} {a:Array MapEntry} {Z:Nat->Prop} {x:Bool} {i:Ty} {es:List (Int×i.den)} (s:w.heap[b]? =some (.map a c)) (h:MOk a c) (g:La w Z false (.int .i64) x i a.toList es) (u:es.length<=100000) (v:List.Nodup (α:=Int) (es.map (·.1))):
 ∃D0:DataW Unit,w.ownsMap P k A6o b a.size D0/\(intKeys D0).Perm (es.map (·.1))/\Maps.size D0=es.length:=by
 obtain⟨l,d⟩:=eQ g (P:=P) t;have f:a.toList.length=es.length:=by have:=sA List.length d;simpa using this
 have o:a.toList.map (·.key)=es.map λe=>Value.int .i64 e.1:=eT g
 refine⟨_,⟨a,c,s,⟨?_,⟨h.1,h.2,?_⟩,l⟩,qV _,rfl⟩,?_,?_⟩
 . have:a.size=es.length:=by rw[<-f];simp
   rw[this];exact qX u δ
 . rw[o];have:(es.map λe=>Value.int .i64 e.1)=(es.map (·.1)).map λn:Int=>Value.int .i64 n:=by rw[g4k];rfl
   rw[this];exact List.Pairwise.map _ (λy b r j=>r (by simpa using j)) v
 . show(List.map _ _).Perm _;refine((WideShapes.sorted_perm _).map _).trans ?_;rw[d,g4k];exact List.Perm.of_eq (g3u λe _=>rfl)
 show List.length (List.foldr _ _ _)= _;rw[(WideShapes.sorted_perm _).length_eq,tG,f]
def eP {w:World} {Z:Nat->Prop} :∀ {l:Wf},(∀n∈l,GU .i64 n)->G5 (C9 (.int .i64) w Z) (l.map encZ) l
 | [],_=>rfl
 |n::l,h=>⟨[encZ n],l.map encZ,rfl,⟨rfl,h n rD⟩,eP λm a=>h m (qI _ a)⟩
def B5y (m:Nat):AnyZI.SortsIn prog sortedInt_ren Fence.wide m:=
 ⟨λblk f a g W b c d=>callsIn_wide.2 (AnyM.slices_Sort_int sortInt blk f a g W b c d),
  λp a W=>callsIn_wide.2 (AnyM.slices_Sort_int_none sortInt p a W)⟩
def B8n:Yx prog 151 (jX 195 3):=by
 refine A2w (tys:= []) ?_;intro w Z a1 a2 i b Y T D E r g N s t Q;obtain⟨D0,R,z,A⟩:=B3z (P:=prog) (k:=3) underlying3 g N s t Q;have G:i<w.heap.size:=r.lt;have H:w.cell? ⟨i,0,none⟩=some (.map (some b)):=by
  exact r.cell (o:=0) rfl
 have V:=AnyZI.keys_gives keysGo Fence.wide 3 trivial rfl δ i b D.size D0 w G H R;have:=AnyZI.sorted_in sortedInt Fence.wide 6 trivial trivial trivial trivial rfl δ (B5y _) (λargs w=>Go.Vc.Lz (f:=194) (by kernel_rfl) args w) 195 _ trivial (Go.Vc.Lz (by kernel_rfl)) _ _ (by rw[A];exact qX t δ) (by rw[A];omega) w V;refine Calls.mono (callsIn_wide.1 this) ?_;rintro _ B ⟨v,d,rfl,l,U,a0,F⟩;have g:Below w.heap.size w B:=F;have tr:∀a b c:Int,decide (a<=b)=true->decide (b<=c)=true->decide (a<=c)=true:=λa b c h h'=>rA (g2g (qA h) (qA h'))
 have X:∀a b:Int,(decide (a<=b) ||decide (b<=a))=true:=λa b=>by
  simp only[tX,rU];omega
 have J:∀n∈d,GU .i64 n:=λn j=>by
  have O:n∈E.map (·.1):=z.mem_iff.1 (l.mem_iff.1 j);obtain⟨e,I,rfl⟩:=tT.1 O;obtain⟨x,_,W,_⟩:=T3.mem s I;exact W.2
 refine⟨v,rfl,Y6.of ⟨g,trivial⟩,(d.mergeSort (λx y=>decide (x<=y)),()),(),[v],(λ_=>False),⟨?_,?_⟩,λh=>(by cases h),rfl,λ_ g=>g.elim,⟨v,[],rfl,⟨(d.mergeSort (λx y=>decide (x<=y))).map encZ,?_,?_,λ_ _ h=>h⟩,λ_=>⟨⟨rfl,λh=>(by cases h)⟩,λb _ u hu=>(by cases hu)⟩,rfl⟩,trivial⟩
 . exact(g0y d _).trans (l.trans z)
 . exact(List.pairwise_mergeSort tr X d).imp λh=>qA h
 . have M:(d.mergeSort (λx y=>decide (x<=y))).length=d.length:=(g0y d _).length_eq;show B.ownsRow w.heap.size 3 1 v (d.mergeSort (λx y=>decide (x<=y))).length _;rw[M];exact U
 exact eP λn j=>J n ((g0y d _).mem_iff.1 j)
open Go.Vc Go.Gw
def J2 {P:Program} {tys:List (Nat×TI)} {sp:G1} {f:FuncId} {fn:Func} {s:A8} {a:A3 s.args->Prop} (an:An) (c:P.funcs[f]? =some fn) (j:∀x,awf s.args x->s.pre x->a x) (i:G7 P tys=true) (h:Lw P sp) (b:∀x,C4h P tys sp an s fn x=a x:=by intro x;kernel_rfl) (a:fn.body.isSome=true:=by kernel_rfl) (d:Nat.ble s.args.length fn.ntmps=true:=by kernel_rfl) (g:Co fn.ntmps (fn.body.getD .skip)=true:=by kernel_rfl):B7 P f s:=
 B4i c a d g i h b j
def AD:B7 prog 97 M0:=J2 Zd func97 Ts A7 (A2)
def AC:B7 prog 9 Ix:=J2 mI func9 aV A7 (A2)
def pO:B7 prog 18 Ms:=J2 mH func18 aU A7 (A2)
def X2:B7 prog 12 U6:=J2 KS func12 BM A7 (A0 pO (A2))
def Jn:B7 prog 25 Nc:=J2 mS func25 bT A7 (A2)
def U2:B7 prog 161 Mv:=J2 mL func161 bB A7 (A2)
def Bf:B7 prog 117 Mw:=J2 mM func117 bG A7 (A0 U2 (A2))
def SH:B7 prog 114 Mx:=J2 mN func114 bJ A7 (A0 Bf (A2))
def SI:B7 prog 65 My:=J2 mO func65 bK A7 (A0 SH (A2))
def Vi:B7 prog 67 Js:=J2 iH func67 UT A7 (A2)
def IT:B7 prog 69 Sy:=J2 A1r func69 dO A7 (A0 Bf (A2))
def ZE:B7 prog 118 So:=J2 A1i func118 dF A7 (A0 U2 (A2))
def ZF:B7 prog 162 Fj:=J2 WP func162 NS A7 (A0 U2 (A2))
def ZG:B7 prog 119 Sr:=J2 A1l func119 dI A7 (A0 U2 (A0 ZF (A2)))
def Oy:B7 prog 133 Ap:=J2 KZ func133 CE A7 (A0 U2 (A2))
def cX:B7 prog 197 Hm:=J2 cJ func197 RO A7 (A0 U2 (A2))
def pP:B7 prog 198 Mu:=J2 mJ func198 aX A7 (A0 U2 (A2))
def A3l:B7 prog 199 Ss:=J2 A1m func199 dJ A7 (A2)
def GX:B7 prog 158 Hl:=J2 cI func158 RN A7 (A0 ZE (A0 ZG (A0 Oy (A0 U2 (A0 cX (A0 pP (A0 A3l (A2))))))))
def A3j:B7 prog 157 Sp:=J2 A1j func157 dG A7 (A0 GX (A0 U2 (A2)))
def A3n:B7 prog 115 Sw:=J2 A1p func115 dM A7 (A0 Bf (A0 A3j (A2)))
def IS:B7 prog 71 Sv:=J2 A1o func71 dL A7 (A0 Bf (A0 ZE (A0 ZG (A2))))
def Mh:B7 prog 93 Fl:=J2 WQ func93 NV A7 (A0 Bf (A0 Oy (A2)))
def A3m:B7 prog 159 Su:=J2 A1n func159 dK A7 (A0 Bf (A2))
def A3o:B7 prog 160 Sz:=J2 A1s func160 dR A7 (A0 IT (A0 IS (A2)))
def cY:B7 prog 116 Hn:=J2 cK func116 RP A7 (A0 IS (A0 Mh (A0 Bf (A0 GX (A0 A3m (A0 A3o (A2)))))))
def Gd:B7 prog 68 Mz:=J2 mP func68 bO A7 (A0 Jn (A0 SI (A0 Vi (A0 IT (A0 SH (A0 A3n (A0 cY (A2))))))))
def fX:B7 prog 49 AU:=J2 A7w func49 lK A7 (A0 Gd (A0 Mh (A2)))
def Sc:B7 prog 45 Bv:=J2 OM func45 GI A7 (A0 X2 (A0 fX (A2)))
def Dh:B7 prog 34 Na:=J2 mQ func34 bR A7 (A0 Gd (A2))
def IV:B7 prog 70 Td:=J2 A1x func70 dX A7 (A0 Dh (A2))
def A3k:B7 prog 120 Sq:=J2 A1k func120 dH A7 (A0 U2 (A2))
def ZH:B7 prog 72 Sx:=J2 A1q func72 dN A7 (A0 Bf (A0 A3k (A2)))
def IU:B7 prog 30 Lq:=J2 A1t func30 dS A7 (A0 Dh (A0 Gd (A0 IV (A0 IS (A0 ZH (A2))))))
def ZI:B7 prog 26 Te:=J2 A1y func26 dY A7 (A0 Jn (A0 IU (A2)))
def AG:B7 prog 27 Nb:=J2 mR func27 bS A7 (A0 Dh (A0 SI (A2)))
def ZJ:B7 prog 132 Fo:=J2 WS func132 NZ A7 (A2)
def SJ:B7 prog 91 Nf:=J2 mT func91 bW A7 (A0 ZI (A0 AG (A0 ZJ (A2))))
def QI:B7 prog 92 Ca:=J2 OR func92 GL A7 (A0 SJ (A2))
def AH:B7 prog 46 Iy:=J2 mU func46 bX A7 (A0 QI (A2))
def FM:B7 prog 11 Q8:=J2 EU func11 We A7 (A0 X2 (A0 Jn (A0 Sc (A0 AH (A2)))))
def AF:B7 prog 47 Cm:=J2 WR func47 NX A7 (A0 Gd (A0 Mh (A2)))
def MD:B7 prog 113 Jv:=J2 iL func113 UX A7 (A0 AG (A2))
def MC:B7 prog 64 Ge:=J2 iK func64 UW A7 (A0 ZI (A0 SJ (A0 MD (A2))))
def ZB:B7 prog 13 Fe:=J2 (sp:=aH) WJ func13 NL Lj (A0 AC (A0 FM (A0 X2 (A0 IU (A0 AH (A0 AF (S3 (Gu (cx:=⟨prog,aP⟩) (fn:=f24) (c:=f24.body.getD .skip) func24 (by kernel_rfl) (by kernel_rfl) Lj (J0 (A0 MC (A2)) (S7))) (A2))))))))
def Ow:B7 prog 94 U7:=J2 KV func94 BP A7 (A2)
def Kp:B7 prog 134 W0:=J2 FF func134 Wo A7 (A2)
def H9:B7 prog 196 Cl:=J2 WO func196 NQ A7 (A2)
def N5:B7 prog 163 X9:=J2 HT func163 Yr A7 (A0 H9 (A2))
def X3:B7 prog 127 Av:=J2 LA func127 CJ A7 (A0 N5 (A2))
def Wt:B7 prog 172 Dl:=J2 TJ func172 JP A7 (A0 N5 (A2))
def I8:B7 prog 135 W9:=J2 OW func135 GP A7 (A0 X3 (A0 Wt (A2)))
def UO:B7 prog 95 Du:=J2 TZ func95 KF A7 (A0 Kp (A0 I8 (A2)))
def K3:B7 prog 52 K2:=J2 TL func52 JR A7 (A0 Ow (A0 UO (A2)))
def Mi:B7 prog 53 Y4:=J2 HY func53 Yw A7 (A2)
def Kk:B7 prog 202 Dq:=J2 TO func202 JV A7 (A2)
def MA:B7 prog 167 Am:=J2 KX func167 BY A7 (A0 H9 (A0 Kk (A2)))
def Cu:B7 prog 124 Aw:=J2 LB func124 CK A7 (A0 MA (A2))
def M7:B7 prog 155 R9:=J2 Xt func155 Qv A7 (A0 H9 (A2))
def Di:B7 prog 125 T8:=J2 Ze func125 Ua A7 (A0 M7 (A2))
def Bp:B7 prog 156 Dp:=J2 TN func156 JU A7 (A0 H9 (A2))
def X1:B7 prog 154 Ai:=J2 KQ func154 BJ A7 (A2)
def UD:B7 prog 168 Dk:=J2 TH func168 JO A7 (A0 X1 (A0 Bp (A2)))
def Sd:B7 prog 205 P3:=J2 Ri func205 Nr A7 (A0 M7 (A0 H9 (A2)))
def cS:B7 prog 181 Hh:=J2 cE func181 RE A7 (A2)
def Gz:B7 prog 218 M8:=J2 Uc func218 Og A7 (A0 cS (A2))
def IR:B7 prog 220 S8:=J2 HW func220 Yu A7 (A2)
def Yb:B7 prog 222 O3:=J2 Xu func222 Qw A7 (A0 H9 (A2))
def Yc:B7 prog 206 S0:=J2 (sp:=Yi) Xv func206 Qx A7 (A0 H9 (A0 Gz (A0 IR (A0 Yb (S3 (Gu (cx:=⟨prog,tys⟩) (fn:=f221) (c:=f221.body.getD .skip) func221 (by kernel_rfl) (by kernel_rfl) A7 (J0 (A2) (S7))) (A2))))))
def Ox:B7 prog 170 Al:=J2 KW func170 BR A7 (A0 M7 (A0 Bp (A0 N5 (A0 H9 (A0 Kk (A0 Sd (A0 Yc (A2))))))))
def FO:B7 prog 236 V5:=J2 EX func236 Wh A7 (A2)
def MB:B7 prog 219 Ao:=J2 KY func219 CB A7 (A0 FO (A2))
def IQ:B7 prog 203 Y2:=J2 HV func203 Yt A7 (A0 Gz (A0 MB (A2)))
def Ha:B7 prog 166 Fh:=J2 WM func166 NO A7 (A0 H9 (A2))
def AE:B7 prog 201 Fi:=J2 WN func201 NP A7 (A0 N5 (A0 H9 (A2)))
def IP:B7 prog 204 Y1:=J2 HU func204 Ys A7 (A0 M7 (A0 Ha (A0 AE (A2))))
def ZD:B7 prog 169 Fg:=J2 WL func169 NN A7 (A0 M7 (A0 Bp (A0 N5 (A0 Ox (A0 H9 (A0 Kk (A0 IQ (A0 IP (A2)))))))))
def Fw:B7 prog 126 Y3:=J2 HX func126 Yv A7 (A0 Bp (A0 UD (A0 ZD (A0 Ox (A2)))))
def I7:B7 prog 74 P8:=J2 OV func74 GO A7 (A0 Cu (A0 Di (A0 Fw (A0 X3 (A2)))))
def Kl:B7 prog 136 J6:=J2 Kg func136 Hz A7 (A2)
def Hw:B7 prog 98 F8:=J2 Hv func98 Fy A7 (A0 Kl (A2))
def QG:B7 prog 54 Bw:=J2 (sp:=QX) OP func54 GJ Lj (A0 K3 (A0 I7 (A0 Ow (S3 (C3u AD) (A0 Hw (S3 C0d (S3 (Gu (cx:=⟨prog,aP⟩) (fn:=f99) (c:=f99.body.getD .skip) func99 (by kernel_rfl) (by kernel_rfl) Lj (J0 (A2) (S7))) (A2))))))))
def IN:B7 prog 111 X8:=J2 HS func111 Yq A7 (A0 X1 (A0 M7 (A2)))
def L9:B7 prog 58 N6:=J2 EZ func58 Wj A7 (A0 IN (A2))
def YZ:B7 prog 112 Fb:=J2 WH func112 NJ A7 (A0 X1 (A0 Bp (A2)))
def UK:B7 prog 63 Au:=J2 TU func63 KB A7 (A0 I7 (A0 YZ (A2)))
def Km:B7 prog 148 Dv:=J2 UA func148 KG A7 (A0 I8 (A2))
def ZC:B7 prog 200 Ff:=J2 WK func200 NM A7 (A0 H9 (A2))
def YY:B7 prog 164 Ez:=J2 WF func164 NH A7 (A0 X1 (A0 ZC (A0 AE (A2))))
def Mg:B7 prog 165 Fa:=J2 WG func165 NI A7 (A0 X1 (A0 Ha (A2)))
def W7:B7 prog 122 Aq:=J2 TQ func122 JX A7 (A0 I7 (A0 Cu (A0 Di (A0 Fw (A0 X3 (A0 I8 (A0 N5 (A0 YY (A0 Mg (A0 Ha (A2)))))))))))
def QE:B7 prog 139 Bu:=J2 OL func139 GF A7 (A2)
def Mf:B7 prog 102 X5:=J2 HP func102 Yn A7 (A0 QE (A2))
def MG:B7 prog 188 Bb:=J2 LG func188 CP A7 (A0 Mf (A2))
def Es:B7 prog 173 F7:=J2 En func173 Da A7 (A2)
def Hx:B7 prog 226 Iz:=pG λ_ h=>h
def Jo:B7 prog 215 I5:=J2 Jg func215 Hs A7 (A0 Es (A0 Hx (A2)))
def Ef:B7 prog 192 F5:=J2 Dz func192 Cs A7 (A0 Jo (A2))
def Hc:B7 prog 149 Ba:=J2 LF func149 CO A7 (A0 W7 (A0 Kp (A0 MG (A0 Ef (A2)))))
def T2:B7 prog 123 V7:=J2 TT func123 KA A7 (A0 Cu (A0 Di (A0 Fw (A0 X3 (A0 Mg (A0 Ha (A2)))))))
def Ye:B7 prog 153 S2:=J2 Xx func153 Qz A7 (A0 I7 (A0 W7 (A0 T2 (A0 I8 (A2)))))
def Ko:B7 prog 110 N7:=J2 FD func110 Wm A7 (A0 Km (A0 Hc (A0 Ye (A2))))
def QL:B7 prog 189 Cd:=J2 OX func189 GQ A7 (A0 I7 (A2))
def Mj:B7 prog 144 Cn:=J2 WT func144 OD A7 (A0 Km (A0 Hc (A0 QL (A2))))
def Se:B7 prog 187 P4:=J2 Rj func187 Nw A7 (A2)
def ME:B7 prog 143 U8:=J2 LD func143 CM A7 (S3 B5x (A0 Mj (A0 Se (A2))))
def UJ:B7 prog 185 Ar:=J2 TS func185 JZ A7 (A0 I7 (A0 I8 (A2)))
def cZ:B7 prog 186 Eh:=J2 cM func186 RQ A7 (A0 L9 (A0 W7 (A2)))
def QF:B7 prog 103 P7:=J2 (sp:=Tg) Re func103 GH EO (A0 K3 (A0 L9 (A0 ME (S3 (Gu (cx:=⟨prog,US⟩) (fn:=f140) (c:=f140.body.getD .skip) func140 (by kernel_rfl) (by kernel_rfl) EO (J0 (A0 Mj (A2)) (S7))) (S3 (Gu (cx:=⟨prog,US⟩) (fn:=f141) (c:=f141.body.getD .skip) func141 (by kernel_rfl) (by kernel_rfl) EO (J0 (S3 (Gu (cx:=⟨prog,US⟩) (fn:=f183) (c:=f183.body.getD .skip) func183 (by kernel_rfl) (by kernel_rfl) EO (J0 (A2) (J0 (A2) (J0 (A2) (J0 (A2) (S7)))))) (A2)) (S7))) (S3 (Gu (cx:=⟨prog,US⟩) (fn:=f142) (c:=f142.body.getD .skip) func142 (by kernel_rfl) (by kernel_rfl) EO (J0 (A0 UK (A0 Ko (A0 T2 (A0 UJ (A0 cZ (S3 (Gu (cx:=⟨prog,US⟩) (fn:=f184) (c:=f184.body.getD .skip) func184 (by kernel_rfl) (by kernel_rfl) EO (J0 (A2) (J0 (A2) (S7)))) (A2))))))) (S7))) (A2))))))) GG
def FN:B7 prog 104 Q9:=J2 (sp:=GB) EW func104 Wg Lj (A0 K3 (A0 I7 (S3 (Gu (cx:=⟨prog,aP⟩) (fn:=f99) (c:=f99.body.getD .skip) func99 (by kernel_rfl) (by kernel_rfl) Lj (J0 (A2) (S7))) (A2))))
def UM:B7 prog 105 Ax:=J2 TX func105 KD A7 (A0 L9 (A0 Mj (A2)))
def Sb:B7 prog 212 O9:=J2 Rh func212 Nl A7 (A2)
def Vh:B7 prog 213 Q4:=J2 Ui func213 Oh A7 (A0 K3 (A2))
def IL:B7 prog 237 X6:=J2 HQ func237 Yo A7 (A2)
def AA:B7 prog 224 T6:=J2 Za func224 Tn A7 (A0 IL (A2))
def IM:B7 prog 225 X7:=J2 HR func225 Yp A7 (A0 N5 (A0 Wt (A2)))
def FP:B7 prog 214 V6:=J2 EY func214 Wi A7 (A0 Mf (A0 Cu (A0 X3 (A0 I8 (A0 Mg (A0 AA (A0 IM (A2))))))))
def AB:B7 prog 190 T7:=J2 Zb func190 Tp A7 (A0 L9 (A0 Sb (A0 Vh (A0 FP (A2)))))
def LW:B7 prog 145 Ag:=J2 KO func145 BC A7 (A0 AB (A2))
def UL:B7 prog 191 Dt:=J2 TV func191 KC A7 (A0 W7 (A2))
def YX:B7 prog 146 Ey:=J2 WE func146 NG A7 (A0 T2 (A0 I8 (A0 UL (A2))))
def UI:B7 prog 147 Ds:=J2 TR func147 JY A7 (A0 T2 (A0 I8 (A2)))
def UC:B7 prog 106 Af:=J2 TG func106 JN A7 (A0 LW (A0 YX (A0 UI (A2))))
def MF:B7 prog 150 Az:=J2 LE func150 CN A7 (A0 T2 (A2))
def UN:B7 prog 107 Ay:=J2 TY func107 KE A7 (A0 Km (A0 Hc (A0 MF (A2))))
def FT:B7 prog 108 R0:=J2 FE func108 Wn A7 (A0 I7 (A0 I8 (A2)))
def Yd:B7 prog 55 S1:=J2 (sp:=Yj) Xw func55 Qy Lj (A0 L9 (A0 QF (A0 UM (A0 UC (A0 UN (A0 FT (A9z FN (Gu (cx:=⟨prog,aP⟩) (fn:=f104) (c:=f104.body.getD .skip) func104 (by kernel_rfl) (by kernel_rfl) Lj (J0 (A0 K3 (A0 I7 (S3 (Gu (cx:=⟨prog,aP⟩) (fn:=f99) (c:=f99.body.getD .skip) func99 (by kernel_rfl) (by kernel_rfl) Lj (J0 (A2) (S7))) (A2)))) (S7))) (A2))))))))
def Ya:B7 prog 109 O2:=J2 (sp:=Yh) Xs func109 Qu A7 (A0 W7 (A0 T2 (A0 I8 (S3 B8n (S3 (Gu (cx:=⟨prog,tys⟩) (fn:=f152) (c:=f152.body.getD .skip) func152 (by kernel_rfl) (by kernel_rfl) A7 (J0 (A2) (S7))) (A2))))))
def cW:B7 prog 56 Hk:=J2 (sp:=dD) cH func56 RJ A7 (A0 K3 (A0 Ya (S3 (Gu (cx:=⟨prog,tys⟩) (fn:=f99) (c:=f99.body.getD .skip) func99 (by kernel_rfl) (by kernel_rfl) A7 (J0 (A2) (S7))) (A2))))
def cV:B7 prog 57 Hj:=J2 (sp:=dC) cG func57 RI A7 (A0 K3 (A0 Ko (S3 (Gu (cx:=⟨prog,tys⟩) (fn:=f99) (c:=f99.body.getD .skip) func99 (by kernel_rfl) (by kernel_rfl) A7 (J0 (A2) (S7))) (A2))))
def Hb:B7 prog 19 Q5:=J2 Uk func19 Oi A7 (A0 K3 (A0 Mi (A0 QG (A0 Yd (A0 cW (A0 cV (A0 L9 (A2))))))))
def kN:B7 prog 66 Jt:=J2 iI func66 UU A7 (A0 Vi (A2))
def Vj:B7 prog 28 Ju:=J2 iJ func28 UV A7 (A0 kN (A0 Vi (A2)))
def QH:B7 prog 84 Bz:=J2 OQ func84 GK A7 (A0 Vj (A0 Dh (A2)))
def QJ:B7 prog 43 Cb:=J2 OT func43 GM A7 (A0 Vj (A0 QH (A2)))
def QK:B7 prog 20 Cc:=J2 OU func20 GN A7 (A0 QJ (A2))
def A3r:B7 prog 29 Tc:=J2 A1w func29 dW A7 (A0 Dh (A0 Gd (A0 IT (A0 IV (A2)))))
def LX:B7 prog 50 Ah:=J2 KP func50 BE A7 (A2)
def ZA:B7 prog 16 Fc:=J2 WI func16 NK A7 (A0 Hb (A0 QK (A0 Jn (A0 A3r (A0 AH (A0 AF (A0 fX (A0 LX (A2)))))))))
def LY:B7 prog 51 Aj:=J2 KT func51 BN A7 (A0 X2 (A2))
def cT:B7 prog 17 Hi:=J2 cF func17 RH A7 (A0 AC (A0 X2 (A0 LY (A2))))
def LZ:B7 prog 31 Ak:=J2 KU func31 BO A7 (A0 Sc (A2))
def FR:B7 prog 62 V9:=J2 FC func62 Wl A7 (A0 K3 (A2))
def UG:B7 prog 121 Dn:=J2 TM func121 JS A7 (A0 L9 (A2))
def UE:B7 prog 73 Dm:=J2 TK func73 JQ A7 (A0 K3 (A0 UG (A0 W7 (A0 T2 (A2)))))
def FQ:B7 prog 32 V8:=J2 FB func32 Wk A7 (A0 Mi (A0 FR (A0 UE (A0 I7 (A2)))))
def UH:B7 prog 24 Dr:=J2 TP func24 JW A7 (A0 MC (A2))
def kP:B7 prog 75 Jx:=J2 iN func75 UZ A7 (A0 MD (A2))
def A3q:B7 prog 80 Tb:=J2 A1v func80 dV A7 (A0 Dh (A0 Gd (A0 IV (A0 ZH (A2)))))
def A3p:B7 prog 76 Ta:=J2 A1u func76 dU A7 (A0 Jn (A0 IU (A0 A3q (A2))))
def kO:B7 prog 33 Jw:=J2 iM func33 UY A7 (A0 UH (A0 kP (A0 A3p (A2))))
def Qm:B7 prog 6 H2:=J2 Py func6 Lk A7 (A0 AC (A0 ZB (A0 ZA (A0 cT (A0 Hb (A0 AG (A0 Vj (A0 LZ (A0 FQ (A0 kO (A0 Dh (A2))))))))))))
end Go.Proofs.YtdbnghliccifcaaGreat
