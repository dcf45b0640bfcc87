/- Part. -/
import Derived.Shelf.SlSortCmp.NoneTotal
import Derived.Lib.QuietBelow
import Derived.Shelf.SlGeneric
import Derived.Shelf.SlIterI.Sorted
import Derived.Shelf.SortM.Plain
import Derived.Shelf.SortM.SortNone
import Derived.Shelf.SlicesG.Cmp
import Derived.Ground.GgzProg
import Derived.Ground.SlsfProg
import Derived.Ground.SlgmProg
import Derived.Ground.SlgcProg
import Derived.Test.YtknoakmaeleclaaGreatProg
import Derived.RangeFuncBox
import Derived.RangeFuncLeaves
import Derived.WalkKit
import Derived.OwnWalkIn
import Derived.TacticsInMore
import Derived.LoopNIn
import Derived.LoopIn
import Derived.Test.YtknoakmaeleclaaGreatKWI
set_option linter.all false
namespace Go.Proofs.YtknoakmaeleclaaGreat
open Go.Proofs.Tryz
open Go.Vc Go.Gw
open Go.IntKind (i64 u32)
def Pf:sx O9 Ij:=λx d _=>by
 obtain⟨(m:U8),(n:Int),_⟩:=x;simp only[Ij,I5];refine⟨λ_=>trivial,?_⟩;rintro⟨(r:Bool),_⟩ c;simp only at c|-;by_cases a:m.1=n
 . by_cases b:m.2.1=n
   . rw[(c (by rw[rE a,rE b];rfl)).2,rE a,rE b,g0t,g0t];exact xJ.2 ⟨λh=>⟨a,b,h⟩,λh=>h.2.2⟩
   . rw[rC b,Bool.and_false,g1m];exact(rC λh=>b h.2.1).symm
 . rw[rC a,g1m,g1m];exact(rC λh=>a h.1).symm
def A2o {v:List D9} (h:asc v) (g:v≠ []):gx G4 v ((v.length:Int)-1)∈v/\∀x∈v,x.1<=(gx G4 v ((v.length:Int)-1)).1:=by
 have n:0<v.length:=wO.2 g;have a:=L9 (d:=G4) (l:=v) (i:=(v.length:Int)-1) ω ω;refine⟨I7 ω ω,λx j=>?_⟩;obtain⟨k,c,rfl⟩:=vG.1 j;rw[(ω:((v.length:Int)-1).toNat=v.length-1)]at a;have b:v[v.length-1]' ω=gx G4 v ((v.length:Int)-1):=by
  rw[qL ω]at a;exact xU a
 rw[<-b];by_cases f:k=v.length-1
 . subst f;exact qH _
 . exact xC (uK.1 h k (v.length-1) c ω ω)
def C4q {v:List D9} {n:Int} (h:G6 v n) {i:Nat} (u:(i:Int)<n):(v≠ []/\(gx G4 v ((v.length:Int)-1)).1=(i:Int)/\rv (gx G4 v ((v.length:Int)-1)).2=1)↔(∀j:Nat,(j:Int)<n->i<j->B6 v (j:Int)=0)/\B6 v (i:Int)=1:=by
 constructor
 . rintro⟨c,f,a⟩;obtain⟨b,g⟩:=A2o h.1 c;refine⟨λj _ w=>E7 λe d t=>?_,?_⟩
   . have:=g e d;omega
   . rw[<-f,T4 h.1 b,a]
 . rintro⟨f,a⟩;have c:v≠ []:=λe=>by subst e;rw[Se]at a;exact absurd a δ
   obtain⟨b,g⟩:=A2o h.1 c;obtain⟨x,l,z⟩:=DY (show B6 v (i:Int)≠0 from by rw[a];decide);have s:=g x l;obtain⟨o,r,k⟩:=h.2 _ b;have d:(gx G4 v ((v.length:Int)-1)).1=(i:Int):=by
    refine qR λy=>k ?_
    have:=f (gx G4 v ((v.length:Int)-1)).1.toNat ω ω;rw[(ω:(((gx G4 v ((v.length:Int)-1)).1.toNat:Nat):Int)=(gx G4 v ((v.length:Int)-1)).1),T4 h.1 b]at this;exact this
   refine⟨c,d,?_⟩;rw[<-T4 h.1 b,d,a]
def D0l {v:List D9} {n:Int} (h:G6 v n) {i:Nat} :(v≠ []/\(gx G4 v 0).1=(i:Int))↔(∀j:Nat,j<i->B6 v (j:Int)=0)/\B6 v (i:Int)≠0:=by
 cases v with
 |nil=>exact⟨λa=>absurd rfl a.1,λa=>absurd (Se _) a.2⟩
 |cons e r=>
  have g:gx G4 (e::r) 0=e:=rfl;rw[g];have c:=(h.2 e rH);constructor
  . rintro⟨_,a⟩;exact⟨λj k=>DX h.1 ω,by rw[<-a,P7 h.1];exact c.2.2⟩
  . rintro⟨a,d⟩;refine⟨by simp,qR λf=>?_⟩;rcases Int.lt_or_gt_of_ne f with b|b
    . refine c.2.2 ?_;rw[<-P7 h.1];have:=a e.1.toNat ω;rwa[(ω:((e.1.toNat:Nat):Int)=e.1)]at this
    . exact d (DX h.1 b)
def A3p (L U:U8) (n:Int) (i:Nat):Prop:=(∀j:Nat,(j:Int)<n->i<j->el L i j=0)/\el L i i=1/\(∀j:Nat,j<i->el U i j=0)/\el U i i≠0
def B3v {P Q:Wf} {L U:U8} {n:Int} (d:N7 P n) (f:N7 Q n) (g:sqr L n) (k:sqr U n):Iu (P,Q,L,U) n↔∀i:Nat,(i:Int)<n->A3p L U n i:=by
 constructor
 . rintro⟨_,_,_,_,h⟩ i a;exact⟨λj b c=>(h i j a b).1 c,(h i i a a).2.1,λj b=>(h i j a ω).2.2.1 b,(h i i a a).2.2.2⟩
 . intro h;exact⟨d,f,g,k,λi j a b=>⟨λc=>(h i a).1 j b c,(h i a).2.1,λb=>(h i a).2.2.1 j b,(h i a).2.2.2⟩⟩
def A9n {p q:Rat} :YU p q=0↔p=q:=by
 unfold YU;by_cases a:p<q
 . rw[qN a];exact⟨λh=>ω,λh=>by subst h;exact absurd a (g4j)⟩
 . rw[qG a];by_cases b:q<p
   . rw[qN b];exact⟨λh=>ω,λh=>by subst h;exact absurd b (g4j)⟩
   . rw[qG b];exact⟨λ_=>Rat.le_antisymm (Rat.not_lt.1 b) (Rat.not_lt.1 a),λ_=>rfl⟩
def QU {p:Prop} (h:¬p):(false=true↔p):=⟨λa=>(by cases a),λhp=>absurd hp h⟩
def Ud:sx T7 Kw:=λx ar a9=>by
 obtain⟨⟨P,Q,(L:U8),(U:U8)⟩,(n:Int),_⟩:=x;obtain⟨J,V,a7,am⟩:0<=n/\n<=16384/\Jv K1 L/\Jv K1 U:=a9;simp only[Kw,iB,Lh,I9,F2];refine⟨⟨J,V⟩,?_⟩;rintro⟨(af:Bool),_⟩ _ D;simp only at D|-;refine⟨λ_=>⟨J,V⟩,?_⟩;rintro⟨(ag:Bool),_⟩ k;simp only at k|-;by_cases w:N7 P n
 case neg=>
  rw[D,rC w];exact⟨λ_=>QU λh=>w h.1,λh=>by simp at h⟩
 have k:=(k (by rw[D,rE w];rfl)).2;by_cases G:N7 Q n
 case neg=>
  rw[k,rC G];exact⟨λ_=>QU λh=>G h.2.1,λh=>by simp at h⟩
 rw[D,k,rE w,rE G];refine⟨λh=>by simp at h,λ_=>⟨trivial,?_⟩⟩;rintro⟨(ah:Bool),_⟩ _ E;simp only at E|-;refine⟨λ_=>trivial,?_⟩;rintro⟨(ai:Bool),_⟩ l;simp only at l|-;by_cases g:sqr L n
 case neg=>
  rw[E,rC g];exact⟨λ_=>QU λh=>g h.2.2.1,λh=>by simp at h⟩
 have l:=(l (by rw[E,rE g];rfl)).2;by_cases y:sqr U n
 case neg=>
  rw[l,rC y];exact⟨λ_=>QU λh=>y h.2.2.2.1,λh=>by simp at h⟩
 rw[E,l,rE g,rE y];refine⟨λh=>by simp at h,λ_=>⟨trivial,?_⟩⟩;rintro⟨(one:B7),_⟩ _ M;simp only at M|-;have T:=B3v w G g y;obtain⟨ad,ae,Y⟩:=g;obtain⟨aj,ak,a0⟩:=y;have ao:(L.2.2.length:Int)=n:=Y.2.2.2.2.1.trans ad;have aq:(U.2.2.length:Int)=n:=a0.2.2.2.2.1.trans aj;have W:rv one=1:=by rw[M];exact D1z 1
 have aa:F4 one:=by rw[M, <-oH];exact I1 (oF δ) δ
 refine⟨λp=>0<=p.1/\p.1<=n/\∀i:Nat,(i:Int)<p.1->A3p L U n i,λp=>(n-p.1).toNat,⟨qH _,J,λi R=>ω⟩,?_⟩;rintro⟨(t:Int),_⟩ _ o;simp only at o|-;obtain⟨z,au,o⟩:=o;refine⟨λs=>?_,λs=>?_⟩
 . have s:=qA s;have X:G6 (gx [] L.2.2 t) n:=by have:=Y.2.2.2.2.2 _ (I7 (d:= []) z (ω:t<(L.2.2.length:Int)));rwa[ae]at this
   have ac:G6 (gx [] U.2.2 t) n:=by have:=a0.2.2.2.2.2 _ (I7 (d:= []) z (ω:t<(U.2.2.length:Int)));rwa[ak]at this
   have ab:=a7 _ (I7 (d:= []) z (ω:t<(L.2.2.length:Int)));have O:((t.toNat:Nat):Int)=t:=ω
   have Z:=C4q X (i:=t.toNat) ω;have a1:=D0l ac (i:=t.toNat);rw[O]at Z a1;have F:A3p L U n t.toNat↔((∀j:Nat,(j:Int)<n->t.toNat<j->B6 (gx [] L.2.2 t) (j:Int)=0)/\B6 (gx [] L.2.2 t) t=1)/\(∀j:Nat,j<t.toNat->B6 (gx [] U.2.2 t) (j:Int)=0)/\B6 (gx [] U.2.2 t) t≠0:=by
    unfold A3p el;rw[O];exact(and_assoc (a:=∀j:Nat,(j:Int)<n->t.toNat<j->B6 (L.2.2.getD t.toNat []) (j:Int)=0)).symm
   rw[<-Z, <-a1]at F;have N:¬A3p L U n t.toNat->¬Iu (P,Q,L,U) n:=λh hh=>h (T.1 hh t.toNat ω)
   have c:∀ {v:List D9},((v.length:Int)=0)↔v= []:=λ{v} =>⟨λh=>qT ω,λh=>by rw[h];rfl⟩
   have an:=Pj X;have u:(gx [] L.2.2 t)≠ []->i64.wrap (((gx [] L.2.2 t).length:Int)-1)=((gx [] L.2.2 t).length:Int)-1:=λh=>by
    have:=wO.2 h;exact wv ω
   refine⟨⟨z,ω⟩,⟨z,ω⟩,λh=>?_,λh=>?_,λh=>?_,?_⟩
   . have h:=mt c.2 (qB h);have:=wO.2 h;rw[u h];omega
   . simp only[rA]at h;have h:=mt c.2 (qB h.1);have:=wO.2 h;rw[u h];omega
   . simp only[rA]at h;have h:=mt c.2 (qB h.1);have ap:=wO.2 h;rw[u h];exact⟨G2 (ab _ (I7 ω ω)) δ,aa⟩
   rintro⟨(a2:Int),_⟩ b;simp only at b|-;refine⟨λh=>QU (N λr=>?_),λh=>⟨λf=>⟨qH _,?_⟩,λf=>QU (N λr=>?_),λf=>?_⟩⟩
   . obtain⟨⟨B,I,a6⟩,_⟩:=F.1 r;rw[u B]at b h;have A:decide (((gx [] L.2.2 t).length:Int)=0)=false:=rC (mt c.1 B);have H:decide ((gx G4 (gx [] L.2.2 t) (((gx [] L.2.2 t).length:Int)-1)).1≠t)=false:=rC (by rw[tK];exact I);rw[A,H]at b h;have b:=(b rfl).2;rw[W,a6]at b;rw[b,A9n.2 rfl]at h;simp at h
   . have:=mt c.2 (qB f);have:=wO.2 this;omega
   . obtain⟨_,B,I⟩:=F.1 r;rw[rC (mt c.1 B),rC (by rw[tK];exact I)]at f;simp at f
   . simp only[rA]at h f;have A:=mt c.2 (qB h.1.1);rw[u A]at b h;have H:=tK.1 (qB h.1.2);have a3:=tK.1 (qB h.2);have b:=(b (by rw[h.1.1,h.1.2];rfl)).2;rw[a3,W]at b;have a4:=mt c.2 (qB f.1);have a5:=tK.1 (qB f.2);have r:=F.2 ⟨⟨A,H,A9n.1 b.symm⟩,a4,a5⟩;rw[wv ω];refine⟨⟨ω,ω,λi R=>?_⟩,ω⟩;by_cases a8:i=t.toNat
     . subst a8;exact r
     . exact o i ω
 . have s:=qB s;exact⟨λ_=>T.2 λi R=>o i ω,λ_=>trivial⟩
noncomputable def GB:H7:= [(106,Cw)]
def FB:An:= {loop:= [(3,⟨[1,3,24],[0,1,2,3,4,5,6,7,8,9,10,13],[(25,false,vI)],[],[(11, .nest qe 225 4),(12, .row qb 3)]⟩),(13,⟨[3,5,44,45,46,59,60],[0,1,2,3,4,5,6,7,9,10,12,13],[(61,false,vI)],[],[(11, .nest qe 225 4)]⟩),(9,⟨[3,44,45],[0,1,2,3,4,5,6,7,10,12,13],[(46,false,vI)],[],[(9, .row qf 88),(11, .nest qe 225 4)]⟩)],plan:= [(1,[1,4,7,10],[],true,(.p 0 (.q 1 (.p 3 (.q 4 (.p 6 (.q 7 (.p 9 (.q 10 (.al [2,5,8,11] [12] (.e 13 (.p 14 .done)))))))))))),(11,[3],[8],true, .done),(15,[3,5],[9],false, .done)]}
noncomputable def Wi:H7:= []
def Ut:An:= {plan:= [(1,[0,3,4,7,10],[],false,(.q 0 (.p 1 (.p 2 (.q 3 (.q 4 (.p 5 (.p 6 (.q 7 (.p 8 (.p 9 (.q 10 (.p 11 (.e 12 (.e 13 (.p 14 .done))))))))))))))))]}
noncomputable def Wj:H7:= []
def Uu:An:= {plan:= [(1,[0,3,4,7,10],[],false,(.q 0 (.p 1 (.p 2 (.q 3 (.q 4 (.p 5 (.p 6 (.q 7 (.p 8 (.p 9 (.q 10 (.p 11 (.e 12 (.e 13 (.p 14 .done))))))))))))))))]}
noncomputable def Wk:H7:= []
def Uv:An:= {plan:= [(1,[0,3,4,7,10],[],false,(.q 0 (.p 1 (.p 2 (.q 3 (.q 4 (.p 5 (.p 6 (.q 7 (.p 8 (.p 9 (.q 10 (.p 11 (.e 12 (.e 13 (.p 14 .done))))))))))))))))]}
noncomputable def Wl:H7:= []
def Uw:An:= {plan:= [(1,[0,3,4,7,10],[],false,(.q 0 (.p 1 (.p 2 (.q 3 (.q 4 (.p 5 (.p 6 (.q 7 (.p 8 (.p 9 (.q 10 (.p 11 (.e 12 (.e 13 (.p 14 .done))))))))))))))))]}
noncomputable def GC:H7:= [(225,Df (Xd ⟨prog,WB⟩ [(20,Wi,Ut),(23,Wj,Uu),(28,Wk,Uv),(33,Wl,Uw)] f225.results.toList (f225.body.getD .skip) f225.ntmps))]
def FC:An:= {join:= [(8,⟨[1,6,14,15],[1,2,3,4,5,6,7,9,10,13,14,15],[(5,false,vI)],[],[(11, .nest qe 225 4)]⟩),(10,⟨[1,6],[1,2,3,4,5,6,7,9,10,13,14,15],[(5,false,vI)],[],[(11, .nest qe 225 4)]⟩),(14,⟨[1,3],[1,2,3,4,5,6,7,15],[],[(13,194,[.fix 9, .fix 10, .fix 11, .own qb 3])],[(9, .row qf 88),(10, .nest qf 88 133),(11, .nest qe 225 4)]⟩),(20,⟨[3],[1,2,3,4,5,6,7,9,10,13,17],[(2,false,vI)],[],[(11, .nest qe 225 4)]⟩)],loop:= [(4,⟨[1,6,14],[1,2,3,4,5,6,7,9,10,13,14,15],[(5,false,vI),(15,false,vI)],[],[(11, .nest qe 225 4)]⟩),(16,⟨[1,3,66],[1,2,3,4,5,6,7,9,10,11,13,15,17],[(2,false,vI)],[],[(19, .itM false qb false .bool 18)]⟩)],plan:= [(13,[1,4,7,10],[14,17],false, .done),(18,[3,6,9,11,14,17,22,25,28,30,33,36],[],true, .done)],bump:=18}
noncomputable def Wm:H7:= []
def Ux:An:= {loop:= [(1,⟨[0,2,6,7],[1,2,3,4,5,6,7,9,10,13,15,16,17],[(8,false,vI)],[],[(11, .nest qe 225 4)]⟩)],plan:= [(3,[0,3,5],[9],false, .done)]}
noncomputable def Tv:H7:= []
def Rw:An:= {loop:= [(1,⟨[0,2,6,7],[1,2,3,4,5,6,7,9,10,13,15,16,17,18,19],[(8,false,vI)],[],[(11, .nest qe 225 4)]⟩)],plan:= [(3,[0,3,5],[9],false, .done)]}
noncomputable def GD:H7:= [(79,Z8),(105,W4),(116,Ba),(217,P9),(227,Az),(226,Df (Xd ⟨prog,WB⟩ [(29,Wm,Ux),(107,Tv,Rw)] f226.results.toList (f226.body.getD .skip) f226.ntmps))]
def FD:An:= {join:= [(10,⟨[1,3,4,8,9,10],[1,2,3,4,5,6,7,9,10,13,15,16,17,18],[(12,false,[.own qb 3])],[],[(11, .nest qe 225 4)]⟩),(14,⟨[1,3,4,8,9,10,15,53,54,55],[1,2,3,4,5,6,7,9,10,11,13,15,16,17,18,19],[(16,false,[.fixB 20])],[(20,49,[.val .bool, .val qa, .val qa])],[]⟩),(15,⟨[1,3,4,8,9,10,15,16,53,54,55],[1,2,3,4,5,6,7,9,11,13,15,16,17,18,19,20],[],[],[(10, .nest qf 88 133)]⟩)],loop:= [(7,⟨[1,3,4,8,9,10,44],[1,2,3,4,5,6,7,9,10,11,13,15,16,17,18],[(12,false,[.own qb 3])],[],[(20, .itM false qb false .bool 19)]⟩),(18,⟨[1,3,4,8,9,10,15,53,54,55,114,115],[1,2,3,4,5,6,7,9,10,13,15,16,17,18,19],[(116,false,vI)],[],[(11, .nest qe 225 4)]⟩),(11,⟨[1,3,4,8,9,10,53,54],[1,2,3,4,5,6,7,13,15,16,17,18,19],[(55,false,vI)],[],[(9, .row qf 88),(10, .nest qf 88 133),(11, .nest qe 225 4)]⟩)],plan:= [(13,[0,3,6,9],[12],true, .done),(14,[5,8,13],[16,18],false, .done),(15,[0,3,5,8,11,12,14],[17],true, .done),(20,[0,3,5],[9],false, .done)]}
def Ru:An:= {join:= [(13,⟨[2,5,6,7,8,45,46],[1,2,3,4,5,6,7],[(9,false,vI),(10,false,vI),(11,false,[.val .bool])],[(13,194,[.fix 9, .fix 10, .fix 11, .own qb 3])],[(9, .row qf 88),(10, .nest qf 88 133),(11, .nest qe 225 4)]⟩),(16,⟨[2,5,6,7,8,9,10,45,46],[1,4,5,6,9,10,11,13,15],[],[],[(2, .row qb 3),(3, .row qb 3),(7, .row qb 3)]⟩),(22,⟨[2,5,6,7,12,13,79,80,81],[1,2,3,5,6,9,11,13,14],[],[],[(4, .row qf 88),(10, .nest qf 88 133)]⟩)],loop:= [(10,⟨[2,5,6,7,45],[1,4,5,6],[(46,false,vI)],[(13,194,[.fix 9, .fix 10, .fix 11, .own qb 3])],[(2, .row qb 3),(3, .row qb 3),(7, .row qb 3),(9, .row qf 88),(10, .nest qf 88 133),(11, .nest qe 225 4)]⟩),(19,⟨[2,5,7,79,80],[1,2,3,6,9,11,13,14],[(6,false,[.val qg]),(81,false,vI)],[],[(4, .row qf 88),(5, .row qf 88),(10, .nest qf 88 133)]⟩)],plan:= [(6,[],[16],true,(.p 0 (.p 2 (pZ9 4 3 (pZ9 9 3 (.al [1,3,7,12,15] [8,13,14] (.e 16 .done))))))),(15,[1],[12,14,16],false, .done),(21,[7],[15,17],false, .done),(22,[2,7,10],[17],true, .done)]}
noncomputable def Tu:H7:= [(113,M6),(138,Aq),(181,U7),(178,Df (Xd ⟨prog,WB⟩ [(44,GB,FB)] f178.results.toList (f178.body.getD .skip) f178.ntmps)),(179,Df (Xd ⟨prog,WB⟩ [(51,GC,FC)] f179.results.toList (f179.body.getD .skip) f179.ntmps)),(180,Df (Xd ⟨prog,WB⟩ [(76,GD,FD)] f180.results.toList (f180.body.getD .skip) f180.ntmps))]
abbrev D2f:=(List (List EE)×List Nat)×Unit
abbrev D2q:=Int×(List (Int×Bool)×List (Int×Bool))×Unit
abbrev D2s:=Int×(List (List (Int×Bool))×List Nat)×Wf×Unit
abbrev NI:=Int×(List (List (Int×Bool))×List Nat)×Unit
abbrev D2t:=Int×Int×(List (List (Int×Bool))×List Nat)×Unit
abbrev D2u:=Int×Int×Bool×Wf×List (List EE)×(List (List EE)×List Nat)×(List (List (Int×Bool))×List Nat)×Unit
abbrev D2w:=Int×List (List EE)×(List (List (Int×Bool))×List Nat)×Unit
abbrev D2x:=Int×List (List EE)×(List (List EE)×List Nat)×(List (List (Int×Bool))×List Nat)×Unit
abbrev D3a:=Int×Wf×Wf×Wf×Wf×List (List EE)×(List (List EE)×List Nat)×(List (List (Int×Bool))×List Nat)×Unit
abbrev D3f:=List (List EE)×(List (List EE)×List Nat)×Unit
abbrev D3j:=Wf×(List (Int×Bool)×List (Int×Bool))×Unit
abbrev D3k:=Wf×(List (List (Int×Bool))×List Nat)×Unit
abbrev D3o:=Wf×Int×List (List EE)×List (List EE)×(List (List EE)×List Nat)×Unit
abbrev D3q:=Wf×List (List EE)×(List (List EE)×List Nat)×(List (List (Int×Bool))×List Nat)×Unit
def Jt(x:Kt):Prop:=let b5:=(281474976710656:Int);let bd:=x.1.2.1.toNat;let a6:=(6:Int);let a5:=(4:Int);let b1:=(9223372036854775807:Int);let ad:=(140737488355328:Nat);let a7:=x.1.1.toNat;let f:=(1:Int);let U:=(0:Int);let bw:Prop:=(U<=x.1.2.1/\x.1.2.1<=x.1.2.1/\(↑(8:Nat):Int)*x.1.2.1<=b5/\x.1.2.1<=b1);let ac:Prop:=(∀(v:List EE),v∈ []->Br v);let ba:(Nat)->(Nat)->Prop:=(λi k=>i<x.1.1.toNat->k<x.1.1.toNat->luM ([],[],(U,U,[]),U,U,[]) x.1.1.toNat i k=el x.1 (ix [] i) (ix [] k));let m:Prop:=(U<=x.1.1/\x.1.1<=x.1.1/\(↑(8:Nat):Int)*x.1.1<=b5/\x.1.1<=b1);let b8:Prop:=(∀(T:Nat),(1:Nat)<=T->Zh x.1.1.toNat x.1.1.toNat (el x.1) T->∀(i k:Nat),i<x.1.1.toNat->qs (T+T) (el (U,U,[]) i k)/\qs (T+T) (el (U,U,[]) i k));let e:Prop:=(U<=x.1.1/\x.1.1<=x.1.1/\(↑(24:Nat):Int)*x.1.1<=b5/\x.1.1<=b1);True/\∀(r:W9),True/\True->r.1=decide (D4 x.1)->((!r.1)=true->(¬D4 x.1->([],[],(U,U,[]),U,U,[])=pO/\f=f)/\(D4 x.1->(x.1.1≠x.1.2.1->([],[],(U,U,[]),U,U,[])=pO/\f=a5)/\(x.1.1=x.1.2.1->(¬nonsing x.1.1.toNat (el x.1)->([],[],(U,U,[]),U,U,[])=pO/\f=a6)/\(nonsing x.1.1.toNat (el x.1)->Iu ([],[],(U,U,[]),U,U,[]) x.1.1/\f=U/\ac/\ac/\b8/\∀(i k:Nat),ba i k))))/\((!r.1)=false->(decide (x.1.1≠x.1.2.1)=true->(¬D4 x.1->([],[],(U,U,[]),U,U,[])=pO/\a5=f)/\(D4 x.1->(x.1.1≠x.1.2.1->([],[],(U,U,[]),U,U,[])=pO/\a5=a5)/\(x.1.1=x.1.2.1->(¬nonsing x.1.1.toNat (el x.1)->([],[],(U,U,[]),U,U,[])=pO/\a5=a6)/\(nonsing x.1.1.toNat (el x.1)->Iu ([],[],(U,U,[]),U,U,[]) x.1.1/\a5=U/\ac/\ac/\b8/\∀(i k:Nat),ba i k))))/\(decide (x.1.1≠x.1.2.1)=false->m/\m/\e/\e/\m/\e/\e/\bw/\bw/\∃(I:D2s->Prop),∃(j: _->Nat),I (U,(List.replicate bd [],Qz (Ty.mp false (Ty.int i64) false Ty.bool) bd),List.replicate bd U,())/\∀(p:D2s),let ab:=p.1.toNat;(Ty.int i64).wf p.1/\p.2.1.1.length.le 9223372036854775807/\eP p.2.2.1/\True->I p->(decide (p.1<x.1.2.1)=true->(U<=p.1/\p.1<(↑p.2.1.1.length:Int))/\(U<=p.1/\p.1<(p.2.2.1.length:Int))/\I (i64.wrap (p.1+f),(p.2.1.1.set ab [],SN ab p.2.1.2),List.set p.2.2.1 ab p.1,())/\j (i64.wrap (p.1+f),(p.2.1.1.set ab [],SN ab p.2.1.2),List.set p.2.2.1 ab p.1,())<j p)/\(decide (p.1<x.1.2.1)=false->∃(I:D2w->Prop),∃(j: _->Nat),I (U,List.replicate a7 [],p.2.1,())/\∀(l:D2w),let ao:=(gx [] x.1.2.2 l.1);let K:Prop:=(l.1<(x.1.2.2.length:Int));(Ty.int i64).wf l.1/\Ye l.2.1/\l.2.2.1.1.length.le 9223372036854775807/\True->I l->(decide K=true->(U<=l.1/\K)/\Mz ao/\∀(r:Yv),PE r.1/\True->XB (B6 ao) r.1->(U<=l.1/\l.1<(l.2.1.length:Int))/\∃(I_1:NI->Prop),∃(ag: _->Nat),I_1 (U,l.2.2.1,())/\∀(p:NI),let bk:=(i64.wrap (l.1+f),List.set l.2.1 l.1.toNat r.1,p.2.1,());let ak:=(gx G4 ao p.1);let ai:=ak.1.toNat;let G:Prop:=(p.1<(↑ao.length:Int));(Ty.int i64).wf p.1/\p.2.1.1.length.le 9223372036854775807/\True->I_1 p->(decide G=true->(U<=p.1/\G)/\(U<=ak.1/\ak.1<(↑p.2.1.1.length:Int))/\¬Int.toNat ak.1∈p.2.1.2/\I_1 (i64.wrap (p.1+f),(p.2.1.1.set ai (Hq (Ty.int i64) l.1 true (p.2.1.1.getD ai [])),p.2.1.2),())/\ag (i64.wrap (p.1+f),(p.2.1.1.set ai (Hq (Ty.int i64) l.1 true (p.2.1.1.getD ai [])),p.2.1.2),())<ag p)/\(decide G=false->I bk/\j bk<j l))/\(decide K=false->∃(I:D3a->Prop),∃(j: _->Nat),I (U,p.2.2.1,List.replicate a7 U,List.replicate a7 U,List.replicate a7 U,l.2.1,(List.replicate a7 [],Qz tE.sl a7),l.2.2.1,())/\∀(b:D3a),let bn:=(b.2.2.1.length:Int);let z:=(↑b.2.1.length:Int);(Ty.int i64).wf b.1/\(Ty.int i64).sl.wf b.2.1/\eP b.2.2.1/\eP b.2.2.2.1/\eP b.2.2.2.2.1/\Ye b.2.2.2.2.2.1/\b.2.2.2.2.2.2.1.1.length.le 9223372036854775807/\b.2.2.2.2.2.2.2.1.1.length.le 9223372036854775807/\True->I b->(decide (b.1<x.1.1)=true->∃(J:D2u->Prop),(∃(J_1:NI->Prop),(∃(I:D2t->Prop),∃(j: _->Nat),I (U,U,b.2.2.2.2.2.2.2.1,())/\∀(a:D2t),let bp:=(↑a.2.2.1.1.length:Int);let a3:=a.1.toNat;let t:=a.2.1.toNat;let M:Prop:=(a.2.1<z);let bv:Prop:=((↑(a.2.2.1.1.getD (b.2.1.getD t U).toNat []).length:Int)<(↑((a.2.2.1.1.set (b.2.1.getD t U).toNat (a.2.2.1.1.getD (b.2.1.getD t U).toNat [])).getD (b.2.1.getD a3 U).toNat []).length:Int));(Ty.int i64).wf a.1/\(Ty.int i64).wf a.2.1/\a.2.2.1.1.length.le 9223372036854775807/\True->I a->(decide M=true->∃(J:NI->Prop),((U<=a.2.1/\M)/\(U<=b.2.1.getD t U/\b.2.1.getD t U<bp)/\¬(b.2.1.getD t U).toNat∈a.2.2.1.2/\(a.2.2.1.1.getD (b.2.1.getD t U).toNat []).length<=9223372036854775807/\(U<=a.1/\a.1<z)/\(U<=b.2.1.getD a3 U/\b.2.1.getD a3 U<bp)/\¬(b.2.1.getD a3 U).toNat∈a.2.2.1.2/\((a.2.2.1.1.set (b.2.1.getD t U).toNat (a.2.2.1.1.getD (b.2.1.getD t U).toNat [])).getD (b.2.1.getD a3 U).toNat []).length<=9223372036854775807/\(decide bv=true->J (a.2.1,((a.2.2.1.1.set (b.2.1.getD t U).toNat (a.2.2.1.1.getD (b.2.1.getD t U).toNat [])).set (b.2.1.getD a3 U).toNat ((a.2.2.1.1.set (b.2.1.getD t U).toNat (a.2.2.1.1.getD (b.2.1.getD t U).toNat [])).getD (b.2.1.getD a3 U).toNat []),a.2.2.1.2),()))/\(decide bv=false->J (a.1,((a.2.2.1.1.set (b.2.1.getD t U).toNat (a.2.2.1.1.getD (b.2.1.getD t U).toNat [])).set (b.2.1.getD a3 U).toNat ((a.2.2.1.1.set (b.2.1.getD t U).toNat (a.2.2.1.1.getD (b.2.1.getD t U).toNat [])).getD (b.2.1.getD a3 U).toNat []),a.2.2.1.2),())))/\∀(c:NI),let a0:=c.1.toNat;let E:Prop:=((↑(c.2.1.1.getD (b.2.1.getD a0 U).toNat []).length:Int)<=f);(Ty.int i64).wf c.1/\c.2.1.1.length.le 9223372036854775807/\True->J c->(U<=c.1/\c.1<z)/\(U<=b.2.1.getD a0 U/\b.2.1.getD a0 U<(↑c.2.1.1.length:Int))/\¬(b.2.1.getD a0 U).toNat∈c.2.1.2/\(c.2.1.1.getD (b.2.1.getD a0 U).toNat []).length<=9223372036854775807/\(decide E=true->J_1 (c.1,(c.2.1.1.set (b.2.1.getD a0 U).toNat (c.2.1.1.getD (b.2.1.getD a0 U).toNat []),c.2.1.2),()))/\(decide E=false->I (c.1,i64.wrap (a.2.1+f),(c.2.1.1.set (b.2.1.getD a0 U).toNat (c.2.1.1.getD (b.2.1.getD a0 U).toNat []),c.2.1.2),())/\j (c.1,i64.wrap (a.2.1+f),(c.2.1.1.set (b.2.1.getD a0 U).toNat (c.2.1.1.getD (b.2.1.getD a0 U).toNat []),c.2.1.2),())<j a))/\(decide M=false->J_1 (a.1,a.2.2.1,())))/\∀(a:NI),let az:=(i64.wrap (a.1+f));let n:=a.1.toNat;let R:Prop:=(U<=a.1/\a.1<z);let F:Prop:=((↑(a.2.1.1.getD (b.2.1.getD n U).toNat []).length:Int)=U);(Ty.int i64).wf a.1/\a.2.1.1.length.le 9223372036854775807/\True->J_1 a->R/\(U<=b.2.1.getD n U/\b.2.1.getD n U<(↑a.2.1.1.length:Int))/\¬(b.2.1.getD n U).toNat∈a.2.1.2/\(a.2.1.1.getD (b.2.1.getD n U).toNat []).length<=9223372036854775807/\(decide F=true->J (U,U,false,b.2.1,b.2.2.2.2.2.1,b.2.2.2.2.2.2.1,(a.2.1.1.set (b.2.1.getD n U).toNat (a.2.1.1.getD (b.2.1.getD n U).toNat []),a.2.1.2),()))/\(decide F=false->R/\∃(J_2:D3q->Prop),let bt:Prop:=(((Int.toNat a.1+(List.drop az.toNat (List.take z.toNat b.2.1)).length)*(8:Nat)<=ad/\Int.toNat a.1+(List.drop az.toNat (List.take z.toNat b.2.1)).length<=9223372036854775807)/\J_2 (List.take n b.2.1++List.drop az.toNat (List.take z.toNat b.2.1),b.2.2.2.2.2.1,b.2.2.2.2.2.2.1,(a.2.1.1.set (b.2.1.getD n U).toNat (a.2.1.1.getD (b.2.1.getD n U).toNat []),a.2.1.2),()));((U<=U/\U<=a.1/\a.1<=z)/\(U<=i64.wrap (a.1+f)/\i64.wrap (a.1+f)<=z/\z<=z)/\bt/\bt)/\∀(c:D3q),let bq:=(c.2.1.length:Int);(Ty.int i64).sl.wf c.1/\Ye c.2.1/\c.2.2.1.1.length.le 9223372036854775807/\c.2.2.2.1.1.length.le 9223372036854775807/\True->J_2 c->∃(J_3:NI->Prop),((U<=b.2.1.getD n U/\b.2.1.getD n U<(↑c.2.2.2.1.1.length:Int))/\¬(b.2.1.getD n U).toNat∈c.2.2.2.1.2/\∃(I:D2q->Prop),∃(j: _->Nat),I ((-1:Int),(c.2.2.2.1.1.getD (b.2.1.getD n U).toNat [],c.2.2.2.1.1.getD (b.2.1.getD n U).toNat []),())/\∀(d:D2q),let ah:=(decide (d.1<U));let bf:=(↑(List.getD c.2.1 d.1.toNat []).length:Int);let O:Prop:=(U<=d.1/\d.1<bq);(Ty.int i64).wf d.1/\(∀(x:Int×Bool),x∈d.2.1.2->G5 x.1/\True)/\True->I d->(d.2.1.2= []->(false=true->False)/\(false=false->J_3 (d.1,(c.2.2.2.1.1.set (b.2.1.getD n U).toNat d.2.1.1,c.2.2.2.1.2),())))/\∀(ae:List (Int×Bool)) (y:Int×Bool) (af:List (Int×Bool)),let bg:=(↑(List.getD c.2.1 y.1.toNat []).length:Int);let ap:=(d.2.1.1,ae++af);let Q:Prop:=(U<=y.1/\y.1<bq);let D:Prop:=(bg=bf);let bl:=(G9 (decide D) (decide (y.1<d.1)) false);let bz:Prop:=(bg<bf);let av:=(decide bz);d.2.1.2=ae++y::af->(true=true->(decide (d.1<U)=false->Q)/\(decide (d.1<U)=false->O)/\(G9 ah true av=false->Q)/\(G9 ah true av=false->O)/\(G9 (G9 ah true av) true bl=true->I (y.1,ap,())/\j (y.1,ap,())<j d)/\(G9 (G9 ah true av) true bl=false->I (d.1,ap,())/\j (d.1,ap,())<j d))/\(true=false->J_3 (d.1,(c.2.2.2.1.1,(b.2.1.getD n U).toNat::c.2.2.2.1.2),())))/\∀(p:NI),(Ty.int i64).wf p.1/\p.2.1.1.length.le 9223372036854775807/\True->J_3 p->J (p.1,b.2.1.getD n U,true,c.1,c.2.1,c.2.2.1,p.2.1,())))/\∀(a:D2u),let aq:=a.2.1.toNat;let V:=(List.getD a.2.2.2.2.1 a.1.toNat []);(Ty.int i64).wf a.1/\(Ty.int i64).wf a.2.1/\Ty.bool.wf a.2.2.1/\(Ty.int i64).sl.wf a.2.2.2.1/\Ye a.2.2.2.2.1/\a.2.2.2.2.2.1.1.length.le 9223372036854775807/\a.2.2.2.2.2.2.1.1.length.le 9223372036854775807/\True->J a->((!a.2.2.1)=true->(¬D4 x.1->([],[],(U,U,[]),U,U,[])=pO/\a6=f)/\(D4 x.1->(x.1.1≠x.1.2.1->([],[],(U,U,[]),U,U,[])=pO/\a6=a5)/\(x.1.1=x.1.2.1->(¬nonsing x.1.1.toNat (el x.1)->([],[],(U,U,[]),U,U,[])=pO/\a6=a6)/\(nonsing x.1.1.toNat (el x.1)->Iu ([],[],(U,U,[]),U,U,[]) x.1.1/\a6=U/\ac/\ac/\b8/\∀(i k:Nat),ba i k))))/\((!a.2.2.1)=false->∃(J:D0i->Prop),let bu:Prop:=((U<=b.1/\b.1<(b.2.2.2.1.length:Int))/\(U<=a.2.1/\a.2.1<(b.2.2.2.2.1.length:Int))/\J (List.set b.2.2.1 b.1.toNat a.1,List.set b.2.2.2.1 b.1.toNat a.2.1,List.set b.2.2.2.2.1 aq b.1,()));((U<=b.1/\b.1<bn)/\bu/\bu)/\∀(c:D0i),eP c.1/\eP c.2.1/\eP c.2.2.1/\True->J c->(U<=a.1/\a.1<(a.2.2.2.2.1.length:Int))/\∃(I_1:NI->Prop),∃(ag: _->Nat),I_1 (U,a.2.2.2.2.2.2.1,())/\∀(d:NI),let bs:=(↑d.2.1.1.length:Int);let an:=(gx G4 V d.1);let aj:=an.1.toNat;let B:Prop:=(d.1<(↑V.length:Int));(Ty.int i64).wf d.1/\d.2.1.1.length.le 9223372036854775807/\True->I_1 d->(decide B=true->(U<=d.1/\B)/\(U<=an.1/\an.1<bs)/\¬Int.toNat an.1∈d.2.1.2/\I_1 (i64.wrap (d.1+f),(d.2.1.1.set aj (Qx (Ty.int i64) a.1 (d.2.1.1.getD aj [])),d.2.1.2),())/\ag (i64.wrap (d.1+f),(d.2.1.1.set aj (Qx (Ty.int i64) a.1 (d.2.1.1.getD aj [])),d.2.1.2),())<ag d)/\(decide B=false->PC K1 V/\∀(a1:C7),Zk a1.1/\True->a1.1=rc (B6 V a.2.1)->F4 a1.1/\∀(a9:kN),Zk a9.1/\True/\True->(rv a1.1=(0:Rat)->a9.2.1=false)/\(rv a1.1≠(0:Rat)->a9.1=rc (rv a1.1)⁻¹/\a9.2.1=true)->∃(J:D3k->Prop),((U<=a.2.1/\a.2.1<bs)/\¬Int.toNat a.2.1∈d.2.1.2/\∃(I:D3j->Prop),∃(j: _->Nat),I ([],(d.2.1.1.getD aq [],d.2.1.1.getD aq []),())/\∀(p:D3j),(Ty.int i64).sl.wf p.1/\(∀(x:Int×Bool),x∈p.2.1.2->G5 x.1/\True)/\True->I p->(p.2.1.2= []->(false=true->False)/\(false=false->J (p.1,(d.2.1.1.set aq p.2.1.1,d.2.1.2),())))/\∀(ae:List (Int×Bool)) (y:Int×Bool) (af:List (Int×Bool)),let bm:=(p.1++ [y.1],(p.2.1.1,ae++af),());p.2.1.2=ae++y::af->(true=true->((p.1.length+ [y.1].length)*(8:Nat)<=ad/\p.1.length+ [y.1].length<=9223372036854775807)/\I bm/\j bm<j p)/\(true=false->J (p.1,(d.2.1.1,Int.toNat a.2.1::d.2.1.2),())))/\∀(g:D3k),(Ty.int i64).sl.wf g.1/\g.2.1.1.length.le 9223372036854775807/\True->J g->∃(I_2:D2x->Prop),∃(bx: _->Nat),I_2 (U,a.2.2.2.2.1,a.2.2.2.2.2.1,g.2.1,())/\∀(h:D2x),let bh:=(i64.wrap (b.1+f),a.2.2.2.1,c.1,c.2.1,c.2.2.1,h.2.1,h.2.2.1,h.2.2.2.1,());let Y:=h.1.toNat;let aa:=(List.getD h.2.1 (g.1.getD Y U).toNat []);let P:Prop:=(h.1<(↑g.1.length:Int));let C:Prop:=(U<=g.1.getD Y U/\g.1.getD Y U<(↑h.2.2.1.1.length:Int));let q:Prop:=(U<=g.1.getD Y U/\g.1.getD Y U<(h.2.1.length:Int));(Ty.int i64).wf h.1/\Ye h.2.1/\h.2.2.1.1.length.le 9223372036854775807/\h.2.2.2.1.1.length.le 9223372036854775807/\True->I_2 h->(decide P=true->(U<=h.1/\P)/\∃(J:B5i->Prop),let A:(C7)->(C7)->Prop:=(λr w=>Zk w.1/\True->w.1=rc (rv r.1*rv a9.1)->J (w.1.1.1,w.1.1.2,w.1.2,()));let S:(C7)->Prop:=(λr=>(F4 r.1/\F4 a9.1)/\∀(w:C7),A r w);(q/\(PC K1 aa/\∀(r:C7),Zk r.1/\True->r.1=rc (B6 aa a.2.1)->(S r)/\(F4 r.1/\F4 a9.1)/\∀(w:C7),A r w)/\PC K1 aa/\∀(r:C7),Zk r.1/\True->r.1=rc (B6 aa a.2.1)->S r)/\∀(a4:B5i),let b6:=(a4.1,a4.2.1);let b3:=(b.1,b6,a4.2.2.1);Ty.bool.wf a4.1/\(Ty.int u32).sl.wf a4.2.1/\(Ty.int u32).sl.wf a4.2.2.1/\True->J a4->∃(J:D2f->Prop),let u:Prop:=((((h.2.2.1.1.getD (g.1.getD Y U).toNat []).length+ [b3].length)*(64:Nat)<=ad/\(h.2.2.1.1.getD (g.1.getD Y U).toNat []).length+ [b3].length<=9223372036854775807)/\C/\(g.1.getD Y U).toNat=(g.1.getD Y U).toNat/\J ((h.2.2.1.1.set (g.1.getD Y U).toNat (h.2.2.1.1.getD (g.1.getD Y U).toNat []++ [b3]),h.2.2.1.2),()));let bc:Prop:=(¬(g.1.getD Y U).toNat∈h.2.2.1.2/\u);let L:Prop:=(bc/\¬(g.1.getD Y U).toNat∈h.2.2.1.2/\u/\u);(C/\((bc/\bc)/\(¬(g.1.getD Y U).toNat∈h.2.2.1.2/\u/\u/\u)/\L)/\(¬(g.1.getD Y U).toNat∈h.2.2.1.2/\(u/\u/\u)/\(u/\u)/\u)/\L/\¬(g.1.getD Y U).toNat∈h.2.2.1.2/\(u/\u)/\u)/\∀(bb:D2f),bb.1.1.length.le 9223372036854775807/\True->J bb->q/\F4 (b6,a4.2.2.1)/\∀(w:C7),Zk w.1/\True->w.1=rc (-rv (b6,a4.2.2.1))->(PC K1 aa/\sz K1 w.1/\PC K1 V)/\∀(ax:Yv),let b2:=(List.set h.2.1 (g.1.getD Y U).toNat ax.1);PE ax.1/\True->XB (fun(i:Int)=>B6 aa i+rv w.1*B6 V i) ax.1->q/\∃(I:NI->Prop),∃(j: _->Nat),I (U,h.2.2.2.1,())/\∀(o:NI),let am:=(gx G4 V o.1);let ar:=am.1.toNat;let be:Prop:=(o.1<(↑V.length:Int));(Ty.int i64).wf o.1/\o.2.1.1.length.le 9223372036854775807/\True->I o->(decide be=true->(U<=o.1/\be)/\(U<=am.1/\am.1<(↑o.2.1.1.length:Int))/\¬Int.toNat am.1∈o.2.1.2/\I (i64.wrap (o.1+f),(o.2.1.1.set ar (Qx (Ty.int i64) (g.1.getD Y U) (o.2.1.1.getD ar [])),o.2.1.2),())/\j (i64.wrap (o.1+f),(o.2.1.1.set ar (Qx (Ty.int i64) (g.1.getD Y U) (o.2.1.1.getD ar [])),o.2.1.2),())<j o)/\(decide be=false->(U<=g.1.getD Y U/\g.1.getD Y U<(↑b2.length:Int))/\∃(I:NI->Prop),∃(j: _->Nat),I (U,o.2.1,())/\∀(s:NI),let al:=(i64.wrap (h.1+f),List.set h.2.1 (g.1.getD Y U).toNat ax.1,bb.1,s.2.1,());let X:=(gx G4 (b2.getD (g.1.getD Y U).toNat []) s.1);let au:=X.1.toNat;let b9:Prop:=(s.1<(↑(b2.getD (g.1.getD Y U).toNat []).length:Int));(Ty.int i64).wf s.1/\s.2.1.1.length.le 9223372036854775807/\True->I s->(decide b9=true->(U<=s.1/\b9)/\(U<=X.1/\X.1<(↑s.2.1.1.length:Int))/\¬Int.toNat X.1∈s.2.1.2/\I (i64.wrap (s.1+f),(s.2.1.1.set au (Hq (Ty.int i64) (g.1.getD Y U) true (s.2.1.1.getD au [])),s.2.1.2),())/\j (i64.wrap (s.1+f),(s.2.1.1.set au (Hq (Ty.int i64) (g.1.getD Y U) true (s.2.1.1.getD au [])),s.2.1.2),())<j s)/\(decide b9=false->I_2 al/\bx al<bx h)))/\(decide P=false->I bh/\j bh<j b))))/\(decide (b.1<x.1.1)=false->∃(I:D3o->Prop),∃(j: _->Nat),I (b.2.2.2.2.1,U,List.replicate a7 [],List.replicate a7 [],b.2.2.2.2.2.2.1,())/\∀(a:D3o),let bo:=(x.1.1,x.1.1,a.2.2.1);let b0:=(a.1.length:Int);let a2:=a.2.1.toNat;let Z:=(b.2.2.1,b.2.2.2.1,bo,x.1.1,x.1.1,a.2.2.2.1);let W:=(List.getD b.2.2.1 a2 U);let b4:=(List.getD b.2.2.2.2.2.1 W.toNat []);let H:Prop:=(a.2.1<bn);let ay:Prop:=(U<=a.2.1/\a.2.1<(a.2.2.1.length:Int));let b7:(C7)->Prop:=(λr=>((a.2.2.2.2.1.1.getD W.toNat []).length+ [(a.2.1,r.1)].length)*(64:Nat)<=ad/\(a.2.2.2.2.1.1.getD W.toNat []).length+ [(a.2.1,r.1)].length<=9223372036854775807);(Ty.int i64).sl.wf a.1/\(Ty.int i64).wf a.2.1/\Ye a.2.2.1/\Ye a.2.2.2.1/\a.2.2.2.2.1.1.length.le 9223372036854775807/\True->I a->(decide H=true->(U<=a.2.1/\H)/\∃(J:D3f->Prop),let a8:(C7)->Prop:=(λr=>let bj:=(a.2.1,r.1);(((a.2.2.2.2.1.1.getD W.toNat []).length+ [bj].length)*(64:Nat)<=ad/\(a.2.2.2.2.1.1.getD W.toNat []).length+ [bj].length<=9223372036854775807)/\ay/\J (List.set a.2.2.1 a2 (a.2.2.2.2.1.1.getD W.toNat []++ [bj]),(a.2.2.2.2.1.1,W.toNat::a.2.2.2.2.1.2),()));let N:Prop:=(True/\∀(r:C7),Zk r.1/\True->r.1=ri f->a8 r);let aw:(C7)->Prop:=(λr=>¬W.toNat∈a.2.2.2.2.1.2/\a8 r);((U<=List.getD b.2.2.1 a2 U/\List.getD b.2.2.1 a2 U<(↑a.2.2.2.2.1.1.length:Int))/\((¬W.toNat∈a.2.2.2.2.1.2/\N)/\True/\∀(r:C7),Zk r.1/\True->r.1=ri f->(aw r)/\¬W.toNat∈a.2.2.2.2.1.2/\(b7 r)/\ay/\J (List.set a.2.2.1 a2 (a.2.2.2.2.1.1.getD W.toNat []++ [(a.2.1,r.1)]),(a.2.2.2.2.1.1,W.toNat::a.2.2.2.2.1.2),()))/\(¬W.toNat∈a.2.2.2.2.1.2/\N/\True/\∀(r:C7),Zk r.1/\True->r.1=ri f->(a8 r)/\(a8 r)/\(b7 r)/\ay/\J (List.set a.2.2.1 a2 (a.2.2.2.2.1.1.getD W.toNat []++ [(a.2.1,r.1)]),(a.2.2.2.2.1.1,W.toNat::a.2.2.2.2.1.2),()))/\True/\∀(r:C7),Zk r.1/\True->r.1=ri f->((aw r)/\aw r)/\(¬W.toNat∈a.2.2.2.2.1.2/\(a8 r)/\(a8 r)/\a8 r)/\(aw r)/\¬W.toNat∈a.2.2.2.2.1.2/\(a8 r)/\(b7 r)/\ay/\J (List.set a.2.2.1 a2 (a.2.2.2.2.1.1.getD W.toNat []++ [(a.2.1,r.1)]),(a.2.2.2.2.1.1,W.toNat::a.2.2.2.2.1.2),()))/\∀(c:D3f),Ye c.1/\c.2.1.1.length.le 9223372036854775807/\True->J c->(U<=List.getD b.2.2.1 a2 U/\List.getD b.2.2.1 a2 U<(b.2.2.2.2.2.1.length:Int))/\(PC K1 b4/\List.length a.1<=100000)/\∀(a1:List EE×Bool×Unit),let bi:=(a.1,i64.wrap (a.2.1+f),c.1,List.set a.2.2.2.1 a2 a1.1,c.2.1,());PE a1.1/\True/\True->(N7 a.1 b0->(∀(k:Int),B6 b4 k≠(0:Rat)->U<=k/\k<b0)->XB (fun(i:Int)=>if U<=i/\i<b0 then B6 b4 (↑(List.idxOf i a.1):Int)else(0:Rat)) a1.1/\a1.2.1=true)->(U<=a.2.1/\a.2.1<(a.2.2.2.1.length:Int))/\I bi/\j bi<j a)/\(decide H=false->(¬D4 x.1->Z=pO/\U=f)/\(D4 x.1->(x.1.1≠x.1.2.1->Z=pO/\U=a5)/\(x.1.1=x.1.2.1->(¬nonsing x.1.1.toNat (el x.1)->Z=pO/\U=a6)/\(nonsing x.1.1.toNat (el x.1)->Iu Z x.1.1/\U=U/\(∀(v:List EE),v∈a.2.2.1->Br v)/\(∀(v:List EE),v∈a.2.2.2.1->Br v)/\(∀(T:Nat),(1:Nat)<=T->Zh x.1.1.toNat x.1.1.toNat (el x.1) T->∀(i k:Nat),i<x.1.1.toNat->qs (T+T) (el bo i k)/\qs (T+T) (el (x.1.1,x.1.1,a.2.2.2.1) i k))/\∀(i k:Nat),i<x.1.1.toNat->k<x.1.1.toNat->luM Z x.1.1.toNat i k=el x.1 (ix b.2.2.1 i) (ix b.2.2.2.1 k))))))))))
def GI (x:A2 O6.args):C9u prog WB Tu Ru O6 f112 x=Jt x:=by kernel_rfl
def D4l (n:Nat) (M:U8) (b:Wf) (rows c:List (List D9)) (a:List T0) (q:Int×Int×Bool×Wf×List (List D9)×NR×NB×Unit):Prop:=q.2.2.2.2.1=rows/\q.2.2.2.2.2.1.1=c/\pM n q.2.2.2.2.2.1.2/\q.2.2.2.2.2.2.1.1=a/\pM n q.2.2.2.2.2.2.1.2/\(q.2.2.1=false->¬nonsing n (el M))/\(q.2.2.1=true->q.2.1∈b/\q.1∈R9 (a.getD q.2.1.toNat [])/\q.2.2.2.1.Nodup/\∀x,x∈q.2.2.2.1↔x∈b/\x≠q.2.1)
def C6v (n:Nat) (b:Wf) (a:List T0) (q:Int×NB×Unit):Prop:=0<=q.1/\q.1<(b.length:Int)/\q.2.1.1=a/\pM n q.2.1.2
def D0z (n:Nat) (a:Wf) (b:List T0) (q:Int×Int×NB×Unit):Prop:=0<=q.1/\q.1<(a.length:Int)/\0<=q.2.1/\q.2.1<=(a.length:Int)/\q.2.2.1.1=b/\pM n q.2.2.1.2
def D4m (n:Nat) (a:Wf) (b:Nat) (rows d:List (List D9)) (c:List T0) (q:Wf×List (List D9)×NR×NB×Unit):Prop:=q.1=a.take b++a.drop (b+1)/\q.2.1=rows/\q.2.2.1.1=d/\pM n q.2.2.1.2/\q.2.2.2.1.1=c/\pM n q.2.2.2.1.2
def D4u (es:T0) (q:Int×(T0×T0)×Unit):Prop:=q.2.1.1=es/\(∀y∈q.2.1.2,y∈es)/\((q.1<0/\q.2.1.2.length=es.length)\/q.1∈R9 es)
def D4v (n:Nat) (a:List T0) (c:Int) (q:Int×NB×Unit):Prop:=q.1∈R9 (a.getD c.toNat [])/\q.2.1.1=a/\pM n q.2.1.2
def D4s (es:T0) (q:Wf×(T0×T0)×Unit):Prop:=q.2.1.1=es/\(q.1++R9 q.2.1.2).Perm (R9 es)
def D4t (n:Nat) (a:List T0) (c:Int) (q:Wf×NB×Unit):Prop:=q.1.Perm (R9 (a.getD c.toNat []))/\q.2.1.1=a/\pM n q.2.1.2
def N6 (n:Nat) (M:U8) (k:Nat) (d P:Wf) (rows b:List (List D9)) (r c:Int) (a:Wf) (q:Int×List (List D9)×NR×NB×Unit):Prop:=0<=q.1/\q.1<=(a.length:Int)/\(∀s,1<=s->Zh n n (el M) s->CI n k (s+s) d P rows b r c (a.take q.1.toNat) q.2.1 q.2.2.1.1 q.2.2.2.1.1)/\pM n q.2.2.1.2/\pM n q.2.2.2.1.2
def D1f (x:Rat) (q:Bool×Wf×Wf×Unit):Prop:=((q.1,q.2.1),q.2.2.1)=rc x
def D4o (n:Nat) (P place:Wf) (rows b:List (List D9)) (q:Wf×Int×List (List D9)×List (List D9)×NR×Unit):Prop:=q.1=place/\0<=q.2.1/\q.2.1<=(n:Int)/\q.2.2.1.length=n/\q.2.2.2.1.length=n/\q.2.2.2.2.1.1=b/\(∀m∈q.2.2.2.2.1.2,n<=m\/∃a:Nat,(a:Int)<q.2.1/\m=ix P a)/\(∀a:Nat,(a:Int)<q.2.1->q.2.2.1.getD a []=b.getD (ix P a) []++ [((a:Int),rc 1)])/\∀a:Nat,(a:Int)<q.2.1->XB (λi=>if 0<=i/\i<(n:Int)then B6 (rows.getD (ix P a) []) ((List.idxOf i place:Nat):Int)else 0) (q.2.2.2.1.getD a [])
def EI.okFin {n k:Nat} {S:Nat->Nat} {A:Nat->Nat->Rat} {g P Q place:Wf} {rows c:List (List D9)} {b:List T0} (h:EI n k S A g P Q place rows c b) (i:n<=16384) {a:Nat} (d:a<k) (f:S a<=K1):PC K1 (rows.getD (ix P a) []):=by
 obtain⟨b,c,_⟩:=h.can _ (h.elim.plt a d);have:=Pj (n:=(n:Int)) (v:=rows.getD (ix P a) []) ⟨b.1,λe he=>⟨(c e he).1,(c e he).2,(b.2 e he).1⟩⟩;exact⟨b.1,WT b λj=>G8 (h.fin a d j) f,ω⟩
def EI.cnt {n k:Nat} {S:Nat->Nat} {A:Nat->Nat->Rat} {a P Q place:Wf} {rows c:List (List D9)} {b:List T0} (h:EI n k S A a P Q place rows c b) (d:n<=16384) {i:Int} (f:0<=i) (g:i<(a.length:Int)):(0<=a.getD i.toNat 0/\a.getD i.toNat 0<((b.length:Nat):Int))/\(a.getD i.toNat 0).toNat<n/\(b.getD (a.getD i.toNat 0).toNat []).length<=9223372036854775807/\a.getD i.toNat 0∈a:=by
 have b:a.getD i.toNat 0∈a:=C1 ω;obtain⟨a,c1⟩:=h.crange b;have:=h.colLen b;rw[h.lcols];exact⟨⟨a,c1⟩,ω,ω,b⟩
set_option maxHeartbeats 4000000
def GJ:sx O6 Jt:=λx c0 fb=>by
 obtain⟨⟨R,C,D⟩,_⟩:=x;have f3:A7d (R,C,D):=XD c0.1.2.2.2;change Int at R C;change List (List D9)at D;obtain⟨fk,ez⟩:Jv K1 (R,C,D)/\(D4 (R,C,D)->R=C->∃T:Nat,1<=T/\8*T+8<=K1/\Zh R.toNat R.toNat (el (R,C,D)) T):=fb;simp only[Jt];refine⟨trivial,?_⟩;rintro⟨u,_⟩ _ I;simp only at I|-;by_cases a7:D4 (R,C,D)
 case neg=>
  have I:u=false:=by rw[I];exact rC a7
  rw[I];exact⟨λ_=>⟨λ_=>⟨rfl,trivial⟩,λh=>absurd h a7⟩,λh=>(by cases h)⟩
 have I:u=true:=by rw[I];exact rE a7
 rw[I];obtain⟨g5,g6,g7,g8,ef,eg⟩:=id a7;simp only at g5 g6 g7 g8 ef eg;refine⟨λh=>(by cases h),λ_=>⟨λbu=>?_,λcg=>?_⟩⟩
 . have bu:=qA bu;exact⟨λh=>absurd a7 h,λ_=>⟨λ_=>⟨rfl,trivial⟩,λh=>absurd h bu⟩⟩
 have cg:R=C:=qR (qB cg);subst cg;obtain⟨n,rfl⟩:∃n:Nat,R=(n:Int):=⟨R.toNat,ω⟩;obtain⟨V,cr,gy,bz⟩:=ez a7 rfl;rw[qJ]at bz;simp only[qJ];have b1:0<=(n:Int)/\(n:Int)<=(n:Int)/\8*(n:Int)<=281474976710656/\(n:Int)<=9223372036854775807:=⟨ω,qH _,ω,ω⟩;have bi:0<=(n:Int)/\(n:Int)<=(n:Int)/\24*(n:Int)<=281474976710656/\(n:Int)<=9223372036854775807:=⟨ω,qH _,ω,ω⟩;refine⟨b1,b1,bi,bi,b1,bi,bi,b1,b1,LZ n,λp=>((n:Int)-p.1).toNat,LZ.init,?_⟩;rintro⟨(bf:Int),⟨(ag:List T0),em⟩,left,_⟩ _ H;simp only;have bt:=H.1;have dr:=H.2.1;have f4:ag.length=n:=H.2.2.1;have f5:left.length=n:=H.2.2.2.2.2.1;simp only at bt dr;refine⟨λf=>?_,λf=>?_⟩
 . have f:=qA f;rw[wv ω];exact⟨⟨bt,ω⟩,⟨bt,ω⟩,H.next f,ω⟩
 have f:=qB f;have cn:(n:Int)<=bf:=ω
 have gp:(D.length:Int)=(n:Int):=ef;refine⟨HD n D,λp=>((n:Int)-p.1).toNat,HD.init H cn,?_⟩;rintro⟨(X:Int),ed,⟨a1,d3⟩,_⟩ _ an;change List (List D9)at ed;change List T0 at a1;simp only;have av:=an.1;have dz:=an.2.1;have fh:ed.length=n:=an.2.2.1;simp only at av dz;refine⟨λw=>?_,λw=>?_⟩
 . have w:=qA w;have fl:X<(n:Int):=ω
   have cm:=I7 (d:=([]:List D9)) av w;rw[mO av w]at cm|-;have cu:=eg _ cm;have a6:=oM a7 fk cm;refine⟨⟨av,w⟩, .inl ⟨a6.1,a6.2.1,a6.2.2⟩,?_⟩;rintro⟨(ax:List D9),_⟩ _ c0;simp only at c0|-;refine⟨⟨av,ω⟩,TG n (λi=>B6 (D.getD i [])) X (D.getD X.toNat []),λp=>(((D.getD X.toNat []).length:Int)-p.1).toNat,an.row,?_⟩;rintro⟨(c3:Int),⟨(cols2:List T0),d4⟩,_⟩ _ b8;simp only;have ex:=b8.1;have ey:=b8.2.1;simp only at ex ey;have e2:∀e∈D.getD X.toNat [],0<=e.1/\e.1<(n:Int):=λe a2=>⟨(cu.2 e a2).1,(cu.2 e a2).2.1⟩
   have f9:=a6.2.2;refine⟨λE=>?_,λE=>?_⟩
   . have E:=qA E;rw[wv ω];obtain⟨r,s,a9⟩:=b8.rng e2 E;exact⟨r,s,a9,b8.next e2 E,ω⟩
   . have E:=qB E;rw[wv ω];exact⟨an.next fl cu c0 b8 ω,ω⟩
 have w:=qB w;have ds:(n:Int)<=X:=ω
 refine⟨C5d n ((n:Int),(n:Int),D),λp=>((n:Int)-p.1).toNat,C5d.init a7 f3 rfl rfl H cn an ds,?_⟩;clear H bt dr f4 f5 an av dz fh f cn w ds;rintro⟨(o:Int),(M:Wf),(P:Wf),(Q:Wf),(place:Wf),rows,⟨c2,gi⟩,⟨ag,em⟩,_⟩ _ ⟨cx,fo,ak,b3,d5⟩;change List (List D9)at rows c2;change List T0 at ag;simp only at cx fo ak b3 d5|-;have a:=ak V cr bz;refine⟨λb9=>?_,λb9=>?_⟩
 . have b9:=qA b9;have cl:o.toNat<n:=ω
   have b6:V+V<=K1:=ω
   have gv:=a.more cl;have bb:=a.lrows;have dn:=a.llow;have dm:=a.lcols;have gw:M.length<=n:=QV a.rnd λx hx=>a.crange hx
   refine⟨D4l n ((n:Int),(n:Int),D) M rows c2 ag,⟨C6v n M ag,⟨D0z n M ag,λq=>((M.length:Int)-q.2.1).toNat,⟨qH _,by simp only;omega,qH _,by simp only;omega,rfl,d5⟩,?_⟩,?_⟩,?_⟩
   . rintro⟨(b:Int),(j:Int),⟨b2,d2⟩,_⟩ _ ⟨a0,a3,ab,cw,rfl,N⟩;simp only at a0 a3 ab cw N|-;refine⟨λk=>?_,λk=>⟨a0,a3,rfl,N⟩⟩;have k:=qA k;obtain⟨c5,bg,c6,ay⟩:=a.cnt ω ab k;obtain⟨ei,ej,ek,gc⟩:=a.cnt ω a0 a3;simp only[NE];refine⟨C6v n M b2,⟨⟨ab,k⟩,c5,N _ bg,c6,⟨a0,a3⟩,ei,N _ ej,ek,λ_=>⟨ab,k,rfl,N⟩,λ_=>⟨a0,a3,rfl,N⟩⟩,?_⟩;rintro⟨(eh:Int),⟨cols2,d4⟩,_⟩ _ ⟨az,b0,rfl,ah⟩;simp only at az b0 ah|-;obtain⟨bj,bk,bl,gm⟩:=a.cnt ω az b0;rw[wv ω];exact⟨⟨az,b0⟩,bj,ah _ bk,bl,λ_=>⟨az,b0,rfl,ah⟩,λ_=>⟨⟨az,b0,by simp only;omega,by simp only;omega,rfl,ah⟩,ω⟩⟩
   . rintro⟨(b:Int),⟨b2,d2⟩,_⟩ _ ⟨a0,a3,rfl,N⟩;simp only at a0 a3 N|-;obtain⟨c5,bg,c6,ay⟩:=a.cnt ω a0 a3;simp only[NE];refine⟨⟨a0,a3⟩,c5,N _ bg,c6,λaj=>?_,λaj=>?_⟩
     . have aj:=qA aj;exact⟨rfl,rfl,b3,rfl,N,λ_=>a.stuck ay (qT (g4b.1 aj)),λh=>(by cases h)⟩
     have aj:=qB aj;rw[wv ω];simp only[qJ,vK];rw[(ω:(b+1).toNat=b.toNat+1)];have ba:b.toNat+(List.drop (b.toNat+1) M).length<=n:=by rw[sU];omega
     generalize ac:M.getD b.toNat 0=c at*;obtain⟨bh,c1⟩:=a.crange ay;have co:=a.pick (b:=b.toNat) ω;rw[ac]at co;refine⟨⟨a0,a3⟩,D4m n M b.toNat rows c2 b2,⟨⟨qH _,a0,ω⟩,⟨ω,ω,qH _⟩,⟨⟨ω,ω⟩,rfl,rfl,rfl,b3,rfl,N⟩,⟨ω,ω⟩,rfl,rfl,rfl,b3,rfl,N⟩,?_⟩;rintro⟨(fx:Wf),ec,⟨h0,gj⟩,⟨cols2,d4⟩,_⟩ _ ⟨ai,rfl,rfl,b4,rfl,aq⟩;simp only at ai b4 aq|-;obtain⟨gs,dc⟩:=a.col c ay;have fi:∀y:Int×Bool,y∈cols2.getD c.toNat []->0<=y.1/\y.1<(ec.length:Int):=λy a8=>by
      obtain⟨cb,g9,_⟩:=(dc y.1).1 (A2l a8);rw[bb];exact⟨cb,g9⟩
     have bu:0<(cols2.getD c.toNat []).length:=by
      rcases vR (cols2.getD c.toNat []).length with J|J
      . exact absurd (g4b.2 J) aj
      . exact J
     have ce:c<(cols2.length:Int):=by rw[dm];exact c1
     refine⟨D4v n cols2 c,⟨⟨bh,ce⟩,aq _ bg,D4u (cols2.getD c.toNat []),λq=>q.2.1.2.length,⟨rfl,λy a8=>a8, .inl ⟨by show(-1:Int)<0;decide,rfl⟩⟩,?_⟩,?_⟩
     . rintro⟨(i:Int),⟨eo,(left:T0)⟩,_⟩ _ ⟨rfl,ae,B⟩;simp only at ae B|-;refine⟨λa4=>⟨λh=>(by cases h),λ_=>⟨?_,NE _ _ _,aq⟩⟩,λl1 y l2 a4=>⟨λ_=>?_,λh=>(by cases h)⟩⟩
       . rcases B with⟨_,B⟩ |B
         . rw[a4]at B;simp only[vT]at B;omega
         . exact B
       have a8:=fi y (ae y (by rw[a4];simp));have fm:y.1∈R9 (cols2.getD c.toNat []):=A2l (ae y (by rw[a4];simp));have e0:∀z∈l1++l2,z∈cols2.getD c.toNat []:=λz J=>ae z (by
        rw[a4];rcases rB.1 J with J|J
        . exact sW _ J
        . exact tT _ (qO _ J))
       have bq:(l1++l2).length<left.length:=by rw[a4,rQ,rQ,rI];omega
       have ad:¬i<0->i∈R9 (cols2.getD c.toNat [])/\0<=i/\i<(ec.length:Int):=λh=>by
        rcases B with⟨E,_⟩ |E
        . exact absurd E h
        . obtain⟨cb,g9,_⟩:=(dc i).1 E;rw[bb];exact⟨E,cb,g9⟩
       have f6:∀ {q:Bool},G9 (decide (i<0)) true q=false->¬i<0:=λ{q} h E=>by
        rw[rE E]at h;cases h
       refine⟨λ_=>a8,λh=>(ad (qB h)).2,λ_=>a8,λh=>(ad (f6 h)).2,λ_=>⟨⟨rfl,e0, .inr fm⟩,bq⟩,λh=>⟨⟨rfl,e0, .inr (ad ?_).1⟩,bq⟩⟩;intro E;rw[rE E]at h;cases h
     . rintro⟨i,⟨ga,gf⟩,_⟩ _ ⟨ae,rfl,be⟩;exact⟨rfl,rfl,b4,rfl,be,λh=>(by cases h),λ_=>⟨ay,ae,ai▸co.1,ai▸co.2⟩⟩
   . rintro⟨(u:Int),(c:Int),(e7:Bool),(fw:Wf),l,⟨Y,c9⟩,⟨b2,d2⟩,_⟩ _ ⟨rfl,rfl,N,rfl,ah,e5,e6⟩;simp only at N ah e5 e6|-;cases e7 with
     |false=>exact⟨λ_=>⟨λh=>absurd a7 h,λ_=>⟨λh=>absurd rfl h,λ_=>⟨λ_=>⟨rfl,trivial⟩,λh=>absurd h (e5 rfl)⟩⟩⟩,λh=>(by cases h)⟩
     |true=>
     obtain⟨ac,I,ff,fg⟩:=e6 rfl;obtain⟨bh,c1⟩:=a.crange ac;obtain⟨fr,fs,fu,eb⟩:=a.row ac I;have er:=a.lP;have gq:=a.lQ;have bx:=a.lpl;refine⟨λh=>(by cases h),λ_=>?_⟩;have fq:0<=o/\o<(P.length:Int):=⟨cx,ω⟩;have e8:0<=o/\o<(Q.length:Int):=⟨cx,ω⟩;have e9:0<=c/\c<(place.length:Int):=⟨bh,ω⟩;refine⟨λq=>q.1=P.set o.toNat u/\q.2.1=Q.set o.toNat c/\q.2.2.1=place.set c.toNat o,⟨fq,⟨e8,e9,rfl,rfl,rfl⟩,e8,e9,rfl,rfl,rfl⟩,?_⟩;rintro⟨P',Q',ea,_⟩ _ ⟨bj,bk,bl⟩;simp only at bj bk bl|-;have cq:PC K1 (l.getD u.toNat []):=a.okRow b6 ω ω;have bc:∀e∈l.getD u.toNat [],0<=e.1/\e.1<(n:Int):=(a.can u.toNat ω).2.1;have fd:=(a.can u.toNat ω).2.2;have dw:X0 l u.toNat c.toNat=B6 (l.getD u.toNat []) c:=by unfold X0;rw[(ω:((c.toNat:Nat):Int)=c)]
     rw[dw]at eb;generalize cp:l.getD u.toNat []=t at*;have gu:=cq.2.2;refine⟨⟨fr,by rw[bb];exact fs⟩,IL n M (inC b2) u t,λp=>((t.length:Int)-p.1).toNat,⟨qH _,qF _,dm,ah,λj k=>⟨a.crange k,A0w ⟨(a.col j k).1,λx=>yA⟩⟩⟩,?_⟩;rintro⟨(bf:Int),⟨(a1:List T0),d3⟩,_⟩ _ A;simp only;have fy:=A.1;have fz:=A.2.1;simp only at fy fz;refine⟨λf=>?_,λf=>?_⟩
     . have f:=qA f;rw[wv ω];obtain⟨r,s,a9⟩:=A.rng bc f;exact⟨r,s,a9,A.next bc f,ω⟩
     have f:=qB f;have ci:∀W,1<=W->Zh n n (el ((n:Int),(n:Int),D)) W->CI n o.toNat (W+W) M P l Y u c [] l Y a1:=λW r s=>CI.init (ak W r s) ac I A.2.2.1 λj k=>by
      have cb:=(A.2.2.2.2 j k).2;simp only at cb;rw[E4 (ω:(t.length:Int)<=bf)]at cb;rw[cp];exact cb
     have d6:pM n d3:=A.2.2.2.1;have f2:a1.length=n:=A.2.2.1;clear A;obtain⟨ck,bp⟩:=(ci V cr bz).col c ac;have dj:∀x∈R9 (a1.getD c.toNat []),0<=x/\x<(n:Int):=λx hx=>⟨((bp x).1 hx).2.1,((bp x).1 hx).2.2.1⟩
     have di:(R9 (a1.getD c.toNat [])).length<=n:=QV ck dj;refine⟨cq,?_⟩;rintro⟨(v:B7),_⟩ _ cs;simp only at cs|-;have ct:qs (V+V) (B6 t c):=fd c;refine⟨by rw[cs];exact I1 (G8 ct b6) δ,?_⟩;rintro⟨(cv:B7),h4,_⟩ _ au;simp only at au|-;rw[cs,C9]at au;obtain⟨au,_⟩:=au.2 eb;have ce:c<(a1.length:Int):=by rw[f2];exact c1
     refine⟨D4t n a1 c,⟨⟨bh,ce⟩,d6 _ ω,D4s (a1.getD c.toNat []),λq=>q.2.1.2.length,⟨rfl,wV _⟩,?_⟩,?_⟩
     . rintro⟨(c7:Wf),⟨eo,(left:T0)⟩,_⟩ _ ⟨rfl,B⟩;simp only at B|-;refine⟨λa4=>⟨λh=>(by cases h),λ_=>⟨?_,NE _ _ _,d6⟩⟩,λl1 y l2 a4=>⟨λ_=>?_,λh=>(by cases h)⟩⟩
       . subst a4;rw[show R9 []= []from rfl,vD]at B;exact B
       subst a4;have dv:(c7++ [y.1]++R9 (l1++l2)).Perm (R9 (a1.getD c.toNat [])):=by
        refine List.Perm.trans ?_ B;rw[vA];refine g3g c7 ?_;unfold R9;rw[uO,uO,sE,List.singleton_append];exact List.perm_middle.symm
       have es:=dv.length_eq;rw[rQ,rQ,qU]at es;have bq:(l1++l2).length<(l1++y::l2).length:=by rw[rQ,rQ,rI];omega
       exact⟨⟨by rw[qU];omega,by rw[qU];omega⟩,⟨rfl,dv⟩,bq⟩
     rintro⟨(Z:Wf),⟨gb,gg⟩,_⟩ _ ⟨b5,rfl,d7⟩;simp only at b5 d7|-;have fa:Z.Nodup:=b5.nodup_iff.2 ck;have dt:∀x,x∈Z↔x≠u/\0<=x/\x<(n:Int)/\(∀g,g<o.toNat->x.toNat≠ix P g)/\X0 l x.toNat c.toNat≠0:=λx=>by rw[b5.mem_iff];exact bp x
     have f9:Z.length<=n:=by
      rw[b5.length_eq];exact di
     refine⟨N6 n ((n:Int),(n:Int),D) o.toNat M P l Y u c Z,λq=>((Z.length:Int)-q.1).toNat,⟨qH _,qF _,ci,N,d7⟩,?_⟩;clear ci ck bp dj di b5;rintro⟨(X:Int),cz,⟨cy,en⟩,⟨c8,gh⟩,_⟩ _ ⟨c4,g4,hG,bm,ca⟩;simp only at c4 g4 hG bm ca|-;have am:=hG V cr bz;refine⟨λw=>?_,λw=>?_⟩
     . have w:=qA w;have f1:Z.getD X.toNat 0∈Z:=C1 ω;have cj:Z.getD X.toNat 0∉Z.take X.toNat:=λhh=>by
        obtain⟨g,O,ar⟩:=vG.1 hh;rw[qZ]at O;rw[g1w,H8 _ _ (ω:X.toNat<Z.length)]at ar;have:=(yC fa).1 ar;omega
       have e1:=Js (d:=(0:Int)) c4 w;rw[E5 c4 w]at e1;obtain⟨ae,B,be,e4,gz⟩:=(dt _).1 f1;generalize Z.getD X.toNat 0=i at*;have aa:i.toNat<n:=ω
       have df:((i.toNat:Nat):Int)=i:=ω
       have fj:cz.getD i.toNat []=l.getD i.toNat []:=am.ru _ aa (by rw[df];exact cj);have dq:cy.getD i.toNat []=Y.getD i.toNat []:=by rw[am.lo _ aa,qG (by rw[df];exact cj)]
       have ba:=a.lowLen aa;have gn:=a.two (i:=u.toNat) (j:=i.toNat) ω aa ω fu e4;have a6:=a.okRow b6 ω aa;have dy:=(a.can _ aa).2.2;have ad:0<=i/\i<(cz.length:Int):=⟨B,by rw[am.lrows];exact be⟩;have dh:0<=i/\i<(cy.length:Int):=⟨B,by rw[am.llow];exact be⟩;have eu:i.toNat∉en:=bm _ aa;rw[fj,dq];have et:X0 l i.toNat c.toNat=B6 (l.getD i.toNat []) c:=by unfold X0;rw[(ω:((c.toNat:Nat):Int)=c)]
       have gr:4*(V+V)+1<=K1:=ω
       have fe:qs (V+V+(V+V)) (B6 (l.getD i.toNat []) c/B6 t c):=AW (dy c) ct;have F:∀(af:QQ×Unit),Zk af.1/\True->af.1=rc (B6 (l.getD i.toNat []) c)->(F4 af.1/\F4 cv)/\∀(aw:QQ×Unit),Zk aw.1/\True->aw.1=rc (rv af.1*rv cv)->D1f (B6 (l.getD i.toNat []) c/B6 t c) (aw.1.1.1,aw.1.1.2,aw.1.2,()):=λaf _ h1=>by
        refine⟨⟨by rw[h1];exact I1 (G8 (dy c) b6) δ,by rw[au];exact I1 (G8 (C0v ct) b6) δ⟩,λaw _ cb=>?_⟩;rw[h1,au,C9,C9, <-tZ]at cb;exact cb
       refine⟨⟨c4,w⟩,D1f (B6 (l.getD i.toNat []) c/B6 t c),⟨ad,⟨a6,λaf ax h=>⟨F af ax h,F af ax h⟩⟩,a6,F⟩,?_⟩;rintro⟨(d9:Bool),(da:Wf),(db:Wf),_⟩ _ ch;have ch:((d9,da),db)=rc (B6 (l.getD i.toNat []) c/B6 t c):=ch;simp only;rw[ch];refine⟨λq=>q.1.1=cy.set i.toNat (Y.getD i.toNat []++ [(o,rc (B6 (l.getD i.toNat []) c/B6 t c))])/\pM n q.1.2,?_,?_⟩
       . have L1:((Y.getD i.toNat []).length+ [(o,rc (B6 (l.getD i.toNat []) c/B6 t c))].length)*64<=140737488355328/\(Y.getD i.toNat []).length+ [(o,rc (B6 (l.getD i.toNat []) c/B6 t c))].length<=9223372036854775807:=by
          have J:∀z:Nat,z<=n->(z+1)*64<=140737488355328/\z+1<=9223372036854775807:=λz J=>⟨ω,ω⟩
          exact J _ (qY ba ω)
         repeat' apply And.intro
         all_goals first
          |exact dh.1
          |exact dh.2
          |exact eu
          |exact L1.1
          |exact L1.2
          |exact rfl
          |exact bm
          |exact True.intro
       rintro⟨⟨h3,gl⟩,_⟩ _ ⟨dk,d8⟩;simp only at dk d8|-;have dx:qs K1 (B6 (l.getD i.toNat []) c/B6 t c):=G8 fe ω;refine⟨ad,I1 dx δ,?_⟩;rintro⟨(fp:B7),_⟩ _ bv;simp only at bv|-;rw[C9]at bv;refine⟨⟨a6,by rw[bv];exact Gf (bT dx),cq⟩,?_⟩;rintro⟨(nw:List D9),_⟩ _ a5;simp only at a5|-;have a5:XB (λj=>B6 (l.getD i.toNat []) j-B6 (l.getD i.toNat []) c/B6 t c*B6 t j) nw:=⟨a5.1,λj=>(a5.2 j).trans (by dsimp only;rw[bv,C9,Rat.neg_mul, <-tC])⟩;have bw:∀e∈nw,0<=e.1/\e.1<(n:Int):=λe a2=>qR λhh=>by
        refine(a5.1.2 e a2).1 ?_;rw[<-T4 a5.1.1 a2];refine(a5.2 e.1).trans ?_;dsimp only;rw[E7 (v:=l.getD i.toNat []) (i:=e.1) λy a8 cb=>hh (by rw[<-cb];exact(a.can _ aa).2.1 y a8),E7 (v:=t) (i:=e.1) λy a8 cb=>hh (by rw[<-cb];exact bc y a8),sH,tC,wM,rL]
       have gt:nw.length<=n:=by
        have:=Pj (n:=(n:Int)) (v:=nw) ⟨a5.1.1,λe a2=>⟨(bw e a2).1,(bw e a2).2,(a5.1.2 e a2).1⟩⟩;omega
       refine⟨ad,IL n M (inC c8) i t,λp=>((t.length:Int)-p.1).toNat,⟨qH _,qF _,am.lcols,ca,λj k=>⟨a.crange k,A0w ⟨(am.col j k).1,λx=>yA⟩⟩⟩,?_⟩;rintro⟨(c3:Int),⟨(d0:List T0),gd⟩,_⟩ _ A;simp only;have g0:=A.1;have g1:=A.2.1;simp only at g0 g1;refine⟨λf=>?_,λf=>?_⟩
       . have f:=qA f;rw[wv ω];obtain⟨r,s,a9⟩:=A.rng bc f;exact⟨r,s,a9,A.next bc f,ω⟩
       have f:=qB f;have dp:∀j:Int,j∈M->A0v (inC c8) i t j (d0.getD j.toNat []):=λj k=>by
        have cb:=(A.2.2.2.2 j k).2;simp only at cb;rwa[E4 (ω:(t.length:Int)<=c3)]at cb
       rw[show(cz.set i.toNat nw).getD i.toNat []=nw from A8 (by rw[am.lrows];exact aa)];refine⟨by rw[qM];exact ad,iR n M (λj x=>inC c8 j x/\¬(x=i/\∃e∈t,e.1=j)) i nw,λp=>((nw.length:Int)-p.1).toNat,⟨qH _,qF _,A.2.2.1,A.2.2.2.1,λj k=>⟨a.crange k,B7a ⟨(dp j k).1,(dp j k).2⟩⟩⟩,?_⟩;rintro⟨(ee:Int),⟨(d1:List T0),ge⟩,_⟩ _ G;simp only;have g2:=G.1;have g3:=G.2.1;simp only at g2 g3;refine⟨λf=>?_,λf=>?_⟩
       . have f:=qA f;rw[wv ω];obtain⟨r,s,a9⟩:=G.rng bw f;exact⟨r,s,a9,G.next bw f,ω⟩
       have f:=qB f;rw[wv ω];refine⟨⟨by simp only;omega,by simp only;omega,λW r s=>?_,d8,G.2.2.2.1⟩,ω⟩;have f8:=CI.next (ak W r s) ac I (hG W r s) B be ae e4 cj (q:=B6 (l.getD i.toNat []) c/B6 t c) (by rw[et,dw]) (nw:=nw) (by rw[cp];exact a5) (cols2:=d1) G.2.2.1 λj k=>by
        have cb:=(G.2.2.2.2 j k).2;simp only at cb;rw[E4 (ω:(nw.length:Int)<=ee)]at cb;rw[cp];exact cb
       simp only;rw[e1,dk, <-dq];rwa[(ω:((o.toNat:Nat):Int)=o)]at f8
     . have w:=qB w;rw[wv ω];refine⟨⟨by simp only;omega,by simp only;omega,λW r s=>?_,bm,ca⟩,ω⟩;have de:=hG W r s;rw[E4 ω]at de;have ew:=CI.doneT (ak W r s) r s ac I de dt ff fg;simp only;rw[(ω:(o+1).toNat=o.toNat+1),bj,bk,bl];rwa[(ω:((o.toNat:Nat):Int)=o)]at ew
 . have b9:=qB b9;have cl:o=(n:Int):=ω
   subst cl;simp only[qJ]at ak a;have bb:=a.lrows;have dn:=a.llow;have er:=a.lP;have fc:=a.places;refine⟨D4o n P place rows c2,λq=>((n:Int)-q.2.1).toNat,⟨rfl,qH _,qF _,rN,rN,rfl,λm H=> .inl (g2i λh=>b3 m h H),λg O=>by simp only at O;omega,λg O=>by simp only at O;omega⟩,?_⟩;rintro⟨ea,(j:Int),L,U,⟨Y,c9⟩,_⟩ _ ⟨rfl,ab,cw,ao,ap,rfl,cf,cc,cd⟩;change List (List D9)at L U;simp only at ab cw ao ap cf cc cd|-;refine⟨λk=>?_,λk=>?_⟩
   . have k:=qA k;have G:j.toNat<n:=ω
     have ep:P.getD j.toNat 0=(ix P j.toNat:Int):=a.P0 _ G;have bs:=a.elim.plt _ G;have ba:=a.lowLen bs;have f7:ix P j.toNat∉c9:=λH=>by
      rcases cf _ H with h| ⟨g,O,ar⟩
      . omega
      . have:=a.elim.pinj _ _ G (ω:g<n) ar;omega
     have a6:=a.okFin ω G (ω:V+V<=K1);rw[ep];simp only[qJ];have r:0<=j/\j<(P.length:Int):=⟨ab,k⟩;have s:0<=(ix P j.toNat:Int)/\(ix P j.toNat:Int)<(Y.length:Int):=⟨qF _,by rw[dn];exact vO.2 bs⟩;have a9:0<=j/\j<(L.length:Int):=⟨ab,by rw[ao];omega⟩;have J:∀z:Nat,z<=n->(z+1)*64<=140737488355328/\z+1<=9223372036854775807:=λz J=>⟨ω,ω⟩
     refine⟨r,λq=>q.1=L.set j.toNat (Y.getD (ix P j.toNat) []++ [(j,rc 1)])/\q.2.1.1=Y/\q.2.1.2=ix P j.toNat::c9,?_,?_⟩
     . repeat' first
        |exact f7
        |exact True.intro
        |exact r.1
        |exact r.2
        |exact s.1
        |exact s.2
        |exact a9.1
        |exact a9.2
        |exact rfl
        |exact(J _ (qY ba (qV _))).1
        |exact(J _ (qY ba (qV _))).2
        |apply And.intro
        | (rintro⟨u,_⟩ _ I
           have I:u=rc 1:=I.trans (Iz 1);subst I)
     rintro⟨L4,⟨h2,gk⟩,_⟩ _ ⟨ai,b4,aq⟩;simp only at ai b4 aq|-;refine⟨⟨s.1,by rw[bb];exact vO.2 bs⟩,⟨a6,by rw[a.lpl];omega⟩,?_⟩;rintro⟨(ax:List D9),h5,_⟩ _ du;simp only at du|-;have bx:=a.lpl;obtain⟨e3,_⟩:=du (by rw[bx];exact fc.1) λi f0=>by
      rw[bx];obtain⟨e,a2,rfl⟩:=DY f0;exact(a.can _ bs).2.1 e a2
     rw[bx]at e3;rw[wv ω];refine⟨⟨ab,by rw[ap];omega⟩,⟨rfl,by simp only;omega,by simp only;omega,by simp only;rw[ai,qM];exact ao,by simp only;rw[qM];exact ap,b4,λm H=>?_,λg O=>?_,λg O=>?_⟩,ω⟩
     . simp only at H|-;rw[aq]at H;rcases qS.1 H with h|h
       . exact .inr ⟨j.toNat,ω,h⟩
       . rcases cf m h with h| ⟨g,O,ar⟩
         . exact .inl h
         . exact .inr ⟨g,ω,ar⟩
     . simp only at O|-;rw[ai];by_cases b7:g=j.toNat
       . subst b7;rw[A8 (by rw[ao];exact G),(ω:((j.toNat:Nat):Int)=j)]
       . rw[D1 b7];exact cc g ω
     . simp only at O|-;by_cases b7:g=j.toNat
       . subst b7;rw[A8 (by rw[ap];exact G)];exact e3
       . rw[D1 b7];exact cd g ω
   . have k:=qB k;have G:j=(n:Int):=ω
     subst G;have bn:∀g,g<n->L.getD g []=Y.getD (ix P g) []++ [((g:Int),rc 1)]:=λg O=>cc g ω
     have bo:∀g,g<n->XB (λi=>if 0<=i/\i<(n:Int)then B6 (rows.getD (ix P g) []) ((List.idxOf i ea:Nat):Int)else 0) (U.getD g []):=λg O=>cd g ω
     have dd:=a.done ω ao ap bn bo;exact⟨λh=>absurd a7 h,λ_=>⟨λh=>absurd rfl h,λ_=>⟨λh=>absurd a.elim.nonsing h,λ_=>⟨dd.1,trivial,(a.cans ao ap bn bo).1,(a.cans ao ap bn bo).2,λW r s g b O=>(ak W r s).sizes (λg=>ω) bn bo O b,dd.2⟩⟩⟩⟩
def KQ:An:= {}
def Qb(x:D2j):Prop:=let e:=(4:Int);let d:=(1:Int);let c:=(0:Int);let b:=(↑x.1.1.length:Int);let a:=(x.1.1.length:Int);let f:Prop:=((x.2.1.length:Int)≠a);(c<=a/\a<=(16384:Int)/\Jv K1 x.1.2.2.1/\Jv K1 x.1.2.2.2)/\Lh λr=>(r.1=true↔Iu x.1 a)->(iB ((!r.1)) ((¬Iu x.1 b->d=d)/\(Iu x.1 b->(x.2.1.length≠x.1.1.length->d=e)/\(x.2.1.length=x.1.1.length->d=c))) ((iB (decide f) ((¬Iu x.1 b->e=d)/\(Iu x.1 b->(x.2.1.length≠x.1.1.length->e=e)/\(x.2.1.length=x.1.1.length->e=c))) ((¬Iu x.1 b->c=d)/\(Iu x.1 b->(x.2.1.length≠x.1.1.length->c=e)/\(x.2.1.length=x.1.1.length->c=c))))))
def BM:sx Aj Qb:=λx _ g=>by
 obtain⟨⟨P,Q,⟨i,lc,L⟩,⟨k,j,U⟩⟩,l,_⟩:=x;obtain⟨d,b,c⟩:=g;simp only[Qb,iB,Lh];refine⟨⟨qF _,Int.ofNat_le.2 d,b,c⟩,?_⟩;rintro⟨(r:Bool),_⟩ _ a;simp only at a|-;cases r with
 |false=>
  have f:¬Iu (P,Q,(i,lc,L),(k,j,U)) (P.length:Int):=λh=>by have:=a.2 h;cases this
  exact⟨λ_=>⟨λ_=>by trivial,λh=>absurd h f⟩,λh=>(by cases h)⟩
 |true=>
  have h:=a.1 rfl;refine⟨λh=>(by cases h),λ_=>⟨λhne=>⟨λh2=>absurd h h2,λ_=>⟨λ_=>by trivial,λhe=>absurd (sA Int.ofNat he) (qA hne)⟩⟩,λheq=>⟨λh2=>absurd h h2,λ_=>⟨λhne=>absurd (g4g (qR (qB heq))) hne,λ_=>by trivial⟩⟩⟩⟩
end Go.Proofs.YtknoakmaeleclaaGreat
namespace Go.Vc
open Go Go.RowKit Go.Gw Go.Shelf
open Go.IntKind (i64 u32)
structure El (t:Ty) (w:World) (Z:Nat->Prop) where
 c:List Value
 v:t.den
 h:C6 t w Z c v
def A1f {t:Ty} {w:World} {Z:Nat->Prop} :∀ {l:List t.den} {xs:List Value},G3 (C6 t w Z) xs l->∃L:List (El t w Z),L.flatMap El.c=xs/\L.map El.v=l
 | [],_,h=>⟨[],h.symm,rfl⟩
 |x::l,_,⟨c1,g,e,a,b⟩=>by
  obtain⟨L,d,f⟩:=A1f b;exact⟨⟨c1,x,a⟩::L,by rw[yT,d,e],by rw[sE,f]⟩
def A1g {t:Ty} {w w':World} {Z Z':Nat->Prop} (a:∀c x,C6 t w Z c x->C6 t w' Z' c x):∀L:List (El t w Z),G3 (C6 t w' Z') (L.flatMap El.c) (L.map El.v)
 | []=>rfl
 |p::L=>⟨p.c,L.flatMap El.c,rfl,a _ _ p.h,A1g a L⟩
def A1p {α:Type} {enc:α->List Value} {k:Nat} (a:∀x,(enc x).length=k):∀(L:List α) (i r:Nat) {x:α},L[i]? =some x->r<k->(L.flatMap enc)[i*k+r]? =(enc x)[r]?
 | [],_,_,_,h,_=>by cases h
 |y::L,0,r,x,h,b=>by
  simp only[List.getElem?_cons_zero,rF]at h;subst h;rw[yT,xX,sG,uJ (by rw[a];exact b)]
 |y::L,i+1,r,x,h,b=>by
  rw[uU]at h;have e:(i+1)*k+r-k=i*k+r:=by rw[uI];omega
  rw[yT,sZ (by rw[a,uI];omega),a,e];exact A1p a L i r h b
def A1q {α:Type} {enc:α->List Value} {k:Nat} (a:∀x,(enc x).length=k):∀L:List α,(L.flatMap enc).length=L.length*k
 | []=>by simp
 |x::L=>by rw[yT,rQ,A1q a L,a,rI,uI];omega
def A1o {α:Type} [Inhabited α] {enc:α->List Value} {k:Nat} (c:∀x,(enc x).length=k) (d:Array α) {j:Nat} (a:j<d.size*k):(d.toList.flatMap enc)[j]? =some (Go.Sort.flatK enc k d)[j]!:=by
 have f:0<k:=by
  rcases vR k with h|h
  . rw[h,wU]at a;omega
  . exact h
 have b:j/k<d.size:=(tX f).2 a;have g:j%k<k:=wL _ f;have e:j=j/k*k+j%k:=by rw[sF];exact(xA j k).symm
 rw[Go.Sort.get_flatK enc k d j a];have a:d.toList[j/k]? =some d[j/k]!:=by
  rw[wQ,uX b,g1l d _ b]
 have:=A1p c d.toList (j/k) (j%k) a g;rw[<-e]at this;have a:j%k<(enc d[j/k]!).length:=by rw[c];exact g
 rw[this,qL a,g1l (enc d[j/k]!) (j%k) a]
def B4j {F cur:Array Value} {n:Nat} {xs:List Value} (c:xs.length=n) (a:F.size=n) (b:n<=cur.size) (h:∀j,j<n->xs[j]? =some F[j]!):(Go.Sort.putCells id 0 F cur).size=cur.size/\(Go.Sort.putCells id 0 F cur).toList.take n=xs:=by
 refine⟨by simp[Go.Sort.putCells],?_⟩;apply wX;intro j;by_cases a:j<n
 . rw[rX a,h j a,wQ];unfold Go.Sort.putCells;rw[Array.getElem?_mapIdx,uX ω];simp only[wA];rw[qN ⟨rP _,ω⟩];rfl
 . rw[rT (by simp;omega),rT ω]
def C0p {α:Type} [Inhabited α] {d a:Array α} (h:Go.Sort.PermIn 0 d.size d a):a.toList.Perm d.toList:=by
 obtain⟨b,_,a⟩:=h;rw[g3k,g3k]at a;simpa[List.extract_eq_take_drop,qW,b]using a
def A8k {α:Type} [Inhabited α] {lt:α->α->Bool} {c:Array α} {n:Nat} (d:c.size=n) (h:Go.Sort.SortedIn lt 0 n c):c.toList.Pairwise λa b=>lt b a=false:=by
 rw[uK];intro i j d k g;have f:i<c.size:=by simpa using d
 have d:j<c.size:=by simpa using k
 have:=h i j (rP _) g ω;rw[g1l c i f,g1l c j d]at this;simpa using this
def C5z {w:World} {b m:Nat} {f:Array Value->Array Value} {a:Array Obj} :w.heap.size<=(Go.Sort.grow (Go.Sort.mapBlock (Go.Sort.ahead w m) b f) a).heap.size:=by
 simp[Go.Sort.grow,Go.Sort.mapBlock,Go.Sort.ahead]
def A4f {w:World} {b m j:Nat} {f:Array Value->Array Value} {d:Array Obj} (a:j<w.heap.size) (c:j≠b):(Go.Sort.grow (Go.Sort.mapBlock (Go.Sort.ahead w m) b f) d).heap[j]? =w.heap[j]?:=by
 rw[Go.Sort.heap_grow_old _ _ (by simpa[Go.Sort.mapBlock,Go.Sort.ahead]using a)];unfold Go.Sort.mapBlock;simp only;rw[g3f,qG (Ne.symm c)];rfl
def C5y {w:World} {b m:Nat} {f:Array Value->Array Value} {c:Array Obj} {cur:Array Value} {e:TypeId} (a:w.heap[b]? =some (.cells cur e (0,0))):(Go.Sort.grow (Go.Sort.mapBlock (Go.Sort.ahead w m) b f) c).heap[b]? =some (.cells (f cur) e (0,0)):=by
 have c:b<w.heap.size:=(rV.1 a).1;rw[Go.Sort.heap_grow_old _ _ (by simpa[Go.Sort.mapBlock,Go.Sort.ahead]using c)];unfold Go.Sort.mapBlock;simp only;rw[g3f,qN rfl];have:(Go.Sort.ahead w m).heap[b]? =some (.cells cur e (0,0)):=a;rw[this];rfl
def enters_run {P:Program} {f:FuncId} (a:enters P f=true) (args:Array Value) (w:World):(callFunc f args).run P w= .ok (.enter f args) w:=by
 unfold enters at a;split at a
 . rename_i fn d;simp only[qC,rO]at a;have c:¬fn.body=none:=by intro hb;rw[hb]at a;simp at a
   have b:¬fn.name= "runtime.NumGoroutine" :=by simpa using a.1
   simp[callFunc,d,b,c,go_sem]
 . cases a
def C6a {α d:Type} {φ:α->α->Int} (v:d->α) (f:∀a,¬φ a a<0) (g:∀a b c,φ a b<0->φ b c<0->φ a c<0) (i:∀a b c,¬φ a b<0->¬φ b c<0->¬φ a c<0):
 Go.Sort.SWO (Go.Proofs.ltOf λx y:d=>φ (v x) (v y)):=by
 refine⟨λx=>?_,λx y z h d=>?_,λx y z h d=>?_⟩
 . exact rC (f _)
 . exact rE (g _ _ _ (qA h) (qA d))
 . exact rC (i _ _ _ (qB h) (qB d))
def B4y {t:Ty} {φ:t.den->t.den->Int} {e:TypeId} {w w':World} {Z:Nat->Prop} {fv:Value} {g c:Nat} {cur F:Array Value} {k:Nat} {x:List t.den} {L L':List (El t w Z)}
 (E:∀b,Z b->b<w.heap.size) (I:¬Z g) (i:t.size=k)
 (a0:w.heap[g]? =some (.cells cur e (0,0))) (n:L.length<=c) (N:c<=maxLen) (s:cur.size=c*k) (D:L.map El.v=x)
 (u:L'.Perm L) (Q:L'.Pairwise λa b=>¬φ b.v a.v<0)
 (A:F.size=L.length*k) (B:∀j,j<L.length*k->(L'.flatMap El.c)[j]? =some F[j]!)
 (O:w'.os=w.os) (U:w'.tape=w.tape) (P:w'.output=w.output) (T:w.heap.size<=w'.heap.size)
 (l:∀j,j<w.heap.size->j≠g->w'.heap[j]? =w.heap[j]?) (H:w'.heap[g]? =some (.cells (Go.Sort.putCells id 0 F cur) e (0,0))):
 Ip (A2v w (Cr t e φ).args [.slice (some ⟨g,0,none⟩) L.length c,fv]) w w'/\∃(r:Cf (Cr t e φ).res) (o:Pb (Cr t e φ).args) (us:List Value) (Zn:Nat->Prop),(Cr t e φ).post (x,()) r/\(Q6 (Cr t e φ).args=true->(Cr t e φ).mpost (x,()) r o)/\Value.tuple #[]=BL us/\(∀b,Zn b->(w.heap.size<=b/\b<w'.heap.size)\/((Cr t e φ).shared=true/\Z b))/\Ph w.heap.size w' Zn (Cr t e φ).res us r/\Yc w w' Zn (Cr t e φ).args [.slice (some ⟨g,0,none⟩) L.length c,fv] o:=by
 have f:L'.length=L.length:=u.length_eq;have G:∀p:El t w Z,p.c.length=k:=λp=>by rw[<-i];exact C6.length p.h
 have y:(L'.flatMap El.c).length=L.length*k:=by rw[A1q G,f]
 obtain⟨W,X⟩:=B4j y A (by rw[s];exact rD _ n) B;have R:N9 Z w w':=λb d=>l b (E b d) (λe=>I (e▸d))
 refine⟨⟨O,U,P,T,λj J M=>l j J (λz=>M ?_),trivial⟩,(),(L'.map El.v,()),[],Z,trivial,λ_=>⟨?_,?_⟩,rfl,λb d=> .inr ⟨rfl,d⟩,rfl,?_⟩
 . subst z;refine⟨(.row t e, .slice (some ⟨j,0,none⟩) L.length c),rH,?_⟩;rfl
 . rw[<-D];exact u.map _
 . exact xV.2 Q
 . refine⟨⟨L'.flatMap El.c,⟨?_, .inr ⟨g,c,Go.Sort.putCells id 0 F cur,?_,rP _,H,?_,N,?_,?_⟩⟩,?_⟩,trivial⟩
   . simp only[tJ];rw[y,f,i]
   . simp only[tJ,f]
   . simp only[tJ,f];exact n
   . rw[W,s,i]
   . simp only[tJ,f,i];exact X
   . refine A1g (λY a1 V=>?_) L';exact C6.mono (λb d=>d) R V
def C6o (P:Program) (g:FuncId) (t:Ty) (φ:t.den->t.den->Int):Prop:=
 ∀(w:World) (Z:Nat->Prop) (c1 a:List Value) (x y:t.den),C6 t w Z c1 x->C6 t w Z a y->Calls P g #[.agg c1.toArray, .agg a.toArray] w λe b=>e= .returned (.int .i64 (φ x y))/\∃q a,b=Go.Sort.grow (w.drewN q) a
def C1k {P:Program} {ρ:Ren} (LL:Go.Proofs.SlLaysF0.n6 P ρ) {t:Ty} {e:TypeId} {g:FuncId} {φ:t.den->t.den->Int} (R:∀w,(isAgg (ρ.t 24)).run P w= .ok true w) (ah:∀w,(Go.sizeOf (ρ.t 24)).run P w= .ok t.size w)
 (U:∀a,¬φ a a<0) (V:∀a b c,φ a b<0->φ b c<0->φ a c<0) (W:∀a b c,¬φ a b<0->¬φ b c<0->¬φ a c<0) (a6:enters P g=true) (a3:C6o P g t φ):A9f P (ρ.f 6) g t e φ:=by
 rintro w Z am aj D ⟨an,M,a5,a0⟩ a8;obtain⟨L,rfl,rfl⟩:=A1f a5;have Y:(L.map El.v).length=L.length:=tJ ..;rw[Y]at M a8;obtain⟨ai,af⟩:=M;have z:∀(p:Option Addr) (d:Nat),L= []->Gw.Ret P (ρ.f 6) [.slice p 0 d, .func (.func g) #[] #[]] w λu Q=>u= .tuple #[]/\Q=w:=λp d _=>
  Calls.mono (Go.Proofs.AnyF.slices_SortFunc_none LL p d (.func (.func g) #[] #[]) w) λ_ _ ⟨N,hw⟩=>⟨_,N,rfl,hw⟩
 rcases af with⟨rfl,a9⟩ | ⟨b,d,cur,rfl,_,h,G,J,H,ae⟩
 . have n:L= []:=qT a9;subst n;refine(z none 0 rfl).mono ?_;rintro _ _ ⟨rfl,rfl⟩;refine⟨Ip.of (R8.refl _),(),([],()),[],(λ_=>False),trivial,λ_=>⟨wV _,List.Pairwise.nil⟩,rfl,λ_ s=>s.elim,rfl,⟨⟨[],World.ownsRow_nil _ _ _ _,rfl⟩,trivial⟩⟩
 . have E:¬Z b:=a0 b rfl;have v:∀p:El t w Z,p.c.length=t.size:=λp=>C6.length p.h
   have a1:b<w.heap.size:=(rV.1 h).1;rcases n:L with _ | ⟨ag,L0⟩
   . subst n;refine(z _ d rfl).mono ?_;rintro _ _ ⟨rfl,rfl⟩;refine⟨Ip.of (R8.refl _),(),([],()),[],(λ_=>False),trivial,λ_=>⟨wV _,List.Pairwise.nil⟩,rfl,λ_ s=>s.elim,rfl,⟨⟨[],⟨by simp, .inr ⟨b,d,cur,rfl,rP _,h,G,J,H,by simp⟩⟩,rfl⟩,trivial⟩⟩
   . rw[<-n];clear z
     haveI:Inhabited (El t w Z):=⟨ag⟩
     have X:Go.Sort.HoldsK El.c t.size w b 0 L.toArray:=by
      intro r j;rw[Go.Sort.size_flatK]at j;have a7:r<L.length*t.size:=by simpa using j
      have N:=A1o v L.toArray j;rw[sG];refine⟨?_,?_⟩
      . have T:cur[r]? =some (Go.Sort.flatK El.c t.size L.toArray)[r]!:=by
         rw[<-N];simp only;rw[<-ae,rX a7,wQ]
        simp only[World.cell?,h];exact T
      . simp[World.frozen?,h]
     have a4:Go.Proofs.CmpLays P g #[] El.c t.size (λx y:El t w Z=>φ x.v y.v) b 0 L.toArray.size w:=by
      intro m O T a7 x y;have N:N9 Z w (Go.Proofs.sortWorldK El.c t.size w b 0 m T O):=by
       intro B o;have:B≠b:=λe=>E (e▸o)
       exact A4f (D B o) this
      exact a3 _ Z x.c y.c x.v y.v (C6.mono (λ_ i=>i) N x.h) (C6.mono (λ_ i=>i) N y.h)
     have a2:=Go.Proofs.AnyQ.slices_SortFunc LL t.size R ah El.c v (λx=>C6.oneCell x.h) (λx y:El t w Z=>φ x.v y.v) (C6a El.v U V W) g #[] b 0 d L.toArray w (enters_run a6) a4 X a1 (by simp;omega);refine Calls.mono a2 ?_;rintro _ Q ⟨rfl,l,ak,O,A,ad,rfl⟩;refine⟨_,rfl,?_⟩;have ab:=C0p A;have ac:=A8k A.1 ad;have I:l.size=L.length:=by rw[A.1];simp
     refine B4y (k:=t.size) (F:=Go.Sort.flatK El.c t.size l) (L:=L) (L':=l.toList) (cur:=cur) (x:=L.map El.v) D E rfl h G J H rfl ab ?_ ?_ ?_ rfl rfl rfl ?_ ?_ ?_
     . exact ac.imp λi=>qB i
     . rw[Go.Sort.size_flatK,I]
     . intro r j;exact A1o v l (by rw[I];exact j)
     . exact C5z
     . intro B o aa;exact A4f o aa
     . exact C5y h
end Go.Vc
namespace Go.Proofs
open Go.Proofs.Tryz
open Go.Shelf
open Go.IntKind (i64 u32)
def Tryz.sortEnt_ren:Go.Shelf.Ren:=⟨fun|6=>175|15=>215|14=>223|28=>253|29=>254|20=>257|21=>258|22=>259|23=>260|24=>261|25=>262|26=>263|27=>264|46=>282|47=>277|48=>278|49=>283|50=>284|57=>290|n=>n,fun|22=>88|24=>133|25=>186|3=>3|39=>216|0=>0|53=>131|55=>107|4=>4|46=>242|45=>241|50=>174|5=>5|9=>9|66=>263|70=>267|76=>274|77=>275|n=>n,fun|n=>n⟩
def Tryz.sortEnt:Go.Proofs.SlLaysF0.n6 prog sortEnt_ren:= {
 mixed:=by kernel_rfl
 f6:=⟨f175.name,δ,func175.trans (sA some (by kernel_rfl))⟩
 f14:=⟨f223.name,δ,func223.trans (sA some (by kernel_rfl))⟩
 f15:=func215.trans (sA some (by kernel_rfl))
 f20:=⟨f257.name,δ,func257.trans (sA some (by kernel_rfl))⟩
 f21:=⟨f258.name,δ,func258.trans (sA some (by kernel_rfl))⟩
 f22:=⟨f259.name,δ,func259.trans (sA some (by kernel_rfl))⟩
 f23:=⟨f260.name,δ,func260.trans (sA some (by kernel_rfl))⟩
 f24:=⟨f261.name,δ,func261.trans (sA some (by kernel_rfl))⟩
 f25:=⟨f262.name,δ,func262.trans (sA some (by kernel_rfl))⟩
 f26:=⟨f263.name,δ,func263.trans (sA some (by kernel_rfl))⟩
 f27:=⟨f264.name,δ,func264.trans (sA some (by kernel_rfl))⟩
 f28:=func253.trans (sA some (by kernel_rfl))
 f29:=func254.trans (sA some (by kernel_rfl))
 f46:=⟨f282.name,δ,func282.trans (sA some (by kernel_rfl))⟩
 f47:=func277.trans (sA some (by kernel_rfl))
 f48:=func278.trans (sA some (by kernel_rfl))
 f49:=⟨f283.name,δ,func283.trans (sA some (by kernel_rfl))⟩
 f50:=⟨f284.name,δ,func284.trans (sA some (by kernel_rfl))⟩
 f57:=⟨f290.name,δ,func290.trans (sA some (by kernel_rfl))⟩
 t0:=underlying0
 a0:=isAgg0
 z0:=sizeOf0
 v0:=zeroValue0
 t3:=underlying3
 a3:=isAgg3
 z3:=sizeOf3
 v3:=zeroValue3
 t4:=underlying4
 a4:=isAgg4
 z4:=sizeOf4
 v4:=zeroValue4
 t5:=underlying5
 a5:=isAgg5
 z5:=sizeOf5
 v5:=zeroValue5
 t9:=underlying9
 a9:=isAgg9
 z9:=sizeOf9
 v9:=zeroValue9
 t22:=underlying88
 a22:=isAgg88
 z22:=sizeOf88
 v22:=zeroValue88
 t25:=underlying186
 a25:=isAgg186
 z25:=sizeOf186
 v25:=zeroValue186
 t39:=underlying216
 a39:=isAgg216
 z39:=sizeOf216
 v39:=zeroValue216
 t45:=underlying241
 a45:=isAgg241
 z45:=sizeOf241
 v45:=zeroValue241
 t46:=underlying242
 a46:=isAgg242
 z46:=sizeOf242
 v46:=zeroValue242
 t50:=underlying174
 a50:=isAgg174
 z50:=sizeOf174
 v50:=zeroValue174
 t53:=underlying131
 a53:=isAgg131
 z53:=sizeOf131
 v53:=zeroValue131
 t55:=underlying107
 a55:=isAgg107
 z55:=sizeOf107
 v55:=zeroValue107
 t66:=underlying263
 a66:=isAgg263
 z66:=sizeOf263
 v66:=zeroValue263
 t70:=underlying267
 a70:=isAgg267
 z70:=sizeOf267
 v70:=zeroValue267
 t76:=underlying274
 a76:=isAgg274
 z76:=sizeOf274
 v76:=zeroValue274
 t77:=underlying275
 a77:=isAgg275
 z77:=sizeOf275
 v77:=zeroValue275}
def Tryz.sortedInt_ren:Go.Shelf.Ren:=⟨fun|6=>84|8=>152|9=>153|11=>213|13=>215|12=>214|23=>253|24=>254|14=>244|15=>245|16=>246|17=>247|18=>248|19=>249|20=>250|21=>251|22=>252|25=>276|26=>277|27=>278|28=>279|29=>280|30=>224|31=>288|n=>n,fun|26=>3|28=>114|24=>25|0=>0|3=>3|37=>216|48=>131|50=>107|4=>4|40=>242|39=>241|45=>174|5=>5|9=>9|51=>263|55=>267|57=>274|58=>275|33=>171|n=>n,fun|n=>n⟩
def Tryz.sortedInt:Go.Proofs.SlLaysZI.n6 prog sortedInt_ren:= {
 mixed:=by kernel_rfl
 f6:=⟨f84.name,δ,func84.trans (sA some (by kernel_rfl))⟩
 f8:=⟨f152.name,δ,func152.trans (sA some (by kernel_rfl))⟩
 f11:=⟨f213.name,δ,func213.trans (sA some (by kernel_rfl))⟩
 t0:=underlying0
 a0:=isAgg0
 z0:=sizeOf0
 v0:=zeroValue0
 t24:=underlying25
 a24:=isAgg25
 z24:=sizeOf25
 v24:=zeroValue25
 t26:=underlying3
 a26:=isAgg3
 z26:=sizeOf3
 v26:=zeroValue3
 t28:=underlying114
 a28:=isAgg114
 z28:=sizeOf114
 v28:=zeroValue114
 i26:=by kernel_rfl}
def Tryz.sortInt_ren:Go.Shelf.Ren:=⟨fun|5=>153|8=>215|7=>214|19=>253|20=>254|10=>244|11=>245|12=>246|13=>247|14=>248|15=>249|16=>250|17=>251|18=>252|30=>276|31=>277|32=>278|33=>279|34=>280|35=>224|40=>288|n=>n,fun|23=>25|25=>3|3=>3|32=>216|22=>25|0=>0|44=>131|46=>107|4=>4|36=>242|35=>241|41=>174|5=>5|9=>9|53=>263|57=>267|63=>274|64=>275|n=>n,fun|n=>n⟩
def Tryz.sortInt:Go.Proofs.SlLaysM.n5 prog sortInt_ren:= {
 mixed:=by kernel_rfl
 f5:=⟨f153.name,δ,func153.trans (sA some (by kernel_rfl))⟩
 f7:=⟨f214.name,δ,func214.trans (sA some (by kernel_rfl))⟩
 f8:=func215.trans (sA some (by kernel_rfl))
 f10:=⟨f244.name,δ,func244.trans (sA some (by kernel_rfl))⟩
 f11:=⟨f245.name,δ,func245.trans (sA some (by kernel_rfl))⟩
 f12:=⟨f246.name,δ,func246.trans (sA some (by kernel_rfl))⟩
 f13:=⟨f247.name,δ,func247.trans (sA some (by kernel_rfl))⟩
 f14:=⟨f248.name,δ,func248.trans (sA some (by kernel_rfl))⟩
 f15:=⟨f249.name,δ,func249.trans (sA some (by kernel_rfl))⟩
 f16:=⟨f250.name,δ,func250.trans (sA some (by kernel_rfl))⟩
 f17:=⟨f251.name,δ,func251.trans (sA some (by kernel_rfl))⟩
 f18:=⟨f252.name,δ,func252.trans (sA some (by kernel_rfl))⟩
 f19:=func253.trans (sA some (by kernel_rfl))
 f20:=func254.trans (sA some (by kernel_rfl))
 f30:=⟨f276.name,δ,func276.trans (sA some (by kernel_rfl))⟩
 f31:=func277.trans (sA some (by kernel_rfl))
 f32:=func278.trans (sA some (by kernel_rfl))
 f33:=⟨f279.name,δ,func279.trans (sA some (by kernel_rfl))⟩
 f34:=⟨f280.name,δ,func280.trans (sA some (by kernel_rfl))⟩
 f35:=⟨f224.name,δ,func224.trans (sA some (by kernel_rfl))⟩
 f40:=⟨f288.name,δ,func288.trans (sA some (by kernel_rfl))⟩
 t0:=underlying0
 a0:=isAgg0
 z0:=sizeOf0
 v0:=zeroValue0
 t3:=underlying3
 a3:=isAgg3
 z3:=sizeOf3
 v3:=zeroValue3
 t4:=underlying4
 a4:=isAgg4
 z4:=sizeOf4
 v4:=zeroValue4
 t5:=underlying5
 a5:=isAgg5
 z5:=sizeOf5
 v5:=zeroValue5
 t9:=underlying9
 a9:=isAgg9
 z9:=sizeOf9
 v9:=zeroValue9
 t22:=underlying25
 a22:=isAgg25
 z22:=sizeOf25
 v22:=zeroValue25
 t23:=underlying25
 a23:=isAgg25
 z23:=sizeOf25
 v23:=zeroValue25
 t25:=underlying3
 a25:=isAgg3
 z25:=sizeOf3
 v25:=zeroValue3
 t32:=underlying216
 a32:=isAgg216
 z32:=sizeOf216
 v32:=zeroValue216
 t35:=underlying241
 a35:=isAgg241
 z35:=sizeOf241
 v35:=zeroValue241
 t36:=underlying242
 a36:=isAgg242
 z36:=sizeOf242
 v36:=zeroValue242
 t41:=underlying174
 a41:=isAgg174
 z41:=sizeOf174
 v41:=zeroValue174
 t44:=underlying131
 a44:=isAgg131
 z44:=sizeOf131
 v44:=zeroValue131
 t46:=underlying107
 a46:=isAgg107
 z46:=sizeOf107
 v46:=zeroValue107
 t53:=underlying263
 a53:=isAgg263
 z53:=sizeOf263
 v53:=zeroValue263
 t57:=underlying267
 a57:=isAgg267
 z57:=sizeOf267
 v57:=zeroValue267
 t63:=underlying274
 a63:=isAgg274
 z63:=sizeOf274
 v63:=zeroValue274
 t64:=underlying275
 a64:=isAgg275
 z64:=sizeOf275
 v64:=zeroValue275}
def Tryz.cmpInt_ren:Go.Shelf.Ren:=⟨fun|5=>177|7=>224|n=>n,fun|22=>3|3=>3|4=>4|n=>n,fun|n=>n⟩
def Tryz.cmpInt:Go.Proofs.SlLaysC2.n5 prog cmpInt_ren:= {
 mixed:=by kernel_rfl
 f5:=⟨f177.name,δ,func177.trans (sA some (by kernel_rfl))⟩
 f7:=⟨f224.name,δ,func224.trans (sA some (by kernel_rfl))⟩
 t3:=underlying3
 a3:=isAgg3
 z3:=sizeOf3
 v3:=zeroValue3
 t4:=underlying4
 a4:=isAgg4
 z4:=sizeOf4
 v4:=zeroValue4
 t22:=underlying3
 a22:=isAgg3
 z22:=sizeOf3
 v22:=zeroValue3}
end Go.Proofs
namespace Go.Proofs.YtknoakmaeleclaaGreat
open Go.Proofs.Tryz
open Go.Vc Go.Gw Go.Lib Go.Shelf
open Go.IntKind (i64 u32)
def pW (w:World) (o:Obj):w.alloc o= {w with heap:=w.heap.push o} :=rfl
def C8c (a b:Int):Lib.compareInt a b=P6 a b:=by
 unfold Lib.compareInt P6
 (repeat' split)<;>first|rfl|omega
def B2p (a b:Int) (c d:List Value) (w:World):Calls prog 221 #[.agg (.int .i64 a::c).toArray, .agg (.int .i64 b::d).toArray] w λe w'=>e= .returned (.int .i64 (Lib.compareInt a b))/\∃q h,w'=Go.Sort.grow (w.drewN q) h:=by
 have i:∀args w,(callFunc 177 args).run prog w= .ok (.enter 177 args) w:=Go.Vc.enters_run (by kernel_rfl);have f:=fun(w:World)=>AnyG.cmp_Compare_int cmpInt a b w
 go_enter func221,ntmps221
 go_wp2_with (go_at_fn (177);refine(f _).mono ?_;rintro e w' ⟨rfl,g⟩;rw[g])
 go_ret
 refine⟨rfl,0, #[.cells (Value.int .i64 a::c).toArray 133, .cells (Value.int .i64 b::d).toArray 133],?_⟩;rw[pW,pW];simp[Go.Sort.grow,World.drewN];apply g0o.1;simp
def C3k:C6o prog 221 tE (λa b:D9=>P6 a.1 b.1):=by
 rintro w Z c1 f x y ⟨g,c,rfl,⟨rfl,_⟩,_⟩ ⟨h,d,rfl,⟨rfl,_⟩,_⟩;have:=B2p x.1 y.1 c d w;rw[C8c]at this;exact this
def C1j:XS prog 175 (B1s 221 tE 133 (λa b=>P6 a.1 b.1)):=by
 refine A8j (tys:= []) (C1k (ρ:=sortEnt_ren) sortEnt (t:=tE) (e:=133) (g:=221) (φ:=λa b:D9=>P6 a.1 b.1) isAgg133 sizeOf133 (λa=>?_) (λa b c=>?_) (λa b c=>?_) (by kernel_rfl) C3k);all_goals (simp only[P6];(repeat' split)<;>omega)
end Go.Proofs.YtknoakmaeleclaaGreat
namespace Go.Proofs
open Go.Proofs.Tryz
open Go Go.RowKit Go.Maps Go.Sort Go.Shelf
open Go.IntKind (i64 u32)
variable {P:Program} {ρ:Ren}
def kT (F:Fence) (n:Nat) (P:Program) (g:Nat) (b:Array Value) (zs:List Int) (w:World):Prop:=
 ∀(l:Nat) (J:List Int->World->Prop) (W:World),Below w.heap.size w W->AbidesFrom W.heap.size J->(∀a W',J a W'->Below w.heap.size w W')->
  (∀a x W1,J a W1->a.length<zs.length->YieldAt F (n-1) P l #[encZ x] W1 λe W'=>e= .returned (.bool true)/\J (a++ [x]) W'/\KeepsWalks W1 W')->J [] W->
  CallsIn F n P g (#[.func (.yield l) #[] #[]]++b) W λe W'=>(∃v,e= .returned v)/\J zs W'
set_option maxRecDepth 100000 in
set_option maxHeartbeats 2000000 in
def C3e (L:SlLaysZI.n11 P ρ) (F:Fence) (n:Nat) (H:F.fn (ρ.f 11)) (z:F.round=none) (ab:2<=n) (g:Nat) (a:Array Value) (I:F.fn g) (E:∀args w,(callFunc g args).run P w= .ok (.enter g args) w)
 (zs:List Int) (N:zs.length<=maxLen) (O:zs.length*8<=140737488355328) (w:World) (X:kT F (n-1) P g a zs w):
 CallsIn F n P (ρ.f 11) #[.slice none 0 0, .func (.func g) #[] a] w λe w'=>∃v:Value,e= .returned v/\w'.ownsRow w.heap.size (ρ.t 26) 1 v zs.length (zs.map encZ)/\(v= .slice none 0 0↔zs= [])/\Below w.heap.size w w':=by
 have G:1<=n:=ω
 have ac:=L.mixed;have ad:=L.t0;have a4:=L.a0;have ap:=L.z0;have a2:=L.v0;have ae:=L.t24;have a5:=L.a24;have aq:=L.z24;have am:=L.v24;have af:=L.t26;have a6:=L.a26;have ar:=L.z26;have an:=L.v26;have ag:=L.t28;have a7:=L.a28;have au:=L.z28;have ao:=L.v28;have y:ρ.t 24≠ρ.t 26:=λe=>by have h:=L.t24;rw[e,L.t26]at h;cases h
 have ah:=run_underlying L.t0;have ai:=run_underlying L.t24;have aj:=run_underlying L.t26;have ak:=run_underlying L.t28;obtain⟨_,_,FG⟩:=L.f11;refine callsIn_of_wp_marks FG rfl H ?_ z;simp only[SlBodyZ.n11_ntmps ρ,wK,rI,vT,Nat.reduceAdd,Nat.reduceSub,yX,yY,g0k,zH,vJ,wE]
 gi_wp2
 refine wpIn_rangeFunc ?_;intro fn Q;rw[z];obtain⟨W0,i⟩:∃W0,w.alloc (.cells #[.slice none 0 0] (ρ.t 24))=W0:=⟨_,rfl⟩;have V:W0.heap.size=w.heap.size+1:=by rw[<-i];simp
 have Z:W0.heap[w.heap.size]? =some (.cells #[.slice none 0 0] (ρ.t 24) (0,0)):=by rw[<-i];exact World.alloc_heap_new w _
 have j:Below w.heap.size w W0:=by rw[<-i];exact(Below.refl _ w).alloc (qV _) _
 rw[i];obtain⟨W1,c⟩:∃W1,(W0.alloc (.deferred (some []))).alloc (.loop (AnyZI.apRec ρ fn (.func (.func g) #[] a) w.heap.size W0.heap.size .ready none))=W1:=⟨_,rfl⟩;have U:∀k,k<W0.heap.size->W1.heap[k]? =W0.heap[k]?:=λk hk=>by
  rw[<-c];exact(Below.heap_alloc _ _ k (by simp;omega)).trans (Below.heap_alloc _ _ k hk)
 have l:Below w.heap.size w W1:=by rw[<-c];exact(j.alloc j.size _).alloc (by have:=j.size;simp;omega) _
 have M:AnyZI.ApAt ρ w fn (.func (.func g) #[] a) w.heap.size (W0.heap.size+1) W0.heap.size [] W1:=
  ⟨⟨_,(U w.heap.size ω).trans Z,⟨rfl, .inl ⟨rfl,rfl⟩⟩,by simp⟩,
   by rw[<-c];have:=World.alloc_heap_new (W0.alloc (.deferred (some []))) (.loop (AnyZI.apRec ρ fn (.func (.func g) #[] a) w.heap.size W0.heap.size .ready none));rwa[World.size_alloc]at this,
   by rw[<-c];exact(Below.heap_alloc _ _ _ (by simp)).trans (World.alloc_heap_new W0 _),l⟩
 refine⟨W0.heap.size+1,[{target:= .collected W0.heap.size,args:= #[]}],W1,{target:= .fn (.func g) a,args:= #[.func (.yield (W0.heap.size+1)) #[] #[]]},W1,g,
  #[.func (.yield (W0.heap.size+1)) #[] #[]]++a,W1,?_,?_,?_,?_,λ_=>G,?_⟩
 . rw[<-c];exact run_enterLoop_outer _ _ _ _ _
 . simp[resolve,go_sem]
 . intro a8 u;simp[Target.leads]at u;subst u;exact I
 . simp[invoke,go_sem,E]
 . refine(X (W0.heap.size+1) (AnyZI.ApAt ρ w fn (.func (.func g) #[] a) w.heap.size (W0.heap.size+1) W0.heap.size) W1 l (AnyZI.ap_abides ρ _ _ _ _ _ _ _ l.size) (λ_ _ h=>h.below)
    (λa1 a3 W J R=>AnyZI.apYield {L with} F (n-1-1) w fn Q _ w.heap.size (W0.heap.size+1) W0.heap.size ω ω ω (qV _) ω zs.length N O a1 a3 W J R) M).mono ?_
   rintro e W2 ⟨⟨a2,rfl⟩,b⟩;obtain⟨v,Y,A,T⟩:=b.box;have s:=run_endLoop (P:=P) b.L (by simp[AnyZI.apRec]);obtain⟨W3,d⟩:∃W3,W2.putObj (W0.heap.size+1) (.loop {AnyZI.apRec ρ fn (.func (.func g) #[] a) w.heap.size W0.heap.size .ready none with state:= .exhausted})=W3:=⟨_,rfl⟩;rw[d]at s;have x:W2.grownBy W3 (some (W0.heap.size+1)):=by rw[<-d];exact grownBy_putObj_a _ _ _
   have a0:W3.heap[w.heap.size]? =some (.cells #[v] (ρ.t 24) (0,0)):=by rw[<-d];exact(World.putObj_heap_other ω).trans Y
   have o:W3.heap[W0.heap.size]? =some (.deferred (some [])):=by rw[<-d];exact(World.putObj_heap_other ω).trans b.K
   have B:=A.kept x (ownsRow_ne_a A b.L (λD e=>by first|cases e|exact y (Obj.cells.inj e).2.1));have r:Below w.heap.size w W3:=b.below.grown x b.below.size (λk e=>by cases e;omega);obtain⟨a9,aa⟩:=cell_of_box_a a0;clear d;refine⟨none,W3,s,?_⟩
   gi_wp2
   rw[<-V];refine⟨by simp, .inl ⟨_,_,rfl,run_takeDeferred o,?_⟩⟩;exact⟨_,results_tmp rfl _ _ _,v,rfl,B.kept (grownBy_putObj_a _ _ _) (ownsRow_ne_a B o (λD e=>by first|cases e|exact y (Obj.cells.inj e).2.1)),T,r.grown (grownBy_putObj_a _ _ _) r.size (λk e=>by cases e;omega)⟩
set_option maxHeartbeats 1000000 in
def B7f (L:SlLaysZI.n8 P ρ) (F:Fence) (n:Nat) (h:F.fn (ρ.f 8)) (d:F.fn (ρ.f 11)) (b:F.round=none) (D:3<=n) (g:Nat) (a:Array Value) (i:F.fn g) (c:∀args w,(callFunc g args).run P w= .ok (.enter g args) w)
 (zs:List Int) (j:zs.length<=maxLen) (k:zs.length*8<=140737488355328) (w:World) (s:kT F (n-1-1) P g a zs w):
 CallsIn F n P (ρ.f 8) #[.func (.func g) #[] a] w λe w'=>∃v:Value,e= .returned v/\w'.ownsRow w.heap.size (ρ.t 26) 1 v zs.length (zs.map encZ)/\(v= .slice none 0 0↔zs= [])/\Below w.heap.size w w':=by
 have B:1<=n:=ω
 have A:∀args w,(callFunc (ρ.f 11) args).run P w= .ok (.enter (ρ.f 11) args) w:=L.f11.enters rfl;have E:=L.mixed;have G:=L.t0;have u:=L.a0;have W:=L.z0;have R:=L.v0;have H:=L.t24;have x:=L.a24;have X:=L.z24;have T:=L.v24;have I:=L.t26;have y:=L.a26;have Y:=L.z26;have U:=L.v26;have J:=L.t28;have z:=L.a28;have Z:=L.z28;have V:=L.v28;have M:=run_underlying L.t0;have N:=run_underlying L.t24;have O:=run_underlying L.t26;have Q:=run_underlying L.t28;obtain⟨_,_,FG⟩:=L.f8;refine callsIn_of_wp FG rfl h ?_ b;simp only[SlBodyZ.n8_ntmps ρ,wK,rI,vT,Nat.reduceAdd,Nat.reduceSub,yX,yY,g0k,zH,vJ,wE]
 gi_wp2_with (gi_at_fn (ρ.f 11);refine(C3e {L with} F (n-1) d b ω g a i c zs j k _ s).mono ?_;rintro e w' ⟨v,rfl,r,o,l⟩)
 go_ret
 exact⟨v,rfl,r,o,l⟩
set_option maxRecDepth 100000 in
set_option maxHeartbeats 2000000 in
def C5v (L:SlLaysZI.n6 P ρ) (F:Fence) (n:Nat) (u:F.fn (ρ.f 6)) (z:F.fn (ρ.f 8)) (a2:F.fn (ρ.f 9)) (s:F.fn (ρ.f 11)) (i:F.round=none) (a3:4<=n) (k:AnyZI.SortsIn P ρ F (n-1)) (a0:∀args w,(callFunc (ρ.f 9) args).run P w= .ok (.enter (ρ.f 9) args) w) (g:Nat) (c:Array Value) (A:F.fn g) (r:∀args w,(callFunc g args).run P w= .ok (.enter g args) w)
 (zs:List Int) (D:zs.length<=maxLen) (E:zs.length*8<=140737488355328) (w:World) (I:kT F (n-1-1-1) P g c zs w):
 CallsIn F n P (ρ.f 6) #[.func (.func g) #[] c] w λe w'=>∃v:Value,e= .returned v/\w'.ownsRow w.heap.size (ρ.t 26) 1 v zs.length ((zs.mergeSort (λx y=>decide (x<=y))).map encZ)/\Below w.heap.size w w':=by
 have a1:1<=n:=ω
 have Z:∀args w,(callFunc (ρ.f 8) args).run P w= .ok (.enter (ρ.f 8) args) w:=L.f8.enters rfl;have a6:=L.mixed;have a9:=L.t0;have T:=L.a0;have am:=L.z0;have ah:=L.v0;have aa:=L.t24;have U:=L.a24;have an:=L.z24;have ai:=L.v24;have ab:=L.t26;have V:=L.a26;have ao:=L.z26;have aj:=L.v26;have ac:=L.t28;have X:=L.a28;have ap:=L.z28;have ak:=L.v28;have ad:=run_underlying L.t0;have ae:=run_underlying L.t24;have af:=run_underlying L.t26;have ag:=run_underlying L.t28;obtain⟨_,_,FG⟩:=L.f6;refine callsIn_of_wp FG rfl u ?_ i;simp only[SlBodyZ.n6_ntmps ρ,wK,rI,vT,Nat.reduceAdd,Nat.reduceSub,yX,yY,g0k,zH,vJ,wE]
 gi_wp2_with (gi_at_fn (ρ.f 8);refine(B7f {L with} F (n-1) z s i ω g c A r zs D E _ I).mono ?_;rintro e W ⟨v,rfl,j,a4,a⟩)
 rcases j.2 with⟨rfl,M⟩ | ⟨d,o,Y,rfl,h,b,N,O,Q,R⟩
 . have J:zs= []:=qT M;subst J
   gi_wp2_with (gi_at_fn (ρ.f 9);refine(k.2 none 0 W).mono ?_;rintro e w' ⟨rfl,rfl⟩)
   go_ret
   exact⟨.slice none 0 0,rfl,by simpa using j,a⟩
 . have B:=holds_of_block_i (ss:=zs) b (by simpa using R);have G:d<W.heap.size:=(rV.1 b).1;have l:=k.1 d 0 o zs W B G ω
   gi_wp2_with (gi_at_fn (ρ.f 9);refine l.mono ?_;rintro e w' ⟨rfl,a7,a8,rfl⟩)
   go_ret
   exact⟨_,rfl,ownsRow_sorted_i (by simp) h b N O Q,a.grown (grownBy_sorted_i _) a.size (λa5 H=>by cases H;exact h)⟩
end Go.Proofs
namespace Go.Proofs.YtknoakmaeleclaaGreat
open Go.Proofs.Tryz
open Go Go.Vc Go.Gw Go.Lib Go.Shelf Go.Maps Go.Sort Go.RowKit Go.Proofs
open Go.IntKind (i64 u32)
attribute [local go_sem] Oper.semAt_some
set_option maxRecDepth 100000 in
set_option maxHeartbeats 2000000 in
def D3s (n:Nat) (O:1<=n) {Bs b off h:Nat} {zs:Wf} {w:World} (r:Bs<w.heap.size) (s:w.cell? ⟨Bs,0,none⟩=some (.slice (some ⟨b,off,none⟩) zs.length h)) (y:b<w.heap.size) (N:zs.length*8<=140737488351232)
 (z:∀j,j<zs.length->w.cell? ⟨b,off+j,none⟩=some (.int .i64 (zs.getD j 0))):kT Fence.wide n prog 154 #[.pointer (some ⟨Bs,0,none⟩)] zs w:=λl J W v _ u x o=>by
 have G:=(v.cell (p:=⟨Bs,0,none⟩) r).trans s;refine callsIn_of_wp func154 rfl trivial ?_ rfl;simp only[ntmps154,wK,rI,vT,Nat.reduceAdd,Nat.reduceSub,yX,yY,g0k,zH,vJ,wE]
 gi_wp2
 gi_loopw [7] (λi wr=>∃k:Nat,k<=zs.length/\i= .int .i64 k/\J (zs.take k) wr)
  (λi _=>zs.length-(intOf i).toNat)
 case atStart=>exact⟨0,rP _,rfl,o⟩
 case round=>
  obtain⟨k,I,rfl,a⟩:=hrel;have A:=u _ _ a;by_cases d:k<zs.length
  . obtain⟨fn,E,f,g,D,c⟩:=x _ (zs.getD k 0) wr a (by rw[qZ];omega);have H:=(A.cell (p:=⟨b,off+k,none⟩) y).trans (z k d);have B:zs.take k++ [zs.getD k 0]=zs.take (k+1):=by
     rw[rU,qD,qL d];rfl
    rw[B]at c;generalize zs.getD k 0=F at*;have P:(Instr.yield l #[.int .i64 F]).run prog wr= .ok (.round l fn E f g) wr:=D
    gi_wp2
    refine c.mono ?_;rintro e W3 ⟨rfl,t,M⟩
    gi_wp2
    go_roundw
    case rel=>exact⟨k+1,ω,by simp,t⟩
    case measure=>simp[intOf];omega
  . obtain rfl:k=zs.length:=ω
    gi_wp2
    go_end0
    rw[vK]at a;exact⟨⟨_,rfl⟩,a⟩
def C1l (m:Nat):AnyZI.SortsIn prog sortedInt_ren Fence.wide m:=
 ⟨λblk f a g W b c d=>callsIn_wide.2 (AnyM.slices_Sort_int sortInt blk f a g W b c d),
  λp a W=>callsIn_wide.2 (AnyM.slices_Sort_int_none sortInt p a W)⟩
def iE {w:World} {Z:Nat->Prop} :∀ {l:Wf},(∀n∈l,LU .i64 n)->G3 (Vc.C6 (.int .i64) w Z) (l.map encZ) l
 | [],_=>rfl
 |n::l,h=>⟨[encZ n],l.map encZ,rfl,⟨rfl,h n rH⟩,iE λm a=>h m (qO _ a)⟩
def ZD {w:World} {Z:Nat->Prop} :∀ {l:Wf} {cs:List Value},G3 (Vc.C6 (.int .i64) w Z) cs l->cs=l.map (Value.int .i64)/\∀x∈l,LU .i64 x
 | [],_,h=>⟨h,λ_ h=>(by cases h)⟩
 |x::l,_,⟨c1,g,e,b,f⟩=>by
  obtain⟨c,d⟩:=ZD f;refine⟨by rw[e,b.1,c];rfl,λy a=>?_⟩;rcases qS.1 a with rfl|a
  . exact b.2
  . exact d y a
def C6l:XS prog 84 (pC 154 3):=by
 refine A8y ?_;intro w Z Q T v l i G U V M;obtain⟨a,n,r,_,_,_,g⟩:=(show Vc.C6 (.sl (.int .i64)) w Z [v] l from G);have J:v= .slice a l.length n:=by simpa using r
 rcases g with g| ⟨b,o,R,z,N,B,D⟩
 . have:l.length=0:=by rw[show l= []from g];rfl
   omega
 obtain⟨s,t⟩:=ZD D;subst z;subst J;have I:=D3s 3 δ (zs:=l) i.lt (i.cell (o:=0) rfl) (M b N) ω λj hj=>by
  refine B.get (j:=j) ?_;rw[s,tL,qL hj,qD,qL hj];rfl
 have:=C5v sortedInt Fence.wide 6 trivial trivial trivial trivial rfl δ (C1l _) (λargs w=> _root_.Go.Vc.enters_run (f:=153) (by kernel_rfl) args w) 154 _ trivial (_root_.Go.Vc.enters_run (by kernel_rfl)) l (by simp only[maxLen];omega) ω w I;refine Calls.mono (callsIn_wide.1 this) ?_;rintro _ k ⟨v,rfl,H,A⟩;have d:Below w.heap.size w k:=A;have tr:∀a b c:Int,decide (a<=b)=true->decide (b<=c)=true->decide (a<=c)=true:=λa b c h h'=>rE (g4x (qA h) (qA h'))
 have P:∀a b:Int,(decide (a<=b) ||decide (b<=a))=true:=λa b=>by
  simp only[tD,rS];omega
 refine⟨v,rfl,Ip.of ⟨d,trivial⟩,(l.mergeSort (λx y=>decide (x<=y)),()),(),[v],(λ_=>False),⟨?_,?_⟩,λh=>(by cases h),rfl,λ_ d=>d.elim,⟨v,[],rfl,⟨(l.mergeSort (λx y=>decide (x<=y))).map encZ,?_,?_,λ_ _ h=>h⟩,λ_=>⟨⟨rfl,λh=>(by cases h)⟩,λb _ u hu=>(by cases hu)⟩,rfl⟩,trivial⟩
 . exact g1e l _
 . exact(List.pairwise_mergeSort tr P l).imp λh=>qA h
 . have E:(l.mergeSort (λx y=>decide (x<=y))).length=l.length:=(g1e l _).length_eq;show k.ownsRow w.heap.size 3 1 v (l.mergeSort (λx y=>decide (x<=y))).length _;rw[E];exact H
 . exact iE λO F=>t O ((g1e l _).mem_iff.1 F)
open Go.Vc Go.Gw
def I0 {P:Program} {tys:List (Nat×TI)} {sp:H7} {f:FuncId} {fn:Func} {s:A6} {a:A2 s.args->Prop} (an:An) (c:P.funcs[f]? =some fn) (j:∀x,awf s.args x->s.pre x->a x) (i:H5 P tys=true) (h:Ur P sp) (b:∀x,C9u P tys sp an s fn x=a x:=by intro x;kernel_rfl) (a:fn.body.isSome=true:=by kernel_rfl) (d:Nat.ble s.args.length fn.ntmps=true:=by kernel_rfl) (g:Cz fn.ntmps (fn.body.getD .skip)=true:=by kernel_rfl):A9 P f s:=
 B9n c a d g i h b j
def TP:A9 prog 15 Nr:=I0 pY func15 cT A5 (A1)
def A3e:A9 prog 26 Nq:=I0 pX func26 cR A5 (A1)
def Dg:A9 prog 23 Ap:=I0 KW func23 BZ A5 (A0 A3e (A1))
def Hc:A9 prog 43 Ob:=I0 A0j func43 dZ A5 (A1)
def U3:A9 prog 234 Nt:=I0 A0a func234 dA A5 (A1)
def Bn:A9 prog 191 Nu:=I0 A0b func191 dG A5 (A0 U3 (A1))
def JA:A9 prog 128 Tl:=I0 A5m func128 gC A5 (A0 Bn (A1))
def Vv:A9 prog 151 Kf:=I0 kY func151 WE A5 (A1)
def TQ:A9 prog 188 Nv:=I0 A0c func188 dJ A5 (A0 Bn (A1))
def TR:A9 prog 187 Nw:=I0 A0d func187 dK A5 (A0 TQ (A1))
def bC:A9 prog 192 Tb:=I0 A5d func192 fT A5 (A0 U3 (A1))
def bD:A9 prog 235 Fx:=I0 YF func235 NX A5 (A0 U3 (A1))
def bE:A9 prog 193 Te:=I0 A5g func193 fW A5 (A0 U3 (A0 bD (A1)))
def Pv:A9 prog 195 Ax:=I0 LD func195 CO A5 (A0 U3 (A1))
def fI:A9 prog 268 Ia:=I0 eX func268 SS A5 (A0 U3 (A1))
def A3f:A9 prog 269 Ns:=I0 pZ func269 cW A5 (A0 U3 (A1))
def A7p:A9 prog 270 Tf:=I0 A5h func270 fX A5 (A1)
def HA:A9 prog 231 Hz:=I0 eW func231 SR A5 (A0 bC (A0 bE (A0 Pv (A0 U3 (A0 fI (A0 A3f (A0 A7p (A1))))))))
def A7n:A9 prog 230 Tc:=I0 A5e func230 fU A5 (A0 HA (A0 U3 (A1)))
def A7r:A9 prog 189 Tj:=I0 A5k func189 gA A5 (A0 Bn (A0 A7n (A1)))
def IY:A9 prog 120 Ti:=I0 A5j func120 fZ A5 (A0 Bn (A0 bC (A0 bE (A1))))
def Nc:A9 prog 123 Fy:=I0 YG func123 OA A5 (A0 Bn (A0 Pv (A1)))
def A7q:A9 prog 232 Tg:=I0 A5i func232 fY A5 (A0 Bn (A1))
def A7s:A9 prog 233 Tm:=I0 A5n func233 gE A5 (A0 IY (A0 JA (A1)))
def fJ:A9 prog 190 Ib:=I0 eY func190 SU A5 (A0 IY (A0 Nc (A0 Bn (A0 HA (A0 A7q (A0 A7s (A1)))))))
def Du:A9 prog 119 Ny:=I0 A0e func119 dO A5 (A0 Hc (A0 JA (A0 Vv (A0 TR (A0 TQ (A0 A7r (A0 fJ (A1))))))))
def jM:A9 prog 58 BB:=I0 B2f func58 pE A5 (A0 Du (A0 Nc (A1)))
def Yn:A9 prog 42 Q9:=I0 Yf func42 Rl A5 (A0 Dg (A0 jM (A1)))
def RA:A9 prog 44 Ch:=I0 PK func44 GL A5 (A0 Dg (A0 jM (A1)))
def VO:A9 prog 9 Ea:=I0 UV func9 JU A5 (A0 TP (A0 Dg (A0 Yn (A0 Hc (A0 RA (A1))))))
def MF:A9 prog 31 Al:=I0 KS func31 BP A5 (A1)
def bI:A9 prog 71 Gb:=I0 YK func71 OJ A5 (A1)
def oA:A9 prog 72 Km:=I0 lI func72 WM A5 (A1)
def Vy:A9 prog 21 Kn:=I0 lJ func21 WN A5 (A0 bI (A0 oA (A1)))
def X8:A9 prog 101 Jn:=I0 A0f func101 dU A5 (A0 Du (A1))
def Hb:A9 prog 118 Oa:=I0 A0i func118 dX A5 (A0 X8 (A0 TR (A1)))
def Vz:A9 prog 49 Ko:=I0 lK func49 WO A5 (A0 Hb (A1))
def bK:A9 prog 50 Gd:=I0 YM func50 OQ A5 (A1)
def oB:A9 prog 51 Kq:=I0 lO func51 WQ A5 (A0 Hc (A1))
def A7o:A9 prog 194 Td:=I0 A5f func194 fV A5 (A0 U3 (A1))
def IZ:A9 prog 121 Tk:=I0 A5l func121 gB A5 (A0 Bn (A0 A7o (A1)))
def Vx:A9 prog 122 Tr:=I0 A5t func122 gK A5 (A0 X8 (A1))
def Gq:A9 prog 52 Tn:=I0 A5o func52 gF A5 (A0 X8 (A0 Du (A0 IY (A0 IZ (A0 Vx (A1))))))
def Hu:A9 prog 53 Fz:=I0 YH func53 OC A5 (A0 Du (A0 Nc (A1)))
def A7u:A9 prog 60 Tq:=I0 A5r func60 gI A5 (A0 X8 (A0 Du (A0 Vx (A0 JA (A1)))))
def Jh:A9 prog 54 Mm:=I0 A5s func54 gJ A5 (A0 Gq (A0 A7u (A1)))
def bF:A9 prog 216 Ts:=I0 A5u func216 gL A5 (A0 Hc (A0 Gq (A1)))
def bG:A9 prog 236 Ga:=I0 YI func236 OE A5 (A1)
def TU:A9 prog 196 Oc:=I0 A0k func196 eH A5 (A0 Hb (A0 bF (A0 bG (A1))))
def RG:A9 prog 127 Ck:=I0 PN func127 GO A5 (A0 TU (A1))
def AO:A9 prog 59 Od:=I0 A0l func59 eI A5 (A0 RG (A1))
def Wa:A9 prog 136 Kp:=I0 lN func136 WP A5 (A0 Hc (A1))
def VR:A9 prog 133 Eg:=I0 VE func133 KB A5 (A0 Vy (A0 Gq (A0 Hb (A0 Wa (A1)))))
def Vw:A9 prog 134 Ml:=I0 A5q func134 gH A5 (A0 X8 (A0 Du (A0 IZ (A0 Vx (A1)))))
def RJ:A9 prog 135 Cn:=I0 PQ func135 GR EX (A0 Gq (A0 Jh (A0 Wa (A1))))
def MN:A9 prog 212 Ki:=I0 lE func212 WI A5 (A0 Hb (A1))
def ML:A9 prog 160 Hd:=I0 lC func160 WH A5 (A0 TU (A0 MN (A0 bF (A1))))
def A7t:A9 prog 238 Tp:=I0 A5p func238 gG A5 (A0 X8 (A0 Hb (A0 Du (A0 IZ (A0 Vx (A1))))))
def TS:A9 prog 200 Jo:=I0 A0g func200 dV A5 (A0 A7t (A1))
def bH:A9 prog 199 Cv:=I0 YJ func199 OI EX (A0 Jh (A0 Hb (A0 Vw (A0 TS (A1)))))
def nY:A9 prog 137 Kk:=I0 (sp:=oV) lG func137 WK EX (A0 Jh (A0 X8 (A0 Vw (A0 bH (A0 TS (Bf (Mw (cx:=⟨prog,D0j⟩) (fn:=f95) (c:=f95.body.getD .skip) func95 (by kernel_rfl) (by kernel_rfl) EX (K6 (A0 ML (A1)) (Ae))) (A1)))))))
def fK:A9 prog 66 Ic:=I0 eZ func66 SX EX (A0 Vy (A0 Hc (A0 Vz (A0 Gq (A0 Hu (A0 Jh (A0 AO (A0 VR (A0 Vw (A0 RJ (A0 Wa (A0 nY (A1)))))))))))))
def bJ:A9 prog 124 Gc:=I0 YL func124 OL A5 (A0 Gq (A0 Jh (A0 Vw (A1))))
def nZ:A9 prog 55 Kl:=I0 lH func55 WL A5 (A0 fK (A0 bJ (A1)))
def VQ:A9 prog 95 Ef:=I0 VC func95 JZ A5 (A0 ML (A1))
def nX:A9 prog 148 Kj:=I0 lF func148 WJ A5 (A0 MN (A1))
def RH:A9 prog 125 Cl:=I0 PO func125 GP EX (A0 AO (A0 VQ (A0 nX (A1))))
def fL:A9 prog 56 Ie:=I0 fA func56 SY A5 (A0 AO (A0 RH (A1)))
def B4e:A9 prog 12 BC:=I0 B2g func12 pF A5 (A0 Vy (A0 Vz (A0 bK (A0 oB (A0 Gq (A0 Hu (A0 Jh (A0 nZ (A0 fL (A1))))))))))
def nW:A9 prog 150 Kg:=I0 kZ func150 WF A5 (A0 Vv (A1))
def MK:A9 prog 82 Kh:=I0 lA func82 WG A5 (A0 nW (A0 Vv (A1)))
def RE:A9 prog 81 Cj:=I0 PM func81 GN A5 (A0 MK (A0 X8 (A1)))
def TT:A9 prog 29 Nz:=I0 A0h func29 dW A5 (A0 RE (A0 MK (A1)))
def I3:A9 prog 204 Cu:=I0 YE func204 NV A5 (A1)
def M5:A9 prog 143 Y9:=I0 HW func143 Za A5 (A0 I3 (A1))
def X9:A9 prog 142 Bb:=I0 LE func142 CY A5 (A0 M5 (A1))
def Xf:A9 prog 186 Dz:=I0 UU func186 JS A5 (A0 M5 (A1))
def I6:A9 prog 117 Cp:=I0 PS func117 GU A5 (A0 X9 (A0 Xf (A1)))
def Xe:A9 prog 70 Ai:=I0 US func70 JQ A5 (A0 I6 (A1))
def Ld:A9 prog 239 Ed:=I0 UY func239 JX A5 (A1)
def MH:A9 prog 202 Au:=I0 KZ func202 CJ A5 (A0 I3 (A0 Ld (A1)))
def Dh:A9 prog 140 Bc:=I0 LF func140 CZ A5 (A0 MH (A1))
def K8:A9 prog 203 R4:=I0 Yg func203 Rm A5 (A0 I3 (A1))
def Dv:A9 prog 141 T8:=I0 Zo func141 Un A5 (A0 K8 (A1))
def Cc:A9 prog 206 Eb:=I0 UX func206 JW A5 (A0 I3 (A1))
def X7:A9 prog 209 Am:=I0 KU func209 BU A5 (A1)
def VN:A9 prog 205 Dy:=I0 UT func205 JR A5 (A0 Cc (A0 X7 (A1)))
def Sp:A9 prog 242 O2:=I0 Ry func242 Ou A5 (A0 K8 (A0 I3 (A1)))
def fG:A9 prog 253 Hx:=I0 eQ func253 SO A5 (A1)
def Hs:A9 prog 271 K9:=I0 Us func271 Pe A5 (A0 fG (A1))
def IX:A9 prog 273 S6:=I0 HZ func273 Ze A5 (A1)
def Yo:A9 prog 275 N5:=I0 Yh func275 Rn A5 (A0 I3 (A1))
def Yp:A9 prog 243 R5:=I0 (sp:=Yr) Yi func243 Ro A5 (A0 I3 (A0 Hs (A0 IX (A0 Yo (Bf (Mw (cx:=⟨prog,tys⟩) (fn:=f274) (c:=f274.body.getD .skip) func274 (by kernel_rfl) (by kernel_rfl) A5 (K6 (A1) (Ae))) (A1))))))
def Pu:A9 prog 208 Ar:=I0 KY func208 CE A5 (A0 M5 (A0 K8 (A0 I3 (A0 Cc (A0 Ld (A0 Sp (A0 Yp (A1))))))))
def FV:A9 prog 287 V8:=I0 FF func287 Wv A5 (A1)
def MI:A9 prog 272 Av:=I0 LA func272 CL A5 (A0 FV (A1))
def IW:A9 prog 240 Z6:=I0 HY func240 Zd A5 (A0 Hs (A0 MI (A1)))
def Ht:A9 prog 147 Fv:=I0 YC func147 NT A5 (A0 I3 (A1))
def AN:A9 prog 211 Fw:=I0 YD func211 NU A5 (A0 M5 (A0 I3 (A1)))
def IV:A9 prog 241 Z4:=I0 HX func241 Zb A5 (A0 Ht (A0 K8 (A0 AN (A1))))
def bB:A9 prog 207 Fu:=I0 YB func207 NS A5 (A0 M5 (A0 K8 (A0 I3 (A0 Cc (A0 Pu (A0 Ld (A0 IW (A0 IV (A1)))))))))
def Gr:A9 prog 144 Z7:=I0 IB func144 Zf A5 (A0 VN (A0 Cc (A0 bB (A0 Pu (A1)))))
def N1:A9 prog 100 Co:=I0 PR func100 GT A5 (A0 Dh (A0 Dv (A0 X9 (A0 Gr (A1)))))
def bA:A9 prog 210 Ft:=I0 YA func210 NQ A5 (A0 I3 (A1))
def aX:A9 prog 145 Fo:=I0 XW func145 NM A5 (A0 X7 (A0 bA (A0 AN (A1))))
def Nb:A9 prog 146 Fp:=I0 XX func146 NN A5 (A0 Ht (A0 X7 (A1)))
def X3:A9 prog 75 Ay:=I0 VF func75 KC A5 (A0 N1 (A0 I6 (A0 Dh (A0 Dv (A0 X9 (A0 M5 (A0 Gr (A0 aX (A0 Nb (A0 Ht (A1)))))))))))
def Le:A9 prog 78 W5:=I0 VK func78 KI A5 (A0 X3 (A1))
def IU:A9 prog 182 Y8:=I0 HV func182 Yz A5 (A0 K8 (A0 X7 (A1)))
def Ad:A9 prog 113 M6:=I0 FK func113 Wx A5 (A0 IU (A1))
def Rc:A9 prog 79 Z8:=I0 fB func79 SZ A5 (A0 X3 (A0 Ad (A1)))
def Pt:A9 prog 173 U6:=I0 KX func173 CB A5 (A1)
def Lj:A9 prog 219 W6:=I0 FN func219 Xa A5 (A1)
def VU:A9 prog 201 Ei:=I0 VL func201 KJ A5 (A0 I6 (A0 Lj (A1)))
def Gk:A9 prog 138 Aq:=I0 UW func138 JV A5 (A0 Pt (A0 VU (A1)))
def Rb:A9 prog 83 J2:=I0 Qs func83 Md A5 (A0 Gk (A1))
def aY:A9 prog 166 Fq:=I0 XY func166 NO A5 (A0 Cc (A0 X7 (A1)))
def Xg:A9 prog 105 W4:=I0 VJ func105 KH A5 (A0 N1 (A0 aY (A1)))
def Xh:A9 prog 167 Ej:=I0 VM func167 KL A5 (A0 I6 (A1))
def Ff:A9 prog 257 F8:=I0 Fc func257 Dn A5 (A1)
def Iv:A9 prog 281 Jp:=A2t λ_ h=>h
def Kc:A9 prog 256 I4:=I0 Jy func256 Il A5 (A0 Ff (A0 Iv (A1)))
def Ev:A9 prog 220 F6:=I0 Eo func220 Dc A5 (A0 Kc (A1))
def QX:A9 prog 224 Cg:=I0 PG func224 GH A5 (A1)
def Na:A9 prog 177 Y5:=I0 HS func177 Yw A5 (A0 QX (A1))
def MP:A9 prog 221 Be:=I0 LI func221 DG A5 (A0 Na (A1))
def Pw:A9 prog 168 Bd:=I0 LH func168 DF A5 (A0 X3 (A0 Lj (A0 Ev (A0 MP (A1)))))
def RN:A9 prog 169 Cq:=I0 PT func169 GV A5 (A0 N1 (A1))
def AP:A9 prog 106 Cw:=I0 YO func106 OU A5 (A0 Xh (A0 Pw (A0 RN (A1))))
def Cd:A9 prog 116 Ba:=I0 VI func116 KG A5 (A0 Dh (A0 Dv (A0 X9 (A0 Gr (A0 Nb (A0 Ht (A1)))))))
def Sq:A9 prog 228 O3:=I0 Rz func228 Oy A5 (A1)
def MO:A9 prog 181 U7:=I0 LG func181 DD A5 (A0 AP (Bf C1j (A0 Sq (A1))))
def Yq:A9 prog 255 R6:=I0 Yj func255 Rp A5 (A0 X3 (A0 N1 (A0 Cd (A0 I6 (A1)))))
def FY:A9 prog 217 P9:=I0 FL func217 Wy A5 (A0 Xh (A0 Pw (A0 Yq (A1))))
def VT:A9 prog 227 Az:=I0 VH func227 KE A5 (A0 N1 (A0 I6 (A1)))
def QY:A9 prog 112 O6:=I0 (sp:=Tu) Ru func112 GJ EW (A0 Ad (A0 Gk (A0 MO (Bf (Mw (cx:=⟨prog,WB⟩) (fn:=f178) (c:=f178.body.getD .skip) func178 (by kernel_rfl) (by kernel_rfl) EW (K6 (A0 AP (A1)) (Ae))) (Bf (Mw (cx:=⟨prog,WB⟩) (fn:=f179) (c:=f179.body.getD .skip) func179 (by kernel_rfl) (by kernel_rfl) EW (K6 (Bf (Mw (cx:=⟨prog,WB⟩) (fn:=f225) (c:=f225.body.getD .skip) func225 (by kernel_rfl) (by kernel_rfl) EW (K6 (A1) (K6 (A1) (K6 (A1) (K6 (A1) (Ae)))))) (A1)) (Ae))) (Bf (Mw (cx:=⟨prog,WB⟩) (fn:=f180) (c:=f180.body.getD .skip) func180 (by kernel_rfl) (by kernel_rfl) EW (K6 (A0 Rc (A0 Xg (A0 Cd (A0 FY (A0 VT (Bf (Mw (cx:=⟨prog,WB⟩) (fn:=f226) (c:=f226.body.getD .skip) func226 (by kernel_rfl) (by kernel_rfl) EW (K6 (A1) (K6 (A1) (Ae)))) (A1))))))) (Ae))) (A1))))))) GI
def Li:A9 prog 157 M7:=I0 FM func157 Wz A5 (A0 N1 (A0 I6 (A1)))
def FU:A9 prog 155 P8:=I0 (sp:=GE) FE func155 Wu A5 (A0 Li (A0 Pt (Bf (Mw (cx:=⟨prog,tys⟩) (fn:=f174) (c:=f174.body.getD .skip) func174 (by kernel_rfl) (by kernel_rfl) A5 (K6 (A1) (Ae))) (A1))))
def So:A9 prog 265 O1:=I0 Rx func265 Ol A5 (A1)
def Vt:A9 prog 266 O9:=I0 Uy func266 Pf A5 (A0 Gk (A1))
def IS:A9 prog 291 Y6:=I0 HT func291 Yx A5 (A1)
def AK:A9 prog 285 T6:=I0 Zl func285 Ub A5 (A0 IS (A1))
def IT:A9 prog 286 Y7:=I0 HU func286 Yy A5 (A0 M5 (A0 Xf (A1)))
def FX:A9 prog 267 V9:=I0 FJ func267 Ww A5 (A0 I6 (A0 Dh (A0 X9 (A0 Nb (A0 Na (A0 AK (A0 IT (A1))))))))
def AL:A9 prog 229 T7:=I0 Zm func229 Ud A5 (A0 Ad (A0 So (A0 Vt (A0 FX (A1)))))
def MD:A9 prog 183 Aj:=I0 KQ func183 BM A5 (A0 AL (A1))
def aW:A9 prog 184 Fl:=I0 XV func184 NK A5 (A0 Le (A0 Cd (A0 I6 (A1))))
def VS:A9 prog 185 Eh:=I0 VG func185 KD A5 (A0 Cd (A0 I6 (A1)))
def QZ:A9 prog 156 X4:=I0 PH func156 GK A5 (A0 MD (A0 aW (A0 VS (A1))))
def nV:A9 prog 32 Ke:=I0 (sp:=oT) kX func32 WC A5 (A0 Xe (A0 Rb (Bf C6l (Bf (Mw (cx:=⟨prog,tys⟩) (fn:=f85) (c:=f85.body.getD .skip) func85 (by kernel_rfl) (by kernel_rfl) A5 (K6 (A1) (Ae))) (Bf (Mw (cx:=⟨prog,tys⟩) (fn:=f87) (c:=f87.body.getD .skip) func87 (by kernel_rfl) (by kernel_rfl) A5 (K6 (A0 X3 (A0 Xg (A0 QY (A0 Ad (A0 FU (A0 QZ (A0 Li (Bf (Mw (cx:=⟨prog,tys⟩) (fn:=f86) (c:=f86.body.getD .skip) func86 (by kernel_rfl) (by kernel_rfl) A5 (K6 (A0 Le (A0 Rc (A1))) (K6 (A0 Le (A0 Rc (A1))) (Ae)))) (A1))))))))) (Ae))) (A1))))))
def ME:A9 prog 61 Ak:=I0 KR func61 BO A5 (A1)
def MG:A9 prog 97 Ao:=I0 KV func97 BY A5 (A0 Hu (A1))
def RB:A9 prog 161 Ci:=I0 PL func161 GM A5 (A0 Gk (A1))
def VP:A9 prog 98 Ee:=I0 UZ func98 JY A5 (A0 X3 (A0 N1 (A0 Cd (A0 RB (A1)))))
def fH:A9 prog 99 Hy:=I0 eV func99 SQ A5 (A0 Hu (A1))
def aZ:A9 prog 36 Fs:=I0 XZ func36 NP A5 (A0 B4e (A0 TT (A0 nV (A0 ME (A0 MG (A0 VP (A0 fH (A1))))))))
def MJ:A9 prog 37 Aw:=I0 LB func37 CM A5 (A0 Xe (A0 N1 (A1)))
def bL:A9 prog 38 Ge:=I0 YN func38 OR A5 (A0 Vz (A0 X8 (A1)))
def RI:A9 prog 39 Cm:=I0 PP func39 GQ A5 (A0 TT (A1))
def Vu:A9 prog 7 I8:=I0 Uz func7 Pg A5 (A0 VO (A0 TP (A0 Dg (A0 MF (A0 aZ (A0 MJ (A0 bL (A0 RI (A1)))))))))
end Go.Proofs.YtknoakmaeleclaaGreat
