/- Part. -/
import Derived.Test.YtdbnghliccifcaaGreatKTF
set_option linter.all false
namespace Go.Proofs.YtdbnghliccifcaaGreat
open Go.Proofs.Tryz
open Go.Vc Go.Gw
open Go.IntKind (i64 u64 u32)
def YC (k:Int):ri k=rc (k:Rat):=by
 unfold ri rc;rw[g2w,g2v,Uj]
def Im (a b:Int):FQ (.int .i64) a b=decide (a=b):=rfl
def DC {α:Type} (k i:Int) (v:α):∀l:List (Int×α),I6 (.int .i64) i (Ej (.int .i64) k v l)=if i=k then some v else I6 (.int .i64) i l
 | []=>by
  simp only[Ej,I6,Im];by_cases h:i=k
  . simp[h]
  rw[qL h];simp[h]
 | (b,d)::l=>by
  have c:=DC k i v l;simp only[Ej,Im];by_cases h:k=b
  . subst h;simp only[g5c,qR,I6,Im];by_cases a:i=k
    . simp[a]
    simp[a]
  simp only[h,g2o,rG,I6,Im,c];by_cases a:i=b
  . subst a;have:¬i=k:=λe=>h e.symm
    simp[this]
  simp[a]
def OD {α:Type} (k:Int) (v:α):∀l:List (Int×α),(Ej (.int .i64) k v l).map (λe=>e.1)=if k∈l.map (λe=>e.1)then l.map (λe=>e.1)else l.map (λe=>e.1)++ [k]
 | []=>by simp[Ej]
 | (a,c)::l=>by
  have b:=OD k v l;simp only[Ej,Im];by_cases h:k=a
  . subst h;simp
  simp only[h,g2o,rG,rW,b,qV,false_or];split<;>simp
def WV {α:Type} (k:Int) (v:α):∀ {l:List (Int×α)} {e:Int×α},e∈Ej (.int .i64) k v l->e=(k,v)\/e∈l
 | [],e,h=>by
  simp only[Ej,qK]at h;exact .inl h
 | (b,c)::l,e,h=>by
  simp only[Ej,Im]at h;by_cases a:k=b
  . subst a;simp only[g5c,qR,qV]at h;rcases h with h|h
    . exact .inl h
    exact .inr (qI _ h)
  simp only[a,g2o,rG,qV]at h;rcases h with h|h
  . exact .inr (h▸rB ..)
  exact(WV k v h).imp id (qI _)
def WR {α:Type} {k:Int} {v:α} :∀ {l:List (Int×α)},I6 (.int .i64) k l=some v->(k,v)∈l
 | (b,a)::l,h=>by
  simp only[I6,Im]at h;by_cases a:k=b
  . simp[a]at h;rw[a,h];exact rB ..
  simp[a]at h;exact qI _ (WR h)
def WQ {α:Type} {k:Int} :∀ {l:List (Int×α)},k∉l.map (λe=>e.1)->I6 (.int .i64) k l=none
 | [],_=>rfl
 | (a,b)::l,h=>by
  simp only[rW,qV,g4x]at h;simp only[I6,Im];simp[h.1,WQ h.2]
def nF {α:Type} {k:Int} :∀ {l:List (Int×α)},k∈l.map (λe=>e.1)->∃v,I6 (.int .i64) k l=some v
 | (b,c)::l,h=>by
  simp only[I6,Im];by_cases a:k=b
  . exact⟨c,by simp[a]⟩
  simp only[rW,qV,a,false_or]at h;obtain⟨v,b⟩:=nF h;exact⟨v,by simp[a,b]⟩
def nJ:∀ {r l:Wf},r.Nodup->(∀i∈r,i∈l)->r.length<=l.length
 | [],_,_,_=>rS _
 |a::r,l,b,d=>by
  rw[sP]at b;have c:=d a (rB ..);have:=nJ (l:=l.erase a) b.2 λi hi=>(g3g λe=>b.1 (by rw[<-e];exact hi)).2 (d i (qI _ hi))
  have b:=g1r c;have b:=g2k c;rw[rJ];omega
def A6o {r:Wf} {n:Int} (h:r.Nodup) (a:∀i∈r,0<=i/\i<n):(r.length:Int)<=max n 0:=by
 have:=nJ (l:=(List.range n.toNat).map λi:Nat=>(i:Int)) h λi hi=>by
  have:=a i hi;exact tX.2 ⟨i.toNat,zX.2 ω,ω⟩
 rw[tI,g1o]at this;omega
structure MO (n:Int) (F:Int->Rat) (es:List C8):Prop where
 nd:(es.map λe=>e.1).Nodup
 rng:∀e∈es,0<=e.1/\e.1<n
 can:∀e∈es,e.2=rc (rv e.2)
 val:∀j,rv ((I6 (.int .i64) j es).getD dQ)=F j
def MO.at {n:Int} {F:Int->Rat} {es:List C8} (h:MO n F es) (j:Int):(I6 (.int .i64) j es).getD dQ=rc (F j)\/((I6 (.int .i64) j es).getD dQ=dQ/\F j=0/\j∉es.map λe=>e.1):=by
 have a:=h.val j;cases b:I6 (.int .i64) j es with
 |none=>
  rw[b]at a;refine .inr ⟨rfl,?_,λd=>?_⟩
  . rw[<-a];exact YF
  obtain⟨v,c⟩:=nF d;rw[b]at c;cases c
 |some v=>
  rw[b]at a;have c:=h.can _ (WR b);have a:rv v=F j:=a;left;show v= _;rw[<-a];exact c
def MO.sh {n:Int} {F:Int->Rat} {es:List C8} (h:MO n F es) (j:Int) (b:qs 2199023255552 (F j)):N6 ((I6 (.int .i64) j es).getD dQ):=by
 rcases h.at j with a| ⟨a,_⟩
 . rw[a];exact b
 rw[a];exact⟨rS _,rS _⟩
def MO.put {n:Int} {F G:Int->Rat} {es:List C8} (h:MO n F es) {k:Int} {q:Rat} (l:0<=k/\k<n) (d:G k=q) (f:∀j,j≠k->G j=F j):MO n G (Ej (.int .i64) k (rc q) es):=by
 refine⟨?_,λe a=>?_,λe a=>?_,λj=>?_⟩
 . have:=OD k (rc q) es;rw[this];split
   . exact h.nd
   rename_i o;rw[sF];refine⟨h.nd,by simp,λr g s c i=>?_⟩;rw[qK]at c;subst c i;exact o g
 . rcases WV k (rc q) a with rfl|a
   . exact l
   exact h.rng e a
 . rcases WV k (rc q) a with rfl|a
   . show rc q=rc (rv (rc q));rw[L5]
   exact h.can e a
 rw[DC];by_cases b:j=k
 . rw[qT b];show rv (rc q)= _;rw[L5,b,d]
 rw[qL b,h.val,f j b]
def MO.len {n:Int} {F:Int->Rat} {es:List C8} (h:MO n F es):(es.length:Int)<=max n 0:=by
 have:=A6o h.nd (n:=n) λi hi=>by
  obtain⟨e,a,rfl⟩:=tX.1 hi;exact h.rng e a
 rwa[tI]at this
def Qd:sr N4 Hq:=λx ak b3=>by
 obtain⟨v,⟨R,C,D⟩,_⟩:=x;have ac:Xd v:=Ue ak.1.2;have a9:WH (R,C,D):=CZ ak.2.1.2.2.2;change List C8 at v;change Int at R C;change List (List C8)at D;obtain⟨ag,ai,z,a0,bf⟩:ER K0 v/\S4 K0 (R,C,D)/\A7 (R,C,D)/\F1 v R/\R<=1000:=b3;have bq:(D.length:Int)=R:=z.2.2.2.2.1;have ba:∀w∈D,F1 w C:=z.2.2.2.2.2;have bo:0<=C:=z.2.2.1;have bp:C<=16384:=z.2.2.2.1;have bk:v.length<=1000:=by have:=Fc a0;omega
 simp only[Hq,iB,P6,Ef]
 let H:Int->Int->Rat:=λj k=>A4 (D.getD k.toNat []) j
 have au:∀j:Int,∀e∈v,qs K0 (H j e.1):=λj e a=>by
  have:=a0.2 e a;exact B6u z a9 ai δ (E2 ω) j
 have ap:∀(j:Int) (n:Nat),qs ((v.take n).length*(K0+K0+1)+1) (V8 (v.take n) (H j)):=λj n=>B5h (λe a=>ac e (rQ a)) (λe a=>ag.2.1 e (rQ a)) δ λe a=>au j e (rQ a)
 have am:K0+K0+1=2147483649:=δ
 have an:K0+K0=2147483648:=δ
 refine⟨λp=>0<=p.1/\p.1<=(v.length:Int)/\MO C (λj=>V8 (v.take p.1.toNat) (H j)) p.2.1,λp=>((v.length:Int)-p.1).toNat,⟨qH _,qF _,wF,λ_ h=>(by cases h),λ_ h=>(by cases h),λj=>YF⟩,?_⟩;rintro⟨(i:Int),(F:List C8),_⟩ _ ⟨M,b8,c⟩;simp only at M b8 c|-;refine⟨λh=>?_,λh=>?_⟩
 . have h:=qA h;have P:=G4 (d:=D7) M h;obtain⟨a1,be,_⟩:=a0.2 _ P;have X:=ag.2.1 _ P;have a8:=ac _ P;have b5:=λj=>NP (d:=D7) M h (H j)
   have bj:(v.take i.toNat).length<=999:=by rw[qY];omega
   have ao:=λj=>ap j i.toNat
   generalize gx D7 v i=e at*;have a5:e.1<(D.length:Int):=ω
   rw[Li a1 a5];have V:D.getD e.1.toNat []∈D:=E2 ω;have I:=Uy z ai V;have b6:=ba _ V;have aa:=a9 _ V;have ar:∀j,H j e.1=A4 (D.getD e.1.toNat []) j:=λj=>rfl
   generalize D.getD e.1.toNat []=row at*;have bi:=I.2.2;refine⟨⟨M,h⟩,⟨a1,a5⟩,λp=>0<=p.1/\p.1<=(row.length:Int)/\MO C (λj=>V8 (v.take i.toNat) (H j)+rv e.2*A4 (row.take p.1.toNat) j) p.2.1,λp=>((row.length:Int)-p.1).toNat,⟨qH _,qF _,?_⟩,?_⟩
   . have:(λj=>V8 (v.take i.toNat) (H j)+rv e.2*A4 (row.take (Int.toNat 0)) j)=λj=>V8 (v.take i.toNat) (H j):=by
      funext j;show _ +rv e.2*0= _;rw[sN,rD]
     show MO C (λj=>V8 (v.take i.toNat) (H j)+rv e.2*A4 (row.take (Int.toNat 0)) j) F;rw[this];exact c
   rintro⟨(t:Int),(O:List C8),_⟩ _ ⟨N,b9,u⟩;simp only at N b9 u|-;refine⟨λg=>?_,λg=>?_⟩
   . have g:=qA g;have Q:=G4 (d:=D7) N g;have a7:=b6.2 _ Q;have aj:=I.2.1 _ Q;have az:=aa _ Q;have a4:=CL (d:=D7) N g;have av:=CK (v:=row.take t.toNat) (k:=K0) I.1.take (λe a=>aa e (rQ a)) (λe a=>I.2.1 e (rQ a)) δ;generalize gx D7 row t=f at*;have b4:=Pu (Ly a8 X δ) (Ly az aj δ);have aq:qs 2199023255552 (V8 (v.take i.toNat) (H f.1)+rv e.2*A4 (row.take t.toNat) f.1):=by
      refine H4 (Zo (ao f.1) (Pu (Ly a8 X δ) (av f.1))) ?_;rw[am,an];omega
     refine⟨⟨N,g⟩,⟨R8 X δ,R8 aj δ⟩,?_⟩;rintro⟨q,_⟩ _ W;simp only at W|-;refine⟨⟨u.sh f.1 aq,by rw[W];exact Ik b4 δ⟩,?_⟩;rintro⟨bn,_⟩ _ Y;simp only at Y|-;rw[wv ω];have Z:rv ((I6 (.int .i64) f.1 O).getD dQ)=V8 (v.take i.toNat) (H f.1)+rv e.2*A4 (row.take t.toNat) f.1:=u.val f.1;rw[Z,W,L5]at Y;rw[Y];refine⟨⟨ω,ω,u.put ⟨a7.1,a7.2.1⟩ ?_ λj ay=>?_⟩,ω⟩
     . show _ +rv e.2*A4 (row.take (t+1).toNat) f.1= _;rw[a4,qT rfl,g4z, <-xC]
     show _ +rv e.2*A4 (row.take (t+1).toNat) j= _ +rv e.2*A4 (row.take t.toNat) j;rw[a4,qL (λe=>ay e.symm),rD]
   have g:=qB g;rw[E9 (l:=row) (i:=t) ω]at u;rw[wv ω];refine⟨⟨ω,ω,?_⟩,ω⟩;have:(λj=>V8 (v.take (i+1).toNat) (H j))=λj=>V8 (v.take i.toNat) (H j)+rv e.2*A4 row j:=by
    funext j;rw[b5,ar]
   show MO C (λj=>V8 (v.take (i+1).toNat) (H j)) O;rw[this];exact u
 have h:=qB h;rw[E9 ω]at c;have bg:=c.len;refine⟨⟨ω,c.nd⟩,λl U b0=>?_⟩;have b2:l.Nodup:=U.nodup_iff.2 c.nd;have b1:l.Pairwise (· < ·):=by
  refine g1b ?_ b0 b2;intro bb bc a2 a3;omega
 have bh:l.length<=16384:=by
  have:=U.length_eq;rw[tI]at this;omega
 have ad:∀j,j∈l↔j∈F.map λe=>e.1:=λj=>U.mem_iff
 refine⟨λp=>0<=p.2.1/\p.2.1<=(l.length:Int)/\p.1.length<=p.2.1.toNat/\U8 p.1/\(∀e∈p.1,e.1∈l.take p.2.1.toNat)/\(∀j∈l.take p.2.1.toNat,A4 p.1 j=V8 v (H j)),λp=>((l.length:Int)-p.2.1).toNat,⟨qH _,qF _,qU _,Iu,λ_ h=>(by cases h),by simp⟩,?_⟩;rintro⟨(out:List C8),(j:Int),_⟩ _ ⟨o,a2,a3,G,s,A⟩;simp only at o a2 a3 G s A|-;refine⟨λh=>?_,λh=>?_⟩
 . have h:=qA h;have aw:=L3 (d:=(0:Int)) o h;have E:l.take (j+1).toNat=l.take j.toNat++ [gx 0 l j]:=by
    rw[(ω:(j+1).toNat=j.toNat+1),rP,H3 (d:=(0:Int)) o h];rfl
   have ab:∀y∈l.take j.toNat,y<gx 0 l j:=λy hy=>by
    have:(l.take (j+1).toNat).Pairwise (· < ·):=b1.take;rw[E,tF]at this;exact this.2.2 y hy _ (qK.2 rfl)
   have ax:gx 0 l j∈l:=G4 (d:=(0:Int)) o h;rw[<-aw];generalize gx 0 l j=i at*;have Z:(I6 (.int .i64) i F).getD dQ=rc (V8 v (H i)):=by
    rcases c.at i with B| ⟨_,_,B⟩
    . exact B
    exact absurd ((ad i).1 ax) B
   rw[Z];have ah:∀e∈out,e.1<i:=λe a=>ab _ (s e a)
   have ae:A4 out i=0:=C7 λe a a6=>by have:=ah e a;omega
   refine⟨λp=>p.1.length<=(j+1).toNat/\U8 p.1/\(∀e∈p.1,e.1∈l.take (j+1).toNat)/\∀k∈l.take (j+1).toNat,A4 p.1 k=V8 v (H k),⟨⟨o,h⟩,trivial,?_⟩,?_⟩
   . rintro⟨bm,_⟩ _ J;simp only at J|-;rw[L5]at J;refine⟨λr=>⟨⟨by simp only[qX];omega,by simp only[qX];omega⟩,by show(out++ [(i,_)]).length<= _;simp;omega,?_,λe a=>?_,λk b=>?_⟩,λr=>⟨by show out.length<= _;omega,G,λe a=>by rw[E];exact qS.2 (.inl (s e a)),λk b=>?_⟩⟩
     . have r:=qA r;exact Fq G (λo=>r (by rw[J,o];rfl)) ah
     . rw[E];rcases qS.1 a with a|a
       . exact qS.2 (.inl (s e a))
       rw[qK.1 a];exact qS.2 (.inr (qK.2 rfl))
     . show A4 (out++ [(i,rc (V8 v (H i)))]) k=V8 v (H k);rw[Cd];rw[E]at b;rcases qS.1 b with b|b
       . have:=ab k b;rw[qL ω,rD,A k b]
       rw[qK.1 b,qT rfl,ae,sX]
     have r:=qB r;have b7:V8 v (H i)=0:=AE (by rw[<-J];exact tS.1 r);rw[E]at b;show A4 out k=V8 v (H k);rcases qS.1 b with b|b
     . exact A k b
     rw[qK.1 b,ae,b7]
   rintro⟨bl,_⟩ _ af;simp only at af|-;rw[wv ω];exact⟨⟨ω,ω,af⟩,ω⟩
 have h:=qB h;rw[E9 ω]at s A;refine⟨G,λi=>?_⟩;show A4 out i=V8 v (H i);by_cases T:i∈l
 . exact A i T
 rw[C7 λe a a6=>T (by rw[<-a6];exact s e a)];have:=c.val i;rw[WQ λB=>T ((ad i).2 B)]at this;exact YF.symm.trans this
def PP:sr Gy GI:=λx V E=>by
 obtain⟨⟨(R:Int),(C:Int),D⟩,⟨(R':Int),(C':Int),D'⟩,_⟩:=x;change List (List C8)at D D';obtain⟨F,G,P⟩:S4 K0 (R,C,D)/\S4 K0 (R',C',D')/\C<=1000:=E;simp only[GI,iB,SP,Od];refine⟨trivial,?_⟩;rintro⟨B,_⟩ _ f;simp only at f|-;refine⟨λ_=>trivial,?_⟩;rintro⟨W,_⟩ r;simp only at r|-;rw[H5];by_cases a:A7 (R,C,D)
 . have f:B=true:=by rw[f];exact rF a
   have r:=(r (by rw[f];rfl)).2;rw[f,r];by_cases b:A7 (R',C',D')
   . rw[rF b];refine⟨λh=>(by cases h),λ_=>⟨λh=>?_,λh=>?_⟩⟩
     . have h:=qA h;exact⟨λh=>absurd ⟨a,b⟩ h,λ_=>⟨λ_=>⟨rfl,by trivial⟩,λs=>absurd s h⟩⟩
     have h:=tS.1 (qB h);obtain⟨v,I,J,M,_,_⟩:=id a;have Y:(D.length:Int)=R:=a.2.2.2.2.1;have N:∀w∈D,F1 w C:=a.2.2.2.2.2;have Z:0<=C':=b.2.2.1;have a0:(D'.length:Int)=R':=b.2.2.2.2.1;have O:∀w∈D',F1 w C':=b.2.2.2.2.2;simp only at v I J M;refine⟨⟨v,qH _,ω,ω⟩,?_⟩;refine⟨λp=>0<=p.1/\p.1<=R/\VV R.toNat p.1.toNat (λi=>Vx C'.toNat λj=>B7 C.toNat λk=>el (R,C,D) i k*el (R',C',D') k j) p.2.1,λp=>(R-p.1).toNat,⟨qH _,v,A0j rK⟩,?_⟩;rintro⟨(k:Int),rows,_⟩ _ ⟨g,H,o⟩;change List (List C8)at rows;simp only at g H o|-;have:=o.1;refine⟨λc=>?_,λc=>?_⟩
     . have c:=qA c;have t:=G4 (d:=([]:List C8)) g c;rw[Li g c]at t|-;have u:=N _ t;refine⟨⟨g,c⟩,⟨Uy a F t,G,b,by rw[<-h];exact u,ω⟩,?_⟩;rintro⟨X,_⟩ _ A;simp only at A|-;rw[wv ω];have z:∀j:Int,V8 (D.getD k.toNat []) (λk=>A4 (D'.getD k.toNat []) j)=B7 C.toNat λl=>el (R,C,D) k.toNat l*A4 (D'.getD l []) j:=λj=>by
        rw[gA (n:=C.toNat) λe y=>⟨(u.2 e y).1,by have:=(u.2 e y).2.1;omega⟩];exact A8 λl _=>by rw[qO];rfl
       refine⟨⟨g,ω⟩,⟨ω,ω,NV o g ω ?_⟩,ω⟩;refine TK A (λj T=>?_) λj _=>?_
       . rw[z];refine U3 λl U=>?_
         rw[DX (O _ (E2 (l:=D') (i:=l) ω)) (ω:¬(0<=j/\j<C')),sN]
       rw[z];rfl
     have c:=qB c;exact⟨λh=>absurd ⟨a,b⟩ h,λ_=>⟨λs=>absurd h s,λ_=>⟨⟨by show R= _;omega,by show C'= _;omega,o.1,λi Q=>o.2 i ω⟩,by trivial⟩⟩⟩
   rw[rI b];exact⟨λ_=>⟨λ_=>⟨rfl,by trivial⟩,λh=>absurd h.2 b⟩,λh=>(by cases h)⟩
 have f:B=false:=by rw[f];exact rI a
 rw[f];exact⟨λ_=>⟨λ_=>⟨rfl,by trivial⟩,λh=>absurd h.1 a⟩,λh=>(by simp at h)⟩
def TL {n:Nat} {f:Nat->Rat} {v:List C8} (h:Vx n f v):v.length<=n:=by
 have:=Fc (CW h);omega
def Vp:sr Q6 Ka:=λx ak a5=>by
 obtain⟨⟨(R:Int),(C:Int),D⟩,_⟩:=x;change List (List C8)at D;have a6:S4 K1 (R,C,D):=a5;simp only[Ka,iB,P6,Od];refine⟨trivial,?_⟩;rintro⟨X,_⟩ _ u;simp only at u|-;by_cases s:A7 (R,C,D)
 . have u:X=true:=by rw[u];exact rF s
   rw[u];obtain⟨Y,ac,Z,ad,_,_⟩:=id s;have am:(D.length:Int)=R:=s.2.2.2.2.1;have ae:∀w∈D,F1 w C:=s.2.2.2.2.2;simp only at Y ac Z ad;refine⟨λh=>(by cases h),λ_=>⟨⟨Z,qH _,ω,ω⟩,?_⟩⟩;refine⟨λp=>0<=p.1/\p.1<=R/\p.2.1.length=C.toNat/\∀j,j<C.toNat->Vx p.1.toNat (λi=>el (R,C,D) i j) (p.2.1.getD j []),λp=>(R-p.1).toNat,⟨qH _,Y,rK,λj f=>?_⟩,?_⟩
   . have e:(List.replicate C.toNat ([]:List C8)).getD j []= []:=by
      rw[qE,vE,qT f];rfl
     show Vx _ _ ((List.replicate C.toNat ([]:List C8)).getD j []);rw[e];exact⟨Iu,λ_ h=>(by cases h),λi z=>by simp at z⟩
   rintro⟨(k:Int),rows,_⟩ _ ⟨F,aa,M,E⟩;change List (List C8)at rows;simp only at F aa M E|-;refine⟨λr=>?_,λr=>?_⟩
   . have r:=qA r;have N:=G4 (d:=([]:List C8)) F r;rw[Li F r]at N|-;have W:=ae _ N;have P:=Uy s a6 N;have a2:∀j:Nat,A4 (D.getD k.toNat []) (j:Int)=el (R,C,D) k.toNat j:=λj=>rfl
     generalize D.getD k.toNat []=row at*;have aj:=P.2.2;refine⟨⟨F,r⟩,λp=>0<=p.1/\p.1<=(row.length:Int)/\p.2.1.length=C.toNat/\∀j,j<C.toNat->Vx (k+1).toNat (λi=>if i<k.toNat then el (R,C,D) i j else A4 (row.take p.1.toNat) (j:Int)) (p.2.1.getD j []),λp=>((row.length:Int)-p.1).toNat,⟨qH _,qF _,M,λj f=>?_⟩,?_⟩
     . obtain⟨v,y,B⟩:=E j f;refine⟨v,λe I=>by have:=y e I;omega,λi z=>?_⟩;dsimp only;by_cases c:i<k.toNat
       . rw[qT c];exact B i c
       rw[qL c,C7 λe I ah=>by have:=(y e I).2;omega];rfl
     rintro⟨(t:Int),o,_⟩ _ ⟨A,ab,G,of⟩;change List (List C8)at o;simp only at A ab G of|-;refine⟨λg=>?_,λg=>?_⟩
     . have g:=qA g;have V:=G4 (d:=D7) A g;obtain⟨Q,af,a0⟩:=W.2 _ V;have a7:=P.2.1 _ V;have H:=CL (d:=D7) A g;have U:A4 (row.take t.toNat) (gx D7 row t).1=0:=by
        refine C7 λx J T=>?_
        have n:(row.take (t+1).toNat).Pairwise (λa b=>a.1<b.1):=P.1.take;rw[(ω:(t+1).toNat=t.toNat+1),rP,H3 (d:=D7) A g,tF]at n;have:=n.2.2 x J (gx D7 row t) (by simp);omega
       generalize gx D7 row t=e at*;have a8:N6 e.2:=R8 a7 δ;have A1:t<(row.length:Int):=g;have B1:e.1<(o.length:Int):=by rw[G];omega
       have O:=of e.1.toNat ω;have a3:=TL O;have L1:((o.getD e.1.toNat []).length+ [(k,rc (rv e.2))].length)*64<=140737488355328:=by simp only[qX];omega
       have L2:(o.getD e.1.toNat []).length+ [(k,rc (rv e.2))].length<=9223372036854775807:=by simp only[qX];omega
       have a9:i64.wrap (t+1)=t+1:=wv ω;rw[a9];have I1:0<=t+1:=ω
       have I2:t+1<=(row.length:Int):=ω
       have I3:(o.set e.1.toNat (o.getD e.1.toNat []++ [(k,rc (rv e.2))])).length=C.toNat:=by rw[qW];exact G
       have I4:∀j,j<C.toNat->Vx (k+1).toNat (λi=>if i<k.toNat then el (R,C,D) i j else A4 (row.take (t+1).toNat) (j:Int)) ((o.set e.1.toNat (o.getD e.1.toNat []++ [(k,rc (rv e.2))])).getD j []):=λj f=>by
        rw[qE,xN];by_cases J:e.1.toNat=j
        . rw[qT J,qT ω];subst J;obtain⟨v,y,B⟩:=O;have a4:∀x∈o.getD e.1.toNat [],x.1<k:=λx n=>by
           have ag:=y x n;have T:=(v.2 x n).1;rw[<-N2 v.1 n]at T;refine rA λai=>T ?_
           have a1:x.1=((k.toNat:Nat):Int):=ω
           rw[a1,B k.toNat ω];dsimp only;rw[qL ω,(ω:((e.1.toNat:Nat):Int)=e.1)];exact U
          refine⟨Fq v a0 a4,λx n=>?_,λi z=>?_⟩
          . rcases qS.1 n with n|n
            . exact y x n
            rw[qK.1 n];show 0<=k/\k< _;omega
          show A4 (o.getD e.1.toNat []++ [(k,rc (rv e.2))]) (i:Int)= _;rw[Cd,B i z];dsimp only;rw[H,qT (ω:e.1=((e.1.toNat:Nat):Int))];by_cases c:i<k.toNat
          . rw[qT c,qT c,qL ω,rD]
          rw[qL c,qL c,qT ω]
        rw[qL J, <-qE];refine Qx (of j f) λi _=>?_
        rw[H,qL (ω:¬e.1=(j:Int)),rD]
       have M1:((row.length:Int)-(t+1)).toNat<((row.length:Int)-t).toNat:=ω
       clear O a3 H U of E W
       repeat' first
        |exact⟨⟨Q,B1⟩,by trivial,⟨I1,I2,I3,I4⟩,M1⟩
        |exact⟨L1,L2⟩
        |exact⟨Q,B1⟩
        |exact⟨A,A1⟩
        |exact a8
        |apply And.intro
        | (rintro⟨q,_⟩ _ n;simp only at n|-;subst n)
     have g:=qB g;rw[wv ω];rw[E9 (l:=row) (i:=t) ω]at of;refine⟨⟨ω,ω,G,λj f=>Qx (of j f) λi z=>?_⟩,ω⟩;by_cases c:i<k.toNat
     . rw[qT c]
     rw[qL c,a2,(ω:i=k.toNat)]
   have r:=qB r;exact⟨λh=>absurd s h,λ_=>⟨⟨by show C= _;omega,by show R= _;omega,M,λj f=>by
    have:=E j f;rw[(ω:k.toNat=R.toNat)]at this;exact this⟩,by trivial⟩⟩
 have u:X=false:=by rw[u];exact rI s
 rw[u];exact⟨λ_=>⟨λ_=>⟨rfl,by trivial⟩,λh=>absurd h s⟩,λh=>(by cases h)⟩
def Hm:sr J3 Cc:=λx t c=>by
 obtain⟨l,⟨u,f⟩,_⟩:=x;have w:l.length<=9223372036854775807:=t.1.1;change Wf at l;have c:∀i∈l,u (i,()):=c;simp only[Cc,iB];refine⟨λp=>0<=p.1/\p.1<=(l.length:Int)/\∀y∈l.take p.1.toNat,f (y,())=false,λp=>((l.length:Int)-p.1).toNat,⟨qH _,qF _,by simp⟩,?_⟩;rintro⟨(i:Int),_⟩ _ ⟨a,n,b⟩;simp only at a n b|-;refine⟨λh=>?_,λh=>?_⟩
 . have h:=qA h;refine⟨⟨a,h⟩,by trivial,c _ (G4 a h),λ_=>⟨λs=>?_,λo=>?_⟩⟩
   . have r:l.findIdx? (λi=>f (i,()))=some i.toNat:=by
      rw[zQ];have g:=H3 (d:=(0:Int)) a h;have j:i.toNat<l.length:=ω
      rw[qN j]at g;refine⟨j,by rw[xK g];exact s,λk v=>?_⟩;have:=b l[k] (vG.2 ⟨k,by rw[qY];omega,by simp⟩);simp[this]
     unfold mL;rw[r];show i=((i.toNat:Nat):Int);omega
   rw[wv ω];exact⟨⟨ω,ω,Nr a h b o⟩,ω⟩
 have h:=qB h;rw[E9 ω]at b;unfold mL;have:l.findIdx? (λi=>f (i,()))=none:=by
  rw[g1l];exact b
 rw[this]
def B5p (p:Int->Bool) (l:Wf):0<=mL p l↔∃i,i∈l/\p i=true:=by
 unfold mL;cases h:l.findIdx? p with
 |none=>
  rw[g1l]at h;constructor
  . intro b;simp at b
  rintro⟨i,c,a⟩;have:=h i c;rw[this]at a;cases a
 |some k=>
  rw[zQ]at h;obtain⟨a,b,_⟩:=h;exact⟨λ_=>⟨_,wB a,b⟩,λ_=>qF _⟩
def Fl:sr F9 Y5:=λx d a=>by
 obtain⟨(l:Wf),⟨c,f⟩,_⟩:=x;have a:∀i∈l,c (i,()):=a;simp only[Y5,Ef];refine⟨by trivial,by trivial,a,?_⟩;rintro⟨r,_⟩ _ b;simp only at b|-;rw[b];exact vT.2 (B5p _ _)
def Sx:sr K9 Jm:=λx a _=>by
 simp only[Jm];rw[H5,Bool.decide_or]
def A5t {a b:List C8} (h:a.Perm b) (j:Int):A4 a j=A4 b j:=by
 induction h with
 |nil=>rfl
 |cons e _ c=>rw[A4,A4,c]
 |swap e f l=>simp only[A4];rw[<-xC, <-xC,xY (if f.1=j then rv f.2 else 0)]
 |trans _ _ c d=>rw[c,d]
def B4w {a b:Int} (h:¬M7 b a<0):a<=b:=by
 unfold M7 at h;split at h
 . omega
 split at h<;>omega
def FH:sr Br Sw:=λx bs bl=>by
 obtain⟨⟨R,C,D⟩,rows,a,_⟩:=x;have cb:WH (R,C,D):=CZ bs.1.2.2.2;change Int at R C;change List (List C8)at D;change Wf at rows a;obtain⟨⟨bn,cc,ca⟩,aw⟩:(S4 K1 (R,C,D)/\rows.length<=1000/\a.length<=1000)/\a.Nodup:=by
  obtain⟨B,E,r,d⟩:=bl;exact⟨⟨B,E,r⟩,d⟩
 simp only[Sw,iB,P6,Od];refine⟨trivial,?_⟩;rintro⟨b2,_⟩ _ H;simp only at H|-;by_cases v:A7 (R,C,D)
 . have H:b2=true:=by rw[H];exact rF v
   rw[H];obtain⟨c0,c2,c3,c4,_,_⟩:=id v;have cg:(D.length:Int)=R:=v.2.2.2.2.1;have c5:∀w∈D,F1 w C:=v.2.2.2.2.2;simp only at c0 c2 c3 c4;refine⟨λh=>(by cases h),λ_=>⟨by trivial,by trivial,λ_ _=>trivial,?_⟩⟩;rintro⟨a6,_⟩ _ a0;simp only at a0|-;refine⟨by trivial,by trivial,λ_ _ _=>trivial,?_⟩;rintro⟨b3,_⟩ U;simp only at U|-;rw[H5];have aj:(a6||b3)=true↔((∃i,i∈rows/\(i<0\/R<=i))\/∃i,i∈a/\(i<0\/C<=i)):=by
    by_cases f:∃i,i∈rows/\(i<0\/R<=i)
    . have:a6=true:=by
       rw[a0];obtain⟨i,b,c⟩:=f;exact rF ⟨i,b,rF c⟩
      rw[this];exact⟨λ_=> .inl f,λ_=>rfl⟩
    have am:a6=false:=by
     rw[a0];exact rI fun⟨i,b,c⟩=>f ⟨i,b,qA c⟩
    have U:=(U am).2;rw[am,wE,U];constructor
    . intro h;obtain⟨i,b,c⟩:=qA h;exact .inr ⟨i,b,qA c⟩
    rintro(h| ⟨i,b,c⟩)
    . exact absurd h f
    exact rF ⟨i,b,rF c⟩
   refine⟨λh=>?_,λh=>⟨trivial,?_⟩⟩
   . have h:=aj.1 h;exact⟨λg=>absurd v g,λ_=>⟨λ_=>⟨rfl,by trivial⟩,λg=>absurd h g⟩⟩
   have ac:¬((∃i,i∈rows/\(i<0\/R<=i))\/∃i,i∈a/\(i<0\/C<=i)):=λg=>by rw[aj.2 g]at h;cases h
   have bm:∀i∈rows,0<=i/\i<R:=λi b=>rA λhn=>ac (.inl ⟨i,b,ω⟩)
   have be:∀i∈a,0<=i/\i<C:=λi b=>rA λhn=>ac (.inr ⟨i,b,ω⟩)
   rintro⟨b4,_⟩ _ a7;simp only at a7|-;refine⟨λ_=>trivial,?_⟩;rintro⟨b5,_⟩ a8;simp only at a8|-;have M:b4=true:=by rw[a7];exact rF ⟨ω,ω⟩
   have F:b5=true:=by rw[(a8 (by rw[M];rfl)).2];exact rF ⟨ω,ω⟩
   rw[M,F];refine⟨λh=>(by cases h),λ_=>?_⟩;clear a0 U a7 a8 aj h;refine⟨λp=>0<=p.1/\p.1<=(a.length:Int)/\(∀k:Nat,k<p.1.toNat->I6 (.int .i64) (a.getD k 0) p.2.1=some [(k:Int)])/\∀r,r∉a.take p.1.toNat->I6 (.int .i64) r p.2.1=Option.none,λp=>((a.length:Int)-p.1).toNat,⟨qH _,qF _,λk o=>by simp at o,λ_ _=>rfl⟩,?_⟩;rintro⟨(i:Int),J,_⟩ _ ⟨ai,bt,a1,W⟩;change List (Int×Wf)at J;simp only at ai bt a1 W|-;refine⟨λb=>?_,λb=>?_⟩
   . have b:=qA b;have a9:=L3 (d:=(0:Int)) ai b;have ar:i.toNat<a.length:=ω
     have b0:a.take (i+1).toNat=a.take i.toNat++ [a.getD i.toNat 0]:=by
      rw[(ω:(i+1).toNat=i.toNat+1),rP,qN ar,H2 _ _ ar];rfl
     have ax:a.getD i.toNat 0∉a.take i.toNat:=λaa=>by
      have f:(a.take (i+1).toNat).Nodup:=aw.take;rw[b0,sF]at f;exact f.2.2 _ aa _ (qK.2 rfl) rfl
     rw[a9,wv ω];refine⟨⟨ai,b⟩,W _ ax,⟨by simp only[qX];omega,by simp only[qX];omega⟩,⟨ω,ω,λk o=>?_,λr c=>?_⟩,ω⟩
     . show I6 (.int .i64) (a.getD k 0) (Ej (.int .i64) (a.getD i.toNat 0) [i] J)= _;rw[DC];by_cases aq:k=i.toNat
       . rw[qT (by rw[aq]),aq,(ω:((i.toNat:Nat):Int)=i)]
       have bi:k<i.toNat:=by have o:k<(i+1).toNat:=o;omega
       rw[qL,a1 k bi];intro bg;apply ax;rw[<-bg,H2 _ _ (ω:k<a.length)];exact vG.2 ⟨k,by rw[qY];omega,by simp⟩
     show I6 (.int .i64) r (Ej (.int .i64) (a.getD i.toNat 0) [i] J)= _;have c:r∉a.take (i+1).toNat:=c;rw[b0,qS,qK,g4x]at c;rw[DC,qL c.2,W r c.1]
   have b:=qB b;rw[E9 ω]at W;have aa:i.toNat=a.length:=ω
   rw[aa]at a1;rw[qO];refine⟨⟨ω,qH _,ω,ω⟩,λp=>0<=p.1/\p.1<=(rows.length:Int)/\VV rows.length p.1.toNat (λi=>Vx a.length λj=>el (R,C,D) (rows.getD i 0).toNat (a.getD j 0).toNat) p.2.1,λp=>((rows.length:Int)-p.1).toNat,⟨qH _,qF _,A0j rK⟩,?_⟩;rintro⟨(k:Int),out,_⟩ _ ⟨O,bu,V⟩;change List (List C8)at out;simp only at O bu V|-;have cd:=V.1;refine⟨λo=>?_,λo=>?_⟩
   . have o:=qA o;have a9:=L3 (d:=(0:Int)) O o;have ae:=bm _ (G4 (d:=(0:Int)) O o);rw[a9]at ae|-;have bh:∀ {w:List C8},Vx a.length (λj=>el (R,C,D) (rows.getD k.toNat 0).toNat (a.getD j 0).toNat) w->VV rows.length (k+1).toNat (λi=>Vx a.length λj=>el (R,C,D) (rows.getD i 0).toNat (a.getD j 0).toNat) (out.set k.toNat w):=λ{w} hw2=>NV V O o hw2
     generalize rows.getD k.toNat 0=Z at*;have az:Z<(D.length:Int):=ω
     rw[Li ae.1 az];have au:D.getD Z.toNat []∈D:=E2 ω;have af:=Uy v bn au;have bq:=c5 _ au;have bc:∀r:Int,0<=r->A4 (D.getD Z.toNat []) r=el (R,C,D) Z.toNat r.toNat:=λr c=>A9m _ _ c
     generalize D.getD Z.toNat []=row at*;have cf:=af.2.2;refine⟨⟨O,o⟩,⟨ae.1,az⟩,λp=>0<=p.2.1/\p.2.1<=(row.length:Int)/\p.1.length<=p.2.1.toNat/\(p.1.map λe=>e.1).Nodup/\(∀x∈p.1,∃q:Nat,q<a.length/\x.1=(q:Int)/\(∃y∈row.take p.2.1.toNat,y.1=a.getD q 0)/\rv x.2≠0/\x.2=rc (rv x.2))/\∀j:Nat,j<a.length->A4 p.1 (j:Int)=A4 (row.take p.2.1.toNat) (a.getD j 0),λp=>((row.length:Int)-p.2.1).toNat,⟨qH _,qF _,qU _,wF,λ_ h=>(by cases h),λj _=>rfl⟩,?_⟩;rintro⟨(P:List C8),(t:Int),_⟩ _ ⟨Q,bx,bv,a3,a4,Y⟩;simp only at Q bx bv a3 a4 Y|-;refine⟨λu=>?_,λu=>?_⟩
     . have u:=qA u;have ap:=G4 (d:=D7) Q u;obtain⟨c6,c7,b6⟩:=bq.2 _ ap;have bo:=af.2.1 _ ap;have bf:=CL (d:=D7) Q u;have bb:∀y∈row.take t.toNat,y.1≠(gx D7 row t).1:=λx n hxe=>by
        have f:(row.take (t+1).toNat).Pairwise (λB E=>B.1<E.1):=af.1.take;rw[(ω:(t+1).toNat=t.toNat+1),rP,H3 (d:=D7) Q u,tF]at f;have:=f.2.2 x n (gx D7 row t) (by simp);omega
       have bp:∀y∈row.take t.toNat,y∈row.take (t+1).toNat:=λy X=>by
        rw[(ω:(t+1).toNat=t.toNat+1),rP];exact qS.2 (.inl X)
       have bk:gx D7 row t∈row.take (t+1).toNat:=by
        rw[(ω:(t+1).toNat=t.toNat+1),rP,H3 (d:=D7) Q u];simp
       generalize gx D7 row t=e at*;have N:(I6 (.int .i64) e.1 J).getD []= []/\e.1∉a\/∃q:Nat,q<a.length/\a.getD q 0=e.1/\(I6 (.int .i64) e.1 J).getD []= [(q:Int)]:=by
        by_cases c:e.1∈a
        . obtain⟨q,A,G⟩:=T2 0 c;have:=a1 q A;rw[G]at this;exact .inr ⟨q,A,G,by rw[this];rfl⟩
        exact .inl ⟨by rw[W _ c];rfl,c⟩
       generalize (I6 (.int .i64) e.1 J).getD []=L at*;have c8:L.length<=1:=by
        rcases N with⟨h,_⟩ | ⟨q,_,_,h⟩<;>rw[h]<;>simp
       refine⟨⟨Q,u⟩,λp=>0<=p.2.1/\p.2.1<=(L.length:Int)/\p.1=P++(L.take p.2.1.toNat).map λq=>(q,rc (rv e.2)),λp=>((L.length:Int)-p.2.1).toNat,⟨qH _,qF _,by simp⟩,?_⟩;rintro⟨(b1:List C8),(a5:Int),_⟩ _ ⟨ak,bz,z⟩;simp only at ak bz z|-;have ce:b1.length<=P.length+1:=by
        rw[z,rN,tI,qY];omega
       refine⟨λI=>?_,λI=>?_⟩
       . have I:=qA I;refine⟨⟨ak,I⟩,R8 bo δ,?_⟩;rintro⟨q,_⟩ _ A;simp only at A|-;rw[wv ω];refine⟨⟨by simp only[qX];omega,by simp only[qX];omega⟩,⟨ω,ω,?_⟩,ω⟩;rw[z,A,(ω:(a5+1).toNat=a5.toNat+1),rP,H3 (d:=(0:Int)) ak I,vP,uC];rfl
       have I:=qB I;rw[E9 (l:=L) (i:=a5) ω]at z;rw[wv ω];have ao:∀j:Nat,j<a.length->A4 (row.take (t+1).toNat) (a.getD j 0)=A4 (row.take t.toNat) (a.getD j 0)+if e.1=a.getD j 0 then rv e.2 else 0:=λj _=>bf _
       have av:∀x∈P,∃q:Nat,q<a.length/\x.1=(q:Int)/\(∃y∈row.take (t+1).toNat,y.1=a.getD q 0)/\rv x.2≠0/\x.2=rc (rv x.2):=λx n=>by
        obtain⟨q,f,g,⟨y,X,M⟩,F,T⟩:=a4 x n;exact⟨q,f,g,⟨y,bp y X,M⟩,F,T⟩
       rcases N with⟨N,bj⟩ | ⟨q,A,G,N⟩
       . rw[N,g2l,vY]at z;subst z;refine⟨⟨ω,ω,ω,a3,av,λj s=>?_⟩,ω⟩;rw[Y j s,ao j s,qL (λh=>bj (by rw[h];exact E2 s)),rD]
       rw[N,rW,g2l]at z;subst z;refine⟨⟨ω,ω,ω,?_,λx n=>?_,λj s=>?_⟩,ω⟩
       . show((P++ [((q:Int),rc (rv e.2))]).map λe:C8=>e.1).Nodup;rw[vP,sF];refine⟨a3,by simp,λB b8 E ba c9=>?_⟩;obtain⟨x,n,rfl⟩:=tX.1 b8;simp only[rW,g2l,qK]at ba;obtain⟨bw,f,g,⟨y,X,M⟩,_⟩:=a4 x n;have:bw=q:=ω
         subst this;exact bb y X (by rw[M,G])
       . rcases qS.1 n with n|n
         . exact av x n
         rw[qK.1 n];exact⟨q,A,rfl,⟨e,bk,G.symm⟩,by rw[L5];exact b6,by rw[L5]⟩
       show A4 (P++ [((q:Int),rc (rv e.2))]) (j:Int)= _;rw[Cd,Y j s,ao j s];congr 1;by_cases ay:q=j
       . subst ay;rw[qT rfl,qT G.symm]
       rw[qL ω,qL];intro b7;apply ay;have an:a.getD q 0=a.getD j 0:=G.trans b7;rw[H2 _ _ A,H2 _ _ s]at an;exact(wM aw).1 an
     have u:=qB u;rw[E9 ω]at Y;refine⟨ω,λa2 _ ad ag=>?_⟩;have ag:a2.Pairwise λB E:C8=>¬M7 E.1 B.1<0:=ag
     rw[wv ω];refine⟨⟨O,ω⟩,⟨ω,ω,bh ?_⟩,ω⟩;have ab:(a2.map λe:C8=>e.1).Nodup:=(ad.map _).nodup_iff.2 a3;have b9:asc a2:=by
      unfold List.Nodup at ab;rw[wU]at ab;refine g1b ?_ ag ab;intro B E f g;have:=B4w f;omega
     have n:∀x∈a2,∃q:Nat,q<a.length/\x.1=(q:Int)/\rv x.2≠0/\x.2=rc (rv x.2):=λx n=>by
      obtain⟨q,f,g,_,F,T⟩:=a4 x (ad.mem_iff.1 n);exact⟨q,f,g,F,T⟩
     refine⟨⟨b9,λx ah=>?_⟩,λx ah=>?_,λj s=>?_⟩
     . obtain⟨q,_,_,F,T⟩:=n x ah;exact⟨F,T⟩
     . obtain⟨q,f,g,_⟩:=n x ah;omega
     rw[A5t ad,Y j s];exact bc _ (be _ (E2 s)).1
   have o:=qB o;exact⟨λh=>absurd v h,λ_=>⟨λg=>absurd g ac,λ_=>⟨λg=>absurd g ω,λ_=>⟨⟨rfl,rfl,V.1,λi b=>V.2 i ω⟩,by trivial⟩⟩⟩⟩
 have H:b2=false:=by rw[H];exact rI v
 rw[H];exact⟨λ_=>⟨λ_=>⟨rfl,by trivial⟩,λh=>absurd h v⟩,λh=>(by cases h)⟩
def aA:sr Ih RE:=λx J z=>by
 obtain⟨D,C,_⟩:=x;change List (List D4)at D;change Int at C;obtain⟨B,G,c1,I⟩:(∀l∈D,eV K1 l/\(l.length:Int)=C)/\0<=C/\C<=16384/\D.length<=16384:=z;simp only[RE,iB,SP];refine⟨λp=>0<=p.1/\p.1<=(D.length:Int)/\p.2.1=(D.length:Int)/\p.2.2.1=C/\p.2.2.2.1.length=p.1.toNat/\∀i,i<p.1.toNat->Vx C.toNat (λF=>rv ((D.getD i []).getD F zr)) (p.2.2.2.1.getD i []),λp=>((D.length:Int)-p.1).toNat,⟨qH _,qF _,rfl,rfl,rfl,λi s=>by simp at s⟩,?_⟩;rintro⟨(i:Int),(n:Int),(o:Int),rows,_⟩ _ ⟨a,E,c,j,A,f⟩;change List (List C8)at rows;simp only at a E c j A f|-;refine⟨λh=>?_,λh=>?_⟩
 . have h:=qA h;have y:=G4 (d:=([]:List D4)) a h;obtain⟨r,H⟩:=B _ y;refine⟨⟨a,h⟩,⟨ω,r⟩,?_⟩;rintro⟨v,_⟩ _ g;simp only at g|-;rw[wv ω];rw[(ω:(gx [] D i).length=C.toNat),L3 a h]at g;refine⟨⟨by simp only[qX];omega,by simp only[qX];omega⟩,⟨ω,ω,c,j,by rw[rN,qX];omega,λk t=>?_⟩,ω⟩;show Vx _ _ ((rows++ [v]).getD k []);by_cases u:k<rows.length
   . have b:(rows++ [v]).getD k []=rows.getD k []:=by
      rw[qE,uT u, <-qE]
     rw[b];exact f k ω
   have w:k=i.toNat:=ω
   have b:(rows++ [v]).getD k []=v:=by
    rw[qE,tG ω,(ω:k-rows.length=0)];rfl
   rw[b,w];exact g
 have h:=qB h;exact⟨c,ω,ω,λk t=>f k ω⟩
def FM:sr Bw Tb:=λx B y=>by
 obtain⟨⟨R,C,D⟩,⟨R',C',D'⟩,_⟩:=x;have E:D.length<=9223372036854775807:=B.1.2.2.1;change Int at R C R' C';change List (List C8)at D D';have z:S4 K1 (R,C,D):=y;simp only[Tb,iB,Od];simp only[H5];refine⟨λh=>?_,λh=>?_⟩
 . simp only[uE,rU]at h;refine⟨λa=>(by cases a),λa=>?_⟩;have c:=a.1;simp only[g0i]at c;obtain⟨rfl,rfl,rfl⟩:=c;simp at h
 simp only[rE,rO,tS]at h;obtain⟨⟨rfl,rfl⟩,F⟩:=h;refine⟨λp=>0<=p.1/\p.1<=(D.length:Int)/\D.take p.1.toNat=D'.take p.1.toNat/\∀v∈D.take p.1.toNat,∀e∈v,e.2=rc (rv e.2),λp=>((D.length:Int)-p.1).toNat,⟨qH _,qF _,by simp,by simp⟩,?_⟩;rintro⟨(i:Int),_⟩ _ ⟨f,u,a,c⟩;simp only at f u a c|-;refine⟨λh=>?_,λh=>?_⟩
 . have h:=qA h;have o:=G4 (d:=([]:List C8)) f h;have s:=H3 (d:=([]:List C8)) f h;have t:=H3 (d:=([]:List C8)) (l:=D') f ω;have r:D.take (i+1).toNat=D.take i.toNat++ [gx [] D i]:=by
    rw[(ω:(i+1).toNat=i.toNat+1),rP,s];rfl
   have A:D'.take (i+1).toNat=D'.take i.toNat++ [gx [] D' i]:=by
    rw[(ω:(i+1).toNat=i.toNat+1),rP,t];rfl
   refine⟨⟨f,h⟩,⟨f,ω⟩,z _ o,?_⟩;rintro⟨q,_⟩ _ k;simp only at k|-;refine⟨λb=>⟨λj=>(by cases j),λj=>?_⟩,λb=>?_⟩
   . obtain⟨n,w⟩:=j;simp only[g0i,true_and]at n;subst n;rw[k,rF (⟨rfl,w _ o⟩: _ /\ _)]at b;cases b
   rw[k]at b;have b:gx [] D i=gx [] D' i/\∀e∈gx [] D i,e.2=rc (rv e.2):=qA (by simpa using b);rw[wv ω];refine⟨⟨ω,ω,by rw[r,A,a,b.1],λv g=>?_⟩,ω⟩;rw[r]at g;rcases qS.1 g with g|g
   . exact c v g
   rw[qK.1 g];exact b.2
 have h:=qB h;rw[E9 ω,E9 ω]at a;rw[E9 ω]at c;subst a;exact⟨λ_=>⟨rfl,c⟩,λ_=>by trivial⟩
abbrev S9:=List (Int×Bool)
def S1 (es:S9):Wf:=es.map λe=>e.1
def cZ (k:Int) (v:Bool) (es:S9):(S1 es).Nodup->(S1 (Ej (.int .i64) k v es)).Nodup/\∀i,i∈S1 (Ej (.int .i64) k v es)↔i=k\/i∈S1 es:=by
 intro h;unfold S1 at*;rw[OD];by_cases a:k∈es.map λe=>e.1
 . rw[qT a];exact⟨h,λi=>⟨.inr,λf=>f.elim (λe=>e▸a) id⟩⟩
 rw[qL a];refine⟨sF.2 ⟨h,by simp,λg c j b d=>?_⟩,λi=>?_⟩
 . rw[qK]at b;exact a (b▸d▸c)
 rw[qS,qK];exact Or.comm
def cY (k:Int):∀(es:S9),(S1 es).Nodup->(S1 (Pp (.int .i64) k es)).Nodup/\∀i,i∈S1 (Pp (.int .i64) k es)↔i≠k/\i∈S1 es
 | [],h=>⟨h,λi=>⟨λa=>(by cases a),λa=>(by cases a.2)⟩⟩
 |x::r,h=>by
  have d:=sP.1 (show(x.1::S1 r).Nodup from h);have e:Pp (.int .i64) k (x::r)=if k=x.1 then r else x::Pp (.int .i64) k r:=by
   rw[Pp,Im];by_cases b:k=x.1
   . rw[qT b,rF b];rfl
   rw[qL b,rI b];rfl
  rw[e];by_cases b:k=x.1
  . rw[qT b];refine⟨d.2,λi=>⟨λa=>⟨λe=>d.1 (by rw[<-b, <-e];exact a),qI _ a⟩,λa=>?_⟩⟩;exact(qV.1 (show i∈x.1::S1 r from a.2)).resolve_left λe=>a.1 (by rw[e,b])
  rw[qL b];obtain⟨g,c⟩:=cY k r d.2;refine⟨sP.2 ⟨λl=>d.1 ((c _).1 l).2,g⟩,λi=>?_⟩;constructor
  . intro a;rcases qV.1 (show i∈x.1::S1 (Pp (.int .i64) k r)from a)with rfl|a
    . exact⟨λe=>b e.symm,rB⟩
    exact⟨((c i).1 a).1,qI _ ((c i).1 a).2⟩
  rintro⟨j,f⟩;rcases qV.1 (show i∈x.1::S1 r from f)with rfl|f
  . exact rB
  exact qI _ ((c i).2 ⟨j,f⟩)
def V9 (rows:List (List C8)) (i j:Nat):Rat:=A4 (rows.getD i []) (j:Int)
def B8k (n k:Nat) (p:Nat->Nat) (R:Nat->Nat->Rat) (j:Nat) (es:S9):Prop:=(S1 es).Nodup/\∀i:Int,i∈S1 es↔0<=i/\i<(n:Int)/\(∀a,a<k->i.toNat≠p a)/\R i.toNat j≠0
structure EI (n k:Nat) (S:Nat->Nat) (A:Nat->Nat->Rat) (rest P Q place:Wf) (rows lower:List (List C8)) (cols:List S9):Prop where
 elim:Wt n k A (ix P) (ix Q) (V9 rows) (V9 lower)
 lP:P.length=n
 lQ:Q.length=n
 lpl:place.length=n
 lrows:rows.length=n
 llow:lower.length=n
 lcols:cols.length=n
 P0:∀a,a<k->P.getD a 0=(ix P a:Int)
 Q0:∀a,a<k->Q.getD a 0=(ix Q a:Int)
 pl:∀a,a<k->place.getD (ix Q a) 0=(a:Int)
 rnd:rest.Nodup
 rmem:∀c:Int,c∈rest↔0<=c/\c<(n:Int)/\∀a,a<k->c.toNat≠ix Q a
 can:∀i,i<n->U8 (rows.getD i [])/\(∀e∈rows.getD i [],0<=e.1/\e.1<(n:Int))/\∀j,qs (S k) (A4 (rows.getD i []) j)
 lcan:∀i,i<n->U8 (lower.getD i [])/\(∀e∈lower.getD i [],0<=e.1/\e.1<(k:Int))
 lq:∀i,i<n->∀j,qs (S k) (A4 (lower.getD i []) j)
 fin:∀a,a<k->∀j,qs (S a) (A4 (rows.getD (ix P a) []) j)
 col:∀j:Int,j∈rest->B8k n k (ix P) (V9 rows) j.toNat (cols.getD j.toNat [])
def Ce {P:Wf} {k m:Nat} {v:Int} (h:m≠k):ix (P.set k v) m=ix P m:=by
 unfold ix;rw[qE,sY (Ne.symm h), <-qE]
def F2 {α:Type} {l:List α} {d v:α} {k m:Nat} (h:m≠k):(l.set k v).getD m d=l.getD m d:=by
 rw[qE,sY (Ne.symm h), <-qE]
def C4 {α:Type} {l:List α} {d v:α} {k:Nat} (h:k<l.length):(l.set k v).getD k d=v:=by
 rw[qE,sS h];rfl
def Po {P:Wf} {k:Nat} {v:Int} (h:k<P.length):ix (P.set k v) k=v.toNat:=by
 unfold ix;rw[C4 h]
variable {n k:Nat} {S:Nat->Nat} {A:Nat->Nat->Rat} {rest P Q place:Wf} {rows lower:List (List C8)} {cols:List S9}
def Xc (k:Nat) (p:Nat->Nat) (R:Nat->Nat->Rat) (r c i:Nat):Rat:=if i=r\/∃a,a<k/\i=p a then 0 else R i c/R r c
def A9x {p:Nat->Nat} {R:Nat->Nat->Rat} {r c:Nat} :Xc k p R r c r=0:=qT (.inl rfl)
def A9w {p:Nat->Nat} {R:Nat->Nat->Rat} {r c a:Nat} (h:a<k):Xc k p R r c (p a)=0:=qT (.inr ⟨a,h,rfl⟩)
def VT {p:Nat->Nat} {R:Nat->Nat->Rat} {r c i:Nat} (b:i≠r) (d:∀a,a<k->i≠p a):Xc k p R r c i=R i c/R r c:=qL λf=>f.elim b fun⟨a,ha,e⟩=>d a ha e
def EI.step (h:EI n k S A rest P Q place rows lower cols) {r c:Int} (M:c∈rest) (Y:r∈S1 (cols.getD c.toNat [])) {z:Wf} {t v:List (List C8)} {E:List S9}
 (a4:z.Nodup) (a5:∀x,x∈z↔x∈rest/\x≠c) (a0:t.length=n) (a1:v.length=n) (a2:E.length=n)
 (w:∀i,i<n->U8 (t.getD i [])/\(∀e∈t.getD i [],0<=e.1/\e.1<(n:Int))/\(∀j,qs (S (k+1)) (A4 (t.getD i []) j))/\∀j,A4 (t.getD i []) j=A4 (rows.getD i []) j-Xc k (ix P) (V9 rows) r.toNat c.toNat i*A4 (rows.getD r.toNat []) j)
 (G:∀i,i<n->v.getD i []=if Xc k (ix P) (V9 rows) r.toNat c.toNat i=0 then lower.getD i []else lower.getD i []++ [((k:Int),rc (Xc k (ix P) (V9 rows) r.toNat c.toNat i))])
 (Z:S k<=S (k+1)) (a9:∀i,i<n->qs (S (k+1)) (Xc k (ix P) (V9 rows) r.toNat c.toNat i))
 (a8:∀j:Int,j∈z->B8k n (k+1) (ix (P.set k r)) (V9 t) j.toNat (E.getD j.toNat [])):
 EI n (k+1) S A z (P.set k r) (Q.set k c) (place.set c.toNat k) t v E:=by
 obtain⟨aa,c1,D⟩:=(h.rmem c).1 M;obtain⟨ab,X⟩:=h.col c M;obtain⟨ac,ad,a6,a7⟩:=(X r).1 Y;have o:k<n:=by
  rcases sH k n with N|N
  . exact N
  obtain⟨a,l,e⟩:=Cz (n:=n) (q:=ix Q) (λa l=>h.elim.qlt a ω) (λa b l hb=>h.elim.qinj a b ω ω) (ω:c.toNat<n);exact absurd e.symm (D a ω)
 have y:∀m,m<k->m≠k:=λm s=>tY s
 have R:∀i,i<n->∀m:Nat,V9 v i m=V9 lower i m+if m=k then Xc k (ix P) (V9 rows) r.toNat c.toNat i else 0:=λi d m=>by
  show A4 (v.getD i []) (m:Int)=A4 (lower.getD i []) (m:Int)+ _;rw[G i d];by_cases u:Xc k (ix P) (V9 rows) r.toNat c.toNat i=0
  . rw[qT u,u];split<;>rw[rD]
  rw[qL u,Cd];congr 1;by_cases s:m=k
  . subst s;rw[qT rfl,qT rfl]
  rw[qL s,qL ω]
 have a3:∀i,i<n->V9 lower i k=0:=λi d=>C7 λe f W=>by
  have:=(h.lcan i d).2 e f;omega
 refine⟨h.elim.step (r:=r.toNat) (c:=c.toNat) (fac:=Xc k (ix P) (V9 rows) r.toNat c.toNat) o ω ω a6 D a7 (λm s=>Ce (y m s)) (Po (by rw[h.lP];exact o)) (λm s=>Ce (y m s)) (Po (by rw[h.lQ];exact o)) (λi _ U V=>VT U V) A9x (λa l=>A9w l) (λi j d _=>(w i d).2.2.2 j) (λi m d s=>?_) (λi d=>?_),?_,?_,?_,a0,a1,a2,λa l=>?_,λa l=>?_,λa l=>?_,a4,λx=>?_,λi d=>⟨(w i d).1,(w i d).2.1,(w i d).2.2.1⟩,λi d=>?_,λi d j=>?_,λa l j=>?_,a8⟩
 . rw[R i d,qL (y m s),rD]
 . rw[R i d,qT rfl,a3 i d,sX]
 . rw[qW];exact h.lP
 . rw[qW];exact h.lQ
 . rw[qW];exact h.lpl
 . by_cases g:a=k
   . subst g;rw[C4 (by rw[h.lP];exact o),Po (by rw[h.lP];exact o)];omega
   rw[F2 g,Ce g];exact h.P0 a ω
 . by_cases g:a=k
   . subst g;rw[C4 (by rw[h.lQ];exact o),Po (by rw[h.lQ];exact o)];omega
   rw[F2 g,Ce g];exact h.Q0 a ω
 . by_cases g:a=k
   . subst g;rw[Po (by rw[h.lQ];exact o),C4 (by rw[h.lpl];omega)]
   rw[Ce g,F2 (λe=>D a ω e.symm)];exact h.pl a ω
 . rw[a5,h.rmem];constructor
   . rintro⟨⟨H,I,B⟩,ae⟩;refine⟨H,I,λa l=>?_⟩;by_cases g:a=k
     . subst g;rw[Po (by rw[h.lQ];exact o)];omega
     rw[Ce g];exact B a ω
   rintro⟨H,I,B⟩;refine⟨⟨H,I,λa l=>by have:=B a ω;rwa[Ce (y a l)]at this⟩,λe=>?_⟩;have:=B k (rR _);rw[Po (by rw[h.lQ];exact o),e]at this;exact this rfl
 . rw[G i d];obtain⟨J,F⟩:=h.lcan i d;split
   . exact⟨J,λe f=>by have:=F e f;omega⟩
   rename_i u;refine⟨Fq J u λe f=>(F e f).2,λe f=>?_⟩;rcases qS.1 f with f|f
   . have:=F e f;omega
   rw[qK]at f;subst f;simp only;omega
 . rw[G i d];have T:=H4 (h.lq i d j) Z;split
   . exact T
   rw[Cd];by_cases O:(k:Int)=j
   . rw[qT O,C7 λe f W=>by have:=(h.lcan i d).2 e f;omega,sX];exact a9 i d
   rw[qL O,rD];exact T
 have f:∀i,i<n->Xc k (ix P) (V9 rows) r.toNat c.toNat i=0->A4 (t.getD i []) j=A4 (rows.getD i []) j:=λi d h0=>by
  rw[(w i d).2.2.2 j,h0,sO,tK,wI,rD]
 by_cases g:a=k
 . subst g;rw[Po (by rw[h.lP];exact o),f _ ω A9x];exact(h.can r.toNat ω).2.2 j
 rw[Ce g,f _ (h.elim.plt a ω) (A9w ω)];exact h.fin a ω j
def EI.stuck (h:EI n k S A rest P Q place rows lower cols) {c:Int} (a:c∈rest) (f:cols.getD c.toNat []= []):¬nonsing n A:=by
 obtain⟨l,c1,b⟩:=(h.rmem c).1 a;obtain⟨_,g⟩:=h.col c a;refine h.elim.stuck (c:=c.toNat) ω b λj o d=>rA λi=>?_
 have:=(g (j:Int)).2 ⟨qF _,ω,d,i⟩;rw[f]at this;cases this
def LQ:sr Et AU:=λx _ ad=>by
 obtain⟨(Z:Wf),(I:Int),_⟩:=x;obtain⟨ap,aq⟩:1<=I/\I<=20:=ad;simp only[AU,iB,P6,rT1];refine⟨trivial,?_⟩;rintro⟨⟨tl,ti⟩,_⟩ _ X;simp only at X|-;have af:ti=0:=sD Prod.snd X;subst af;refine⟨⟨ω,qH _,qF _⟩,?_⟩;rintro⟨(t:Int),_⟩ ⟨⟨av,ar⟩,_⟩ _ _ ⟨ah,ai⟩ ⟨a0,a1,a2⟩;simp only at ah ai a0 a1 a2|-;have ag:i64.wrap (1+t)=1+t:=wv ω;simp only[ag];refine⟨⟨ω,ω,ω,ω,a1,by rw[a0];exact a2⟩,?_⟩;rintro⟨⟨(R:Int),(C:Int),D⟩,_⟩ ⟨⟨aw,au⟩,_⟩ _ _ l ⟨a3,a4,a5⟩;change List (List C8)at D;simp only at l a3 a4 a5|-;obtain⟨n,y,l⟩:=l;have Y:A7 (R,C,D):=Z7 l ω ω;have ae:S4 K1 (R,C,D):=Gg l δ λi j _ _=>H4 (y i j) δ
 obtain⟨aa,a8,a9,V⟩:=id l;simp only at aa a8 a9 V;have ak:∀w∈D,F1 w C:=Y.2.2.2.2.2;generalize an:(1+t).toNat=N at*;have ao:(N:Int)=1+t:=ω
 refine⟨λp=>∃u:Nat->Nat->Rat,(∀i j,qs 4 (u i j))/\Ed N N u (p.1,p.2.1,p.2.2.1),⟨⟨ω,a4,by rw[a3];exact a5⟩,?_⟩,?_⟩
 . rintro⟨(a7:Int),_⟩ ⟨ax,_⟩ _ _ _ _;simp only;refine⟨λ_=>⟨⟨ω,qH _,ω,ω⟩,λp=>0<=p.1/\p.1<=R/\fill R.toNat p.1.toNat (λi=>dl C (A4 (D.getD i []))) p.2.1,λp=>(R-p.1).toNat,⟨qH _,ω,B0a rK⟩,?_⟩,λ_=>⟨n,λi j=>H4 (y i j) δ,l⟩⟩;rintro⟨(k:Int),rows,_⟩ _ ⟨c,H,z⟩;change List (List D4)at rows;simp only at c H z|-;have:=z.1;refine⟨λh=>?_,λh=>?_⟩
   . have h:=qA h;have E:k<(D.length:Int):=ω
     have T:=G4 (d:=([]:List C8)) c E;refine⟨⟨c,E⟩,⟨Uy Y ae T,ak _ T,ω,ω⟩,?_⟩;rintro⟨aj,a6,_⟩ _ ⟨A,_⟩;simp only at A|-;rw[wv ω];refine⟨⟨c,ω⟩,⟨ω,ω,JU z c ω ?_⟩,ω⟩;rw[A,Li c E]
   have h:=qB h;have W:rows=els (R,C,D):=VW z ω;have s:rows.length=N:=by rw[W];unfold els;rw[tI,g1o];omega
   refine⟨λp=>0<=p.1/\p.1<=(N:Int)/\p.2.1.length=N/\∀i,i<N->(p.2.1.getD i []).length=N/\∀j,j<N->(p.2.1.getD i []).getD j zr=rc (n i j+if i=j/\i<p.1.toNat then 20 else 0),λp=>((N:Int)-p.1).toNat,⟨qH _,qF _,s,λi b=>?_⟩,?_⟩
   . have g:rows.getD i []=dl C (A4 (D.getD i [])):=by
      rw[W];unfold els;rw[qE,wT,yX (ω:i<(R:Int).toNat)];rfl
     show(rows.getD i []).length=N/\∀j,j<N->(rows.getD i []).getD j zr= _;rw[g,B9z];refine⟨ω,λj f=>?_⟩;rw[B5c zr ω,(V i b).2.2 j f,qL (by simp),rD]
   rintro⟨(k:Int),rows,_⟩ _ ⟨c,H,s,g⟩;change List (List D4)at rows;simp only at c H s g|-;refine⟨λh=>?_,λh=>?_⟩
   . have h:=qA h;have Q:k.toNat<N:=ω
     obtain⟨B,J⟩:=g k.toNat Q;have v:=J k.toNat Q;rw[qL ω,rD]at v;have v:(rows.getD k.toNat []).getD k.toNat dQ=rc (n k.toNat k.toNat):=v;refine⟨⟨c,ω⟩,⟨c,ω⟩,⟨c,by rw[B];omega⟩,trivial,?_⟩;rintro⟨ay,_⟩ _ G;simp only at G|-;rw[v];refine⟨⟨Ik (y _ _) δ,by rw[G,YC];exact Ik (HV δ) δ⟩,?_⟩;rintro⟨aj,_⟩ _ F;simp only at F|-;rw[G,L5,KY]at F;rw[wv ω];refine⟨⟨c,by rw[B];omega⟩,⟨ω,ω,by rw[qW];exact s,λi b=>?_⟩,ω⟩;by_cases O:i=k.toNat
     . subst O;rw[C4 ω];refine⟨by rw[qW];exact B,λj f=>?_⟩;by_cases P:j=k.toNat
       . subst P;rw[C4 ω,F,qT ⟨rfl,ω⟩];rfl
       rw[F2 P,J j f,qL ω,qL ω]
     rw[F2 O];refine⟨(g i b).1,λj f=>?_⟩;rw[(g i b).2 j f];congr 2;by_cases o:i=j/\i<k.toNat
     . rw[qT o,qT ω]
     rw[qL o,qL ω]
   have h:=qB h;have U:∀i j,qs 4 (n i j+if i=j then 20 else 0):=λi j=>by
    refine H4 (Zo (y i j) (k:=1) ?_) δ;split
    . exact HV (a:=20) δ
    exact N7 δ
   have M:∀i j,i<N->j<N->(rows.getD i []).getD j zr=rc (n i j+if i=j then 20 else 0):=λi j b f=>by
    rw[(g i b).2 j f];congr 2;by_cases o:i=j
    . rw[qT o,qT ω]
    rw[qL o,qL ω]
   refine⟨⟨λZ A=>?_,ω,ω,ω⟩,?_⟩
   . obtain⟨i,b,rfl⟩:=T2 [] A;have b:i<N:=ω
     refine⟨λe ab=>?_,by rw[(g i b).1];omega⟩;obtain⟨j,f,rfl⟩:=T2 zr ab;rw[M i j b (by rw[<-(g i b).1];exact f)];exact So (H4 (U i j) δ)
   rintro⟨m,_⟩ _ r;simp only at r|-;rw[s]at r;exact⟨_,U,NX r λi j b f=>by rw[M i j b f,L5]⟩
 rintro⟨a,a6,am,_⟩ _ ⟨u,ac,r⟩;exact⟨N,ω,ω,u,ac,r⟩
def JA:An:= {loop:= [(4,⟨[0,1],[],[(5,false,vI)],[],[]⟩)],plan:= [(6,[3,7],[],true, .done)]}
abbrev Eh:=Wf×Wf×Unit
def Oi(x:Eh):Prop:=let f:Prop:=(x.1=x.2.1);let e:=(0:Int);let b:=(x.2.1.length:Int);let a:=(x.1.length:Int);(iB (decide (a≠b)) (false=decide f) (∃(I:D8->Prop),∃(c: _->Nat),I (e,())/\∀(p:D8),let d:=(i64.wrap (p.1+1),());let g:Prop:=(gx e x.1 p.1≠gx e x.2.1 p.1);(Ty.int i64).wf p.1/\True->I p->(iB (decide (p.1<a)) ((e<=p.1/\p.1<a)/\(e<=p.1/\p.1<b)/\(iB (decide g) (false=decide f) (I d/\c d<c p))) (true=decide f))))
def AO:sr Ac Oi:=λx k _=>by
 obtain⟨a,f,_⟩:=x;have l:a.length<=9223372036854775807:=k.1.1;change Wf at a f;simp only[Oi,iB];refine⟨λh=>?_,λh=>?_⟩
 . have h:=qA h;exact(rI λe=>h (by rw[e])).symm
 have n:a.length=f.length:=by have:=qB h;omega
 refine⟨λp=>0<=p.1/\p.1<=(a.length:Int)/\a.take p.1.toNat=f.take p.1.toNat,λp=>((a.length:Int)-p.1).toNat,⟨qH _,qF _,by simp⟩,?_⟩;rintro⟨(i:Int),_⟩ _ ⟨c,j,g⟩;simp only at c j g|-;refine⟨λh=>?_,λh=>?_⟩
 . have h:=qA h;refine⟨⟨c,h⟩,⟨c,ω⟩,λb=>?_,λb=>?_⟩
   . have b:=qA b;exact(rI λe=>b (by rw[e])).symm
   have b:gx 0 a i=gx 0 f i:=by simpa using b
   rw[wv ω];refine⟨⟨ω,ω,?_⟩,ω⟩;rw[(ω:(i+1).toNat=i.toNat+1),rP,rP,H3 (d:=(0:Int)) c h,H3 (d:=(0:Int)) c ω,g,b]
 have h:=qB h;rw[qQ ω,qQ ω]at g;exact(rF g).symm
def Ea:An:= {loop:= [(4,⟨[0,1,2,3,8],[],[(9,false,vI)],[],[(0, .row tE 105)]⟩),(1,⟨[0,1,2,3],[],[(8,false,vI)],[],[(0, .row tE 105)]⟩)],plan:= [(4,[8,13],[],false, .done),(6,[9,13],[15,17],true, .done)]}
def Dq:An:= {}
def Ir:An:= {join:= [(16,⟨[0,1,2,6],[],[],[],[(0, .row tE 105)]⟩)],loop:= [(2,⟨[0,1,2,6],[],[(7,false,vI),(8,false,vI)],[],[(0, .row tE 105)]⟩),(9,⟨[0,1,2,6],[],[(7,false,vI),(8,false,vI)],[],[(0, .row tE 105)]⟩),(7,⟨[0,1,2],[],[(6,false,vI)],[],[(0, .row tE 105)]⟩)]}
def JP:An:= {}
def JO:An:= {join:= [(14,⟨[3,18,19,20],[],[(4,false,vI)],[],[(0, .row tE 105)]⟩)],loop:= [(8,⟨[3,18,19],[],[(4,false,vI),(20,false,vI)],[],[(0, .row tE 105)]⟩)],plan:= [(10,[8,10],[],true, .done),(11,[8,10],[14],true, .done)]}
def T6(x:List EE×Int×Int×((EE×EE×Unit->Prop)×(EE×EE×Unit->Int))×Unit):Prop:=let m:=(0:Int);let i:=(1:Int);∃(I:LH->Prop),∃(a: _->Nat),I (i64.wrap (x.2.1+i),x.1,())/\∀(p:LH),(Ty.int i64).wf p.1/\IY p.2.1/\True->I p->(iB (decide (p.1<x.2.2.1)) (∃(I_1:LH->Prop),∃(o: _->Nat),I_1 (p.1,p.2.1,())/\∀(n:LH),let l:=(n.2.1.length:Int);let k:=n.1.toNat;let j:=(i64.wrap (p.1+i),n.2.1,());let g:Prop:=(x.2.1<n.1);let d:=(i64.wrap (n.1-i));let h:=(List.set n.2.1 k (List.getD n.2.1 d.toNat D7));let f:=(List.getD n.2.1 k D7,List.getD n.2.1 d.toNat D7,());let e:=(i64.wrap (n.1-i),h.set d.toNat (List.getD n.2.1 k D7),());let c:Prop:=(m<=i64.wrap (n.1-i)/\i64.wrap (n.1-i)<l);let b:Prop:=(m<=n.1/\n.1<l);let d:Prop:=(x.2.2.2.1.2 f<m);(Ty.int i64).wf n.1/\IY n.2.1/\True->I_1 n->(decide g=true->b)/\(decide g=true->c)/\Go.Proofs.Tryz.prog=Go.Proofs.Tryz.prog/\(decide g=true->x.2.2.2.1.1 f)/\((decide g=true->(Ty.int i64).wf (x.2.2.2.1.2 f))->(iB (M0 (decide g) (decide d) false) (c/\b/\b/\(m<=i64.wrap (n.1-i)/\i64.wrap (n.1-i)<(↑h.length:Int))/\I_1 e/\o e<o n) (I j/\a j<a p)))) (True/\List.Perm p.2.1 x.1/\List.take x.2.1.toNat p.2.1=List.take x.2.1.toNat x.1/\List.drop x.2.2.1.toNat p.2.1=List.drop x.2.2.1.toNat x.1/\Xp x.2.2.2.1.2 (List.take (x.2.2.1.toNat-x.2.1.toNat) (List.drop x.2.1.toNat p.2.1))))
def S7(x:List EE×((EE×EE×Unit->Prop)×(EE×EE×Unit->Int))×Unit):Prop:=let a:=(x.1.length:Int);Go.Proofs.Tryz.prog=Go.Proofs.Tryz.prog/\false=false/\((Ze x.2.1.1 fun(z:SR)=>x.2.1.2 z)/\a=a/\List.length x.1<=20)/\∀(r:Unit) (o:Qc),True->tE.sl.wf o.1/\True->True->o.1.Perm x.1/\Xp (fun(z:SR)=>x.2.1.2 z) o.1->True/\o.1.Perm x.1/\Xp x.2.1.2 o.1
abbrev A7t:=Int×Int×List EE×Unit
def Bb(x:List EE×Int×((EE×EE×Unit->Prop)×(EE×EE×Unit->Int))×Unit):Prop:=let h:=(0:Int);∃(I:A7t->Prop),∃(a: _->Nat),I (h,(20:Int),x.1,())/\∀(p:A7t),let g:=(p.2.2.1.length:Int);let d:=p.1.toNat;let b:Prop:=(List.length p.2.2.1<=100000);(Ty.int i64).wf p.1/\(Ty.int i64).wf p.2.1/\IY p.2.2.1/\True->I p->(iB (decide (p.2.1<=x.2.1)) (Go.Proofs.Tryz.prog=Go.Proofs.Tryz.prog/\false=false/\((Ze x.2.2.1.1 fun(z:SR)=>x.2.2.1.2 z)/\h<=p.1/\p.1<=p.2.1/\p.2.1<=g/\b)/\∀(r:Unit) (o:Qc),let e:=(p.2.1,i64.wrap (p.2.1+20),o);True->tE.sl.wf o.1/\True->True->o.1.Perm p.2.2.1/\List.take d o.1=List.take d p.2.2.1/\List.drop p.2.1.toNat o.1=List.drop p.2.1.toNat p.2.2.1/\Xp (fun(z:SR)=>x.2.2.1.2 z) (List.take (Int.toNat p.2.1-Int.toNat p.1) (List.drop d o.1))->I e/\a e<a p) (Go.Proofs.Tryz.prog=Go.Proofs.Tryz.prog/\false=false/\((Ze x.2.2.1.1 fun(z:SR)=>x.2.2.1.2 z)/\h<=p.1/\p.1<=x.2.1/\x.2.1<=g/\b)/\∀(r:Unit) (o:Qc),True->tE.sl.wf o.1/\True->True->o.1.Perm p.2.2.1/\List.take d o.1=List.take d p.2.2.1/\List.drop x.2.1.toNat o.1=List.drop x.2.1.toNat p.2.2.1/\Xp (fun(z:SR)=>x.2.2.1.2 z) (List.take (Int.toNat x.2.1-Int.toNat p.1) (List.drop d o.1))->∃(I:LH->Prop),∃(a: _->Nat),I ((20:Int),o)/\∀(p:LH),(Ty.int i64).wf p.1/\IY p.2.1/\True->I p->(iB (decide (p.1<x.2.1)) (∃(I_1:A7t->Prop),∃(b: _->Nat),I_1 (h,i64.wrap (2*p.1),p.2.1,())/\∀(i:A7t),let f:Prop:=(i64.wrap (i.1+p.1)<x.2.1);(Ty.int i64).wf i.1/\(Ty.int i64).wf i.2.1/\IY i.2.2.1/\True->I_1 i->(iB (decide (i.2.1<=x.2.1)) (Go.Proofs.Tryz.prog=Go.Proofs.Tryz.prog/\false=false/\False/\∀(r:Unit) (o:Qc),let c:=(i.2.1,i64.wrap (i.2.1+i64.wrap (2*p.1)),o);True->tE.sl.wf o.1/\True->True->True->I_1 c/\b c<b i) (∃(J:Qc->Prop),((iB (decide f) (Go.Proofs.Tryz.prog=Go.Proofs.Tryz.prog/\false=false/\False/\∀(r:Unit) (o:Qc),True->tE.sl.wf o.1/\True->True->True->J o) (J (i.2.2.1,()))))/\SP λj=>let f:=(i64.wrap (p.1*2),j);J j->I f/\a f<a p))) (True/\List.Perm p.2.1 x.1/\Xp x.2.2.1.2 p.2.1))))
def Pb(x:SR):Prop:=True/\Ef λr=>r.1=M7 x.1.1 x.2.1.1->r.1=M7 x.1.1 x.2.1.1
def Pa(x:Qc):Prop:=let m:=(1:Int);let g:=(0:Int);let l:=g.toNat;let e:=(x.1.length:Int);True/\Od λr=>r.1=decide (asc x.1)->(iB r.1 ((asc x.1->x.1=x.1)/\(¬asc x.1->asc x.1/\(∀(j:Int),A4 x.1 j=A4 x.1 j)/\List.length x.1<=20/\LE (16777216:Nat) x.1)) ((g<=e/\e<=e/\(↑(64:Nat):Int)*e<=(281474976710656:Int)/\e<=(9223372036854775807:Int))/\∃(b:SR->Prop),∃(a:SR->Int),(∀(y:SR),tE.wf y.1/\tE.wf y.2.1/\True->b y->True/\Ef λz=>z.1=M7 y.1.1 y.2.1.1->false=false/\z.1=a y)/\(Ze b a/\(Le (List.replicate e.toNat D7) x.1).length<=(20:Nat))/\∀(s:Unit) (o:Qc),True->tE.sl.wf o.1/\True->True->o.1.Perm (Le (List.replicate e.toNat D7) x.1)/\Xp a o.1->∃(I:A7t->Prop),∃(c: _->Nat),I (g,g,o)/\∀(p:A7t),let n:=(i64.wrap (p.1-m));let i:=p.1.toNat;let h:=(p.2.2.1.length:Int);let f:=(List.getD p.2.2.1 p.2.1.toNat D7);let d:=(List.getD p.2.2.1 n.toNat D7);let s:Prop:=(p.2.1<(↑o.1.length:Int));let b:Prop:=(d.1=f.1);let a:Prop:=(g<=i64.wrap (p.1-m)/\i64.wrap (p.1-m)<h);(Ty.int i64).wf p.1/\(Ty.int i64).wf p.2.1/\IY p.2.2.1/\True->I p->(iB (decide s) (∃(J:LH->Prop),((g<=p.2.1/\p.2.1<h)/\(decide (g<p.1)=true->a)/\(iB (M0 (decide (g<p.1)) (decide b) false) (a/\(N6 d.2/\N6 f.2)/\P6 λr=>r.1=rc (rv d.2+rv f.2)->a/\J (p.1,List.set p.2.2.1 n.toNat (d.1,r.1),())) ((g<=p.1/\p.1<h)/\J (i64.wrap (p.1+m),List.set p.2.2.1 i f,()))))/\∀(q:LH),let k:=(q.1,i64.wrap (p.2.1+m),q.2.1,());(Ty.int i64).wf q.1/\IY q.2.1/\True->J q->I k/\c k<c p) ((g<=g/\g<=p.1/\p.1<=h)/\(asc x.1->List.drop l (List.take i p.2.2.1)=x.1)/\(¬asc x.1->asc (List.drop l (List.take i p.2.2.1))/\(∀(j:Int),A4 (List.drop l (List.take i p.2.2.1)) j=A4 x.1 j)/\(List.drop l (List.take i p.2.2.1)).length<=(20:Nat)/\LE (16777216:Nat) (List.drop l (List.take i p.2.2.1)))))))
def UR:An:= {loop:= [(2,⟨[0],[],[(3,false,vI)],[],[]⟩)]}
def Wx:An:= {}
def RQ:An:= {loop:= [(3,⟨[6,7],[],[(3,false,vU),(8,false,vI)],[],[]⟩)]}
def JH:An:= {}
def GT:An:= {loop:= [(7,⟨[0,1],[],[(5,false,vI)],[],[]⟩)],plan:= [(9,[3,7],[],true, .done),(11,[3,7],[],true, .done)]}
def RP:An:= {}
def BE(x:Mp):Prop:=let e:=(1:Int);let c:=(x.1.length:Int);let a:=(0:Int);∃(I:D8->Prop),∃(b: _->Nat),I (c,())/\∀(p:D8),let d:=(i64.wrap (p.1-e),());let f:=(decide (gx a x.1 (i64.wrap (p.1-e))=a));(Ty.int i64).wf p.1/\True->I p->(decide (a<p.1)=true->a<=i64.wrap (p.1-e)/\i64.wrap (p.1-e)<c)/\(iB (M0 (decide (a<p.1)) f false) (I d/\b d<b p) ((a<=a/\a<=p.1/\p.1<=c)/\List.drop a.toNat (List.take p.1.toNat x.1)=nc (nv x.1)))
def Hr(x:D8):Prop:=(0:(Ty.int u64).den)<=(32:Int)/\True/\R0 λr=>r.1=nc (nv [u32.wrap x.1,u32.wrap (Int.fdiv x.1 ((2:Int)^Min.min ((32:Int).toNat) u64.bits))])->r.1=nc x.1.toNat
def Wh(x:Mp):Prop:=let c:=(0:Int);let b:=(x.1.length:Int);∃(I:Cr->Prop),∃(d: _->Nat),I (c,c,())/\∀(p:Cr),let a:=(u64.wrap (↑(BitVec.ofInt u64.bits p.1|||BitVec.ofInt u64.bits (u64.wrap (u64.wrap (gx c x.1 p.2.1)*(2:Int)^Min.min (i64.wrap (32*p.2.1)).toNat u64.bits))).toNat:Int),i64.wrap (p.2.1+1),());(Ty.int u64).wf p.1/\(Ty.int i64).wf p.2.1/\True->I p->(iB (decide (p.2.1<b)) ((c<=p.2.1/\p.2.1<b)/\(0:(Ty.int i64).den)<=i64.wrap (32*p.2.1)/\I a/\d a<d p) (p.1=(↑(nv x.1):Int)))
def rT7 (P:Int×Unit->Prop):Prop:=∀r:Int×Unit,IW r.1/\True->P r
def Ot(x:Mp):Prop:=let a:=(18446744073709551616:Nat);True/\R0 λr=>let b:Prop:=((2:Int)<(r.1.length:Int));r.1=nc (nv x.1)->(iB (decide b) ((nv x.1<a->(0:Int)=(↑(nv x.1):Int)/\false=true)/\(a<=nv x.1->false=false)) (List.length r.1<=2/\rT7 λc=>c.1=(↑(nv r.1):Int)->(nv x.1<a->c.1=(↑(nv x.1):Int)/\true=true)/\(a<=nv x.1->true=false)))
def Mw(x:Eh):Prop:=let i:=(1:Int);let e:=(nv x.1);let d:=(nv x.2.1);let c:=(0:Int);True/\R0 λr=>let a:=(r.1.length:Int);r.1=nc e->True/\R0 λj=>let b:=(j.1.length:Int);j.1=nc d->(iB (decide (a≠b)) ((iB (decide (a<b)) ((-1:Int)=Da e d) (i=Da e d))) (∃(I:D8->Prop),∃(g: _->Nat),I (i64.wrap (a-i),())/\∀(p:D8),let k:Prop:=(gx c j.1 p.1<gx c r.1 p.1);let h:Prop:=(gx c r.1 p.1<gx c j.1 p.1);let f:=(i64.wrap (p.1-i),());(Ty.int i64).wf p.1/\True->I p->(iB (decide (c<=p.1)) ((c<=p.1/\p.1<a)/\(c<=p.1/\p.1<b)/\(iB (decide h) ((-1:Int)=Da e d) ((c<=p.1/\p.1<a)/\(c<=p.1/\p.1<b)/\(iB (decide k) (i=Da e d) (I f/\g f<g p))))) (c=Da e d))))
def Wg(x:Mp):Prop:=True/\R0 λr=>let a:=(r.1.length:Int);r.1=nc (nv x.1)->((0:Int)<=a/\a<=a/\(↑(4:Nat):Int)*a<=(281474976710656:Int)/\a<=(9223372036854775807:Int))/\Le (List.replicate a.toNat (0:Int)) r.1=nc (nv x.1)
def LW:sr Cf BE:=λx k _=>by
 obtain⟨l,_⟩:=x;have t:l.length<=9223372036854775807:=k.1.1;have o:B4 l:=A5 k.1.2;change Wf at l;simp only[BE,iB];refine⟨λp=>0<=p.1/\p.1<=(l.length:Int)/\∀i x,p.1.toNat<=i->l[i]? =some x->x=0,λp=>p.1.toNat,⟨qF _,qH _,λi x j a=>?_⟩,?_⟩
 . rw[rT (by simpa using j)]at a;cases a
 rintro⟨(n:Int),_⟩ _ ⟨c,f,b⟩;simp only at c f b|-;refine⟨λh=>?_,λh=>?_,λh=>?_⟩
 . have h:=qA h;rw[wv ω];exact⟨ω,ω⟩
 . rw[J4]at h;simp only[qC,rU]at h;obtain⟨s,g⟩:=h;rw[wv ω]at g|-;refine⟨⟨ω,ω,λi x j a=>?_⟩,ω⟩;by_cases r:i=(n-1).toNat
   . subst r;rw[H3 (d:=(0:Int)) ω ω]at a;cases a;exact g
   exact b i x ω a
 refine⟨⟨qH _,c,f⟩,?_⟩;show(l.take n.toNat).drop 0= _;rw[tO];refine A3y o ω b ?_;rw[J4]at h;simp only[wL,rO]at h;rcases h with h|h
 . exact .inl ω
 by_cases u:n=0
 . exact .inl ω
 rw[wv ω]at h;refine .inr ⟨gx 0 l (n-1),?_,h⟩;have:=H3 (d:=(0:Int)) (l:=l) (i:=n-1) ω ω;rw[<-this];congr 1;omega
def Qe:sr R4 Hr:=λx c _=>by
 obtain⟨(v:Int),_⟩:=x;have b:u64.min<=v/\v<=u64.max:=c.1;rw[jG,DW]at b;simp only[Hr,R0];refine⟨δ,trivial,?_⟩;rintro⟨r,_⟩ _ a;simp only at a|-;rw[a];congr 1;rw[show Min.min (Int.toNat 32) u64.bits=32 from rfl];simp only[nv,Co];rw[sJ _ δ,show(2:Int)^32=4294967296 from rfl];omega
def IH:sr Dg Wh:=λx u s=>by
 obtain⟨l,_⟩:=x;have n:B4 l:=A5 u.1.2;have y:l.length<=2:=s;change Wf at l;simp only[Wh,iB];refine⟨λp=>0<=p.2.1/\p.2.1<=(l.length:Int)/\p.1=(nv (l.take p.2.1.toNat):Int),λp=>((l.length:Int)-p.2.1).toNat,⟨qH _,qF _,rfl⟩,?_⟩;rintro⟨(v:Int),(i:Int),_⟩ z ⟨f,o,d⟩;simp only at f o d|-;refine⟨λh=>?_,λh=>?_⟩
 . have h:=qA h;have g:=Uf n f h;have j:=Gi (l:=l.take i.toNat) λx hx=>n x (rQ hx)
   rw[qY,tD ω]at j;have t:=KE f h;rw[wv (a:=32*i) ω,wv (a:=i+1) ω,X7 g.1 ω];have r:Min.min (32*i).toNat u64.bits=32*i.toNat:=by
    show Min.min (32*i).toNat 64= _;omega
   rw[r];have c:i.toNat=0\/i.toNat=1:=ω
   refine⟨⟨f,h⟩,by show(0:Int)<=32*i;omega,?_⟩;have w:u64.wrap (((BitVec.ofInt 64 v|||BitVec.ofInt 64 (u64.wrap (gx 0 l i*2^(32*i.toNat)))).toNat:Nat):Int)=(nv (l.take (i+1).toNat):Int):=by
    rw[t];generalize gx 0 l i=b at g;rcases c with c|c
    . rw[c]at j|-;have A:v=0:=by rw[d,c];simp[nv]
      rw[X7 (a:=b*2^(32*0)) ω ω,XS (v:=v) (b:=b) (k:=32*0) ω ω g.1 ω ω,X7 ω ω];simp[nv];omega
    rw[c]at j|-;rw[c]at d;rw[X7 (a:=b*2^(32*1)) ω ω,XS (v:=v) (b:=b) (k:=32*1) ω ω g.1 ω ω,X7 ω ω];omega
   exact⟨⟨ω,ω,w⟩,ω⟩
 have h:=qB h;rw[E9 ω]at d;exact d
def BD:sr Ag Ot:=λx f _=>by
 obtain⟨(l:Wf),_⟩:=x;simp only[Ot,iB,R0,rT7];refine⟨trivial,?_⟩;rintro⟨r,_⟩ _ a;simp only at a|-;subst a;refine⟨λh=>?_,λh=>?_⟩
 . have h:=qA h;have:=B1w (k:=2) (n:=nv l) ω;refine⟨λc=>?_,λ_=>trivial⟩;rw[show(4294967296:Nat)^2=18446744073709551616 from rfl]at this;omega
 have h:=qB h;have b:(nc (nv l)).length<=2:=ω
 refine⟨b,?_⟩;rintro⟨r,_⟩ _ a;simp only at a|-;have d:=rH (Hy (nv l)) (rZ δ b);rw[F7]at a;refine⟨λ_=>⟨a,trivial⟩,λc=>?_⟩;rw[show(4294967296:Nat)^2=18446744073709551616 from rfl]at d;omega
def Xw:sr X2 Mw:=λx A _=>by
 obtain⟨(b:Wf),(c:Wf),_⟩:=x;simp only[Mw,iB,R0];refine⟨trivial,?_⟩;rintro⟨r,_⟩ ⟨⟨y,_⟩,_⟩ o;simp only at o y|-;subst o;refine⟨trivial,?_⟩;rintro⟨s,_⟩ ⟨⟨z,_⟩,_⟩ t;simp only at t z|-;subst t;have k:=K8 (nv b);have l:=K8 (nv c);refine⟨λj=>⟨λh=>?_,λh=>?_⟩,λj=>?_⟩
 . have h:=qA h;exact(Nu (DF ω)).symm
 . have h:=qB h;have j:=qA j;exact(TP (DF ω)).symm
 have n:(nc (nv b)).length=(nc (nv c)).length:=by have:=qB j;omega
 have u:=F7 (nv b);have v:=F7 (nv c);generalize nc (nv b)=r at*;generalize nc (nv c)=s at*;rw[<-u, <-v];refine⟨λp=> -1<=p.1/\p.1<(r.length:Int)/\r.drop (p.1+1).toNat=s.drop (p.1+1).toNat,λp=>(p.1+1).toNat,?_,?_⟩
 . rw[wv ω];refine⟨ω,ω,?_⟩;rw[sG ω,sG ω]
 rintro⟨(i:Int),_⟩ _ ⟨w,d,a⟩;simp only at w d a|-;refine⟨λh=>?_,λh=>?_⟩
 . have h:=qA h;refine⟨⟨h,d⟩,⟨h,ω⟩,λg=>?_,λg=>⟨⟨h,d⟩,⟨h,ω⟩,λf=>?_,λf=>?_⟩⟩
   . exact(Nu (iH k l n h d a (qA g))).symm
   . exact(TP (iH l k n.symm h ω a.symm (qA f))).symm
   have g:=qB g;have f:=qB f;rw[wv ω];refine⟨⟨ω,ω,?_⟩,ω⟩;rw[(ω:i-1+1=i),W3 h d,W3 h ω,a,(ω:gx 0 r i=gx 0 s i)]
 have h:=qB h;rw[(ω:(i+1).toNat=0),tO,tO]at a;rw[a,dK]
def NK {α:Type} {l:List α} {d:α} :Le (List.replicate ((l.length:Nat):Int).toNat d) l=l:=by
 unfold Le;rw[rK,qO,vF,sG (by simp),vY]
def IG:sr Df Wg:=λx d c=>by
 obtain⟨l,_⟩:=x;have b:B4 l:=A5 d.1.2;have g:l.length<=35184372088832:=c;simp only[Wg,R0];refine⟨trivial,?_⟩;rintro⟨r,_⟩ _ a;simp only at a|-;have f:r.length<=l.length:=by rw[a];exact C9 b
 refine⟨⟨ω,qH _,by simp;omega,ω⟩,?_⟩;rw[NK,a]
def VG {a b:List C8} (h:a.Perm b) (j:Int):A4 a j=A4 b j:=by
 induction h with
 |nil=>rfl
 |cons e _ c=>rw[A4,A4,c]
 |swap e f l=>simp only[A4];rw[<-xC, <-xC,xY (if f.1=j then rv f.2 else 0)]
 |trans _ _ c d=>rw[c,d]
def VF (e:C8) (j:Int):A4 [e] j=if e.1=j then rv e.2 else 0:=by
 simp only[A4,rD]
structure MN (o:List C8) (n i:Int) (c:List C8):Prop where
 n0:0<=n
 ni:n<=i
 il:i<=(o.length:Int)
 cl:c.length=o.length
 rest:∀j:Nat,i.toNat<=j->c.getD j D7=o.getD j D7
 ord:asc (c.take n.toNat)
 cm:∀j,A4 (c.take n.toNat) j=A4 (o.take i.toNat) j
 le:∀e∈c.take n.toNat,∃y∈o.take i.toNat,y.1=e.1
 szs:∀e∈c.take n.toNat,sz (65537*i.toNat) e.2/\Xe e.2
def MN.init (o:List C8):MN o 0 0 o:=⟨qH _,qH _,qF _,rfl,λ_ _=>rfl,List.Pairwise.nil,λ_=>rfl,λe a=>(by cases a),λe a=>(by cases a)⟩
def GC {α:Type} {l:List α} {k:Nat} {x:α} (h:k<l.length):(l.set k x).take (k+1)=l.take k++ [x]:=by
 rw[rP,yY (qU k),sS h];rfl
def Vk {α:Type} {l:List α} {k:Nat} (d:α) (h:k<l.length):l.take (k+1)=l.take k++ [l.getD k d]:=by
 rw[rP,qN h,H2 _ _ h];rfl
variable {o c:List C8} {n i:Int}
def MN.bound (h:MN o n i c) (j:o.Pairwise λa b=>a.1<=b.1) (r:i<(o.length:Int)):∀e∈c.take n.toNat,e.1<=(o.getD i.toNat D7).1:=λe f=>by
 obtain⟨y,l,d⟩:=h.le e f;obtain⟨k,g,rfl⟩:=vG.1 l;rw[qY]at g;rw[g1n]at d;have s:=h.n0;have t:=h.ni;have:=uF.1 j k i.toNat ω ω ω;rw[H2 _ _ (ω:i.toNat<o.length), <-d];exact this
def MN.push (h:MN o n i c) (B:o.Pairwise λa b=>a.1<=b.1) (F:LE 65536 o) (x:Xd o) (v:i<(o.length:Int)) (l:0<n->(c.getD (n-1).toNat D7).1≠(o.getD i.toNat D7).1):MN o (n+1) (i+1) (c.set n.toNat (o.getD i.toNat D7)):=by
 have z:=h.n0;have M:=h.ni;have u:=h.cl;have j:=h.bound B v;have f:(c.set n.toNat (o.getD i.toNat D7)).take (n+1).toNat=c.take n.toNat++ [o.getD i.toNat D7]:=by
  rw[(ω:(n+1).toNat=n.toNat+1)];exact GC ω
 have r:o.take (i+1).toNat=o.take i.toNat++ [o.getD i.toNat D7]:=by
  rw[(ω:(i+1).toNat=i.toNat+1)];exact Vk D7 ω
 have y:∀e∈c.take n.toNat,e.1<(o.getD i.toNat D7).1:=λe d=>by
  have H:=j e d;have A:0<n:=by
   rcases Int.lt_or_eq_of_le z with g|g
   . exact g
   rw[<-g]at d;cases d
  have w:(n-1).toNat<c.length:=ω
  have s:c.take n.toNat=c.take (n-1).toNat++ [c.getD (n-1).toNat D7]:=by
   rw[(ω:n.toNat=(n-1).toNat+1)];exact Vk D7 w
  have J:=j (c.getD (n-1).toNat D7) (by rw[s];simp);have l:=l A;have has:=h.ord;rw[s]at d has;rcases qS.1 d with d|d
  . have:=(tF.1 has).2.2 e d _ (qK.2 rfl);omega
  rw[qK]at d;subst d;omega
 have k:o.getD i.toNat D7∈o:=E2 ω;refine⟨ω,ω,ω,by rw[qW];exact u,λt I=>?_,?_,λt=>?_,λe d=>?_,λe d=>?_⟩
 . rw[qE,sY ω, <-qE];exact h.rest t ω
 . rw[f];exact kQ h.ord y
 . rw[f,r,R2,R2,h.cm]
 . rw[f]at d;rw[r];rcases qS.1 d with d|d
   . obtain⟨G,D,E⟩:=h.le e d;exact⟨G,sE _ D,E⟩
   rw[qK]at d;subst d;exact⟨_,tA _ (qK.2 rfl),rfl⟩
 rw[f]at d;rcases qS.1 d with d|d
 . exact⟨G7 (h.szs e d).1 ω,(h.szs e d).2⟩
 rw[qK]at d;subst d;exact⟨G7 (F _ k) ω,x _ k⟩
def MN.add (h:MN o n i c) (N:LE 65536 o) (F:Xd o) (V:i<(o.length:Int)) (Y:0<n) (l:(c.getD (n-1).toNat D7).1=(o.getD i.toNat D7).1):sz (65537*i.toNat) (c.getD (n-1).toNat D7).2/\sz 65536 (o.getD i.toNat D7).2/\MN o n (i+1) (c.set (n-1).toNat ((c.getD (n-1).toNat D7).1,rc (rv (c.getD (n-1).toNat D7).2+rv (o.getD i.toNat D7).2))):=by
 have Z:=h.ni;have E:=h.cl;have r:(n-1).toNat<c.length:=ω
 have v:c.take n.toNat=c.take (n-1).toNat++ [c.getD (n-1).toNat D7]:=by
  rw[(ω:n.toNat=(n-1).toNat+1)];exact Vk D7 r
 have u:o.take (i+1).toNat=o.take i.toNat++ [o.getD i.toNat D7]:=by
  rw[(ω:(i+1).toNat=i.toNat+1)];exact Vk D7 ω
 have G:c.getD (n-1).toNat D7∈c.take n.toNat:=by rw[v];simp
 have t:o.getD i.toNat D7∈o:=E2 ω;obtain⟨z,R⟩:=h.szs _ G;have A:=N _ t;have T:=F _ t;refine⟨z,A,?_⟩;have has:=h.ord;have k:=h.cm;have s:=h.le;have f:=h.szs;rw[v]at has k s f;have I:=h.rest;generalize X:c.getD (n-1).toNat D7=y at*;generalize o.getD i.toNat D7=g at*;have d:∀x:C8,(c.set (n-1).toNat x).take n.toNat=c.take (n-1).toNat++ [x]:=λx=>by
  rw[(ω:n.toNat=(n-1).toNat+1)];exact GC r
 obtain⟨O,a0,P⟩:=tF.1 has;have H:qs (65537*(i+1).toNat) (rv y.2+rv g.2):=by
  have a:1<=i.toNat:=ω
  exact H4 (Zo (Ly R z ω) (Ly T A δ)) ω
 refine⟨h.n0,ω,ω,by rw[qW];exact E,λw W=>?_,?_,λw=>?_,λe b=>?_,λe b=>?_⟩
 . rw[qE,sY ω, <-qE];exact I w ω
 . rw[d];exact tF.2 ⟨O,wC _ _,λB D U j=>by rw[qK]at j;subst j;exact P B D y (qK.2 rfl)⟩
 . rw[d,u,R2,R2, <-k,R2,VF,VF,VF];simp only;rw[L5,l,xC];congr 1;split
   . rfl
   rw[rD]
 . rw[d]at b;rw[u];rcases qS.1 b with a|a
   . obtain⟨Q,J,M⟩:=s e (sE _ a);exact⟨Q,sE _ J,M⟩
   rw[qK]at a;subst a;exact⟨g,tA _ (qK.2 rfl),l.symm⟩
 rw[d]at b;rcases qS.1 b with a|a
 . exact⟨G7 (f e (sE _ a)).1 ω,(f e (sE _ a)).2⟩
 rw[qK]at a;subst a;exact⟨So H,gW _⟩
def BS:sr Av Pb:=λx a _=>by
 simp only[Pb,Ef];exact⟨trivial,λr _ h=>h⟩
def Cs:sr F8 T6:=λx a0 O=>by
 obtain⟨l,a,b,⟨R,g⟩,_⟩:=x;change List (Int×(Bool×Wf)×Wf)at l;change Int at a b;obtain⟨⟨N,Q,has⟩,U,V,W,Y⟩:Ze R g/\0<=a/\a<=b/\b<=(l.length:Int)/\l.length<=100000:=O;simp only[T6,iB];have P:∀x y z:C8,¬g (y,x,())<0->¬g (z,y,())<0->¬g (z,x,())<0:=λx y z v f=>Q z y x f v
 refine⟨λp=>a+1<=p.1/\(p.1<=b\/p.1=a+1)/\p.2.1.Perm l/\p.2.1.take a.toNat=l.take a.toNat/\p.2.1.drop b.toNat=l.drop b.toNat/\(∀s t,a.toNat<=s->s<t->t<p.1.toNat->t<b.toNat->¬g (p.2.1.getD t D7,p.2.1.getD s D7,())<0),λp=>(b-p.1).toNat,?_,?_⟩
 . rw[wv ω];refine⟨qH _, .inr rfl,wQ _,rfl,rfl,λs t v f k w=>?_⟩;change t<(a+1).toNat at k;omega
 rintro⟨(i:Int),m,_⟩ _ ⟨M,v,f,k,w,E⟩;change List (Int×(Bool×Wf)×Wf)at m;simp only at M v f k w E|-;have Z:=f.length_eq;refine⟨λh=>?_,λh=>?_⟩
 . have h:=qA h;refine⟨λp=>a<=p.1/\p.1<=i/\p.2.1.Perm l/\p.2.1.take a.toNat=l.take a.toNat/\p.2.1.drop b.toNat=l.drop b.toNat/\B0u (λx y=>¬g (y,x,())<0) D7 p.2.1 a.toNat i.toNat p.1.toNat,λp=>(p.1-a).toNat,⟨by show a<=i;omega,qH _,f,k,w,A0p λs t n o r=>E s t n o r ω⟩,?_⟩;rintro⟨(j:Int),y,_⟩ _ ⟨I,J,u,A,B,D⟩;change List (Int×(Bool×Wf)×Wf)at y;simp only at I J u A B D|-;have a1:=u.length_eq;have H:i64.wrap (j-1)=j-1:=wv ω;rw[H];have G:(j-1).toNat=j.toNat-1:=ω
   rw[G];refine⟨λF=>⟨ω,ω⟩,λF=>?_,trivial,λ_=>N _ _,λ_=>⟨λc=>?_,λc=>?_⟩⟩
   . have F:=qA F;exact⟨ω,ω⟩
   . rw[J4]at c;simp only[qC,rU]at c;obtain⟨a3,T⟩:=c;refine⟨⟨ω,ω⟩,⟨ω,ω⟩,⟨ω,ω⟩,⟨ω,by rw[qW];omega⟩,⟨ω,ω,?_,?_,?_,?_⟩,ω⟩
     . exact(A2b (d:=D7) (l:=y) (j:=j.toNat) ω).trans u
     . exact(A2c (d:=D7) (l:=y) ω).trans A
     . exact(A2a (d:=D7) (l:=y) ω).trans B
     exact A6c D ω ω ω (has _ _ T)
   rw[J4]at c;simp only[wL,rO]at c;rw[wv ω];refine⟨⟨ω, .inl ω,u,A,B,λs t n o r a2=>?_⟩,ω⟩;refine B0v D P ω (λX=>?_) s t n o (by change t<(i+1).toNat at r;omega);rcases c with c|c
   . omega
   exact c
 have h:=qB h;refine⟨trivial,f,k,w,?_⟩;unfold Xp;have:=XV (q:=λx y=>¬g (y,x,())<0) (d:=D7) (l:=m) (a:=a.toNat) (b:=b.toNat) ω λs t n o r=>E s t n o ω r
 exact this
def Hg:sr H9 Bb:=λx P j=>by
 obtain⟨l,n,⟨H,c⟩,_⟩:=x;change List (Int×(Bool×Wf)×Wf)at l;change Int at n;obtain⟨v,O,M⟩:Ze H c/\n=(l.length:Int)/\l.length<=20:=j;simp only[Bb,iB,SP];refine⟨λp=>(p.1=0/\p.2.1=20/\p.2.2.1=l)\/(p.1=20/\p.2.1=40/\n=20/\p.2.2.1.Perm l/\Xp c p.2.2.1),λp=>(40-p.2.1).toNat, .inl ⟨rfl,rfl,rfl⟩,?_⟩;rintro⟨(b:Int),(s:Int),m,_⟩ _ i;change List (Int×(Bool×Wf)×Wf)at m;simp only at i|-;refine⟨λh=>?_,λh=>?_⟩
 . have h:=qA h;obtain⟨rfl,rfl,rfl⟩:b=0/\s=20/\m=l:=by
    rcases i with t| ⟨_,t,_⟩
    . exact t
    omega
   refine⟨trivial,trivial,⟨v,qH _,ω,ω,ω⟩,?_⟩;rintro I ⟨o,_⟩ _ _ _ ⟨d,f,r,a⟩;simp only at d f r a|-;rw[wv ω];refine⟨.inr ⟨by trivial,by trivial,ω,d,?_⟩,by simp⟩;have D:=d.length_eq;change Xp c ((o.drop 0).take (20-0))at a;rw[tO,qQ ω]at a;exact a
 have h:=qB h;have B:0<=b/\b<=n/\m.Perm l/\(b=0\/b=n/\Xp c m):=by
  rcases i with⟨rfl,rfl,rfl⟩ | ⟨rfl,rfl,J,j,t⟩
  . exact⟨qH _,ω,wQ _, .inl rfl⟩
  exact⟨δ,ω,j, .inr ⟨ω,t⟩⟩
 obtain⟨F,G,A,g⟩:=B;have N:=A.length_eq;refine⟨trivial,trivial,⟨v,F,G,ω,ω⟩,?_⟩;rintro I ⟨o,_⟩ _ _ _ ⟨d,f,r,a⟩;simp only at d f r a|-;have D:=d.length_eq;have E:Xp c o:=by
  rcases g with g| ⟨g,t⟩
  . change Xp c ((o.drop b.toNat).take (n.toNat-b.toNat))at a;rw[g]at a;change Xp c ((o.drop 0).take (n.toNat-0))at a;rw[tO,qQ ω]at a;exact a
  rw[qQ ω,qQ ω]at f;rw[f];exact t
 refine⟨λp=>p.1=20/\p.2.1.Perm l/\Xp c p.2.1,λ_=>0,⟨rfl,d.trans A,E⟩,?_⟩;rintro⟨k,Q,_⟩ _ ⟨w,y,z⟩;simp only at w y z|-;subst w;refine⟨λu=>?_,λ_=>⟨trivial,y,z⟩⟩;have u:=qA u;omega
def Ck:sr F4 S7:=λx g c=>by
 obtain⟨l,⟨d,f⟩,_⟩:=x;obtain⟨b,a⟩:Ze d f/\l.length<=20:=c;simp only[S7];refine⟨trivial,trivial,⟨b,trivial,a⟩,?_⟩;rintro r ⟨o,_⟩ _ _ _ h;exact⟨trivial,h⟩
def nO:Ze (λ_=>True) (λz=>M7 z.1.1 z.2.1.1):=by
 refine⟨λ_ _=>trivial,λa b c=>?_,λa b=>?_⟩
 . simp only[M7];split<;>split<;>split<;>(try split)<;>(try split)<;>(try split)<;>omega
 simp only[M7];split<;>split<;>(try split)<;>(try split)<;>omega
def A9e {a b:Int} :¬M7 a b<0↔b<=a:=by
 unfold M7;split
 . omega
 split<;>omega
def BR:sr Au Pa:=λx V r=>by
 obtain⟨t,_⟩:=x;have Q:Xd t:=Ue V.1.2;change List C8 at t;have r:UX t:=r;simp only[Pa,iB,P6,Od,Ef];refine⟨trivial,?_⟩;rintro⟨X,_⟩ _ B;simp only at B|-;subst B;refine⟨λh=>⟨λ_=>by trivial,λu=>absurd (qA h) u⟩,λh=>?_⟩;have w:=qB h;obtain⟨P,s⟩:=r.resolve_left w;refine⟨⟨ω,ω,ω,ω⟩,λ_=>True,λz=>M7 z.1.1 z.2.1.1,?_,⟨nO,?_⟩,?_⟩
 . rintro⟨k,l,_⟩ _ _;refine⟨trivial,?_⟩;rintro⟨z,_⟩ _ s;exact⟨(by trivial),s⟩
 . rw[NK];exact P
 rintro X ⟨(o:List C8),_⟩ _ _ _ ⟨j,E⟩;simp only[NK]at j E|-;have a4:=j.length_eq;have U:o.Pairwise λk l=>k.1<=l.1:=E.imp λ{k l} b=>A9e.1 b
 have D:LE 65536 o:=λe f=>s e (j.mem_iff.1 f)
 have v:Xd o:=λe f=>Q e (j.mem_iff.1 f)
 refine⟨λp=>MN o p.1 p.2.1 p.2.2.1,λp=>((o.length:Int)-p.2.1).toNat,MN.init o,?_⟩;rintro⟨(n:Int),(i:Int),(c:List C8),_⟩ _ a;simp only at a|-;have I:=a.n0;have a2:=a.ni;have u:=a.il;have N:=a.cl;have g:(c.length:Int)=(o.length:Int):=by rw[N]
 refine⟨λd=>?_,λd=>?_⟩
 . have d:=qA d;have M:c.getD i.toNat D7=o.getD i.toNat D7:=a.rest _ (qU _);have O:0<=i/\i<(c.length:Int):=⟨ω,by rw[g];exact d⟩;have R:i64.wrap (n-1)=n-1:=wv ω;rw[R,M];refine⟨λp=>MN o p.1 (i+1) p.2.1,⟨O,λb=>?_,λb=>?_,λb=>?_⟩,?_⟩
   . have b:=qA b;exact⟨ω,by rw[g];omega⟩
   . rw[J4]at b;simp only[qC,rU]at b;obtain⟨G,H⟩:=b;have y:0<=n-1/\n-1<(c.length:Int):=⟨ω,by rw[g];omega⟩;obtain⟨Y,Z,a0⟩:=a.add D v d G H;refine⟨y,⟨R8 (G7 Y (ω:65537*i.toNat<=2199023255552)) (qU _),R8 Z δ⟩,?_⟩;rintro⟨(q:D4),_⟩ _ A;simp only at A|-;rw[A];exact⟨y,a0⟩
   . have T:0<n->(c.getD (n-1).toNat D7).1≠(o.getD i.toNat D7).1:=λhn f=>by
      rw[J4,rF hn,rF f]at b;cases b
     rw[wv ω];exact⟨⟨ω,by rw[g];omega⟩,a.push U D v d T⟩
   rintro⟨a5,a1,_⟩ _ J;simp only;rw[wv ω];exact⟨J,ω⟩
 have d:=qB d;have a3:i=(o.length:Int):=ω
 refine⟨⟨qH _,I,by rw[g];omega⟩,λh=>absurd h w,λ_=>?_⟩;have F:List.drop (Int.toNat 0) (List.take n.toNat c)=c.take n.toNat:=rfl;rw[F];refine⟨a.ord,λW=>?_,?_,λe f=>G7 (a.szs e f).1 ω⟩
 . rw[a.cm,E9 ω];exact VG j W
 rw[qY];omega
def kB:An:= {}
def kC:An:= {}
def JD:An:= {plan:= [(1,[3,7],[],true, .done),(4,[3,7,10],[],true, .done)]}
def MR:An:= {}
def EB:An:= {join:= [(12,⟨[0,1,2,6,7,8,9,10,11],[1,2,3],[],[(0,83,[.val qg, .val qb]),(4,58,[.val .bool, .val qa, .val qa])],[]⟩)],loop:= [(7,⟨[0,1,2,6,7,8],[1,2],[(9,false,[.own tQ 58]),(10,false,vI)],[(0,83,[.val qg, .val qb])],[]⟩),(3,⟨[0,1,2,6],[1],[(7,false,[.own ql 63]),(8,false,vI)],[(0,83,[.val qg, .val qb])],[]⟩)]}
def QP(x:Cr):Prop:=let b:=(u64.wrap x.2.1);let a:=(u64.wrap x.1);u64.wrap x.2.1≠0/\(0<x.2.1->(0:Int)<=i64.wrap (a.tmod b)/\i64.wrap (a.tmod b)<x.2.1/\i64.wrap (a.tmod b)=a.tmod x.2.1)
def oW(x:Mp):Prop:=(x.1,(0:Int))=(x.1,(0:Int))
abbrev C4e:=(Wf×Int)×Int×Unit
def Ol(x:C4e):Prop:=let e:=(1:Int);let d:=(↑x.1.1.length:Int);let c:=(x.1.1.length:Int);let b:=(0:Int);let a:=(i64.wrap (x.1.2+e)-e);(iB (decide (c<=x.1.2)) ((b<=b/\b<x.2.1)/\x.1.1=x.1.1/\b<=x.1.2/\x.1.2<=d) ((b<=i64.wrap a/\i64.wrap a<c)/\b<x.2.1/\Ef λr=>(b<x.2.1->b<=r.1/\r.1<x.2.1/\r.1=(u64.wrap (gx b x.1.1 (i64.wrap a))).tmod x.2.1)->(b<=r.1/\r.1<x.2.1)/\x.1.1=x.1.1/\b<=i64.wrap (x.1.2+e)/\i64.wrap (x.1.2+e)<=d))
def Sv(x:PH):Prop:=let b:=(x.1.1.length:Int);let a:=(0:Int);(a<(13:Int)/\a<=x.1.2/\x.1.2<=b)/\∀(r:D8) (o:PH),let c:=(o.1.1.length:Int);N8 r.1/\True->((Ty.int i64).sl.pair (Ty.int i64)).wf o.1/\True->a<=r.1/\r.1<13->o.1.1=x.1.1/\a<=o.1.2/\o.1.2<=b->(a<(4:Int)/\a<=o.1.2/\o.1.2<=c)/\∀(e:D8) (d:PH),N8 e.1/\True->((Ty.int i64).sl.pair (Ty.int i64)).wf d.1/\True->a<=e.1/\e.1<4->d.1.1=o.1.1/\a<=d.1.2/\d.1.2<=c->True/\P6 λf=>f.1=rc (Rat.divInt (i64.wrap (r.1-6)) (i64.wrap (1+e.1)))->gF f.1/\d.1.1=x.1.1/\a<=d.1.2/\d.1.2<=(↑x.1.1.length:Int)
abbrev C4y:=List (List QQ)×Int×Wf×Int×Unit
abbrev C5f:=Wf×Int×Bool×Wf×Wf×Unit
abbrev C5k:=List QQ×Int×Wf×Int×Unit
def Jz(x:(Wf×Int)×Int×Int×Unit):Prop:=let g:=(140737488355328:Nat);let c:=(0:Int);∃(I:C4y->Prop),∃(h: _->Nat),I ([],c,x.1.1,x.1.2,())/\∀(p:C4y),tQ.sl.sl.wf p.1/\(Ty.int i64).wf p.2.1/\(Ty.int i64).sl.wf p.2.2.1/\(Ty.int i64).wf p.2.2.2.1/\True->I p->(iB (decide (p.2.1<x.2.1)) (∃(I_1:C5k->Prop),∃(j: _->Nat),I_1 ([],c,p.2.2.1,p.2.2.2.1,())/\∀(k:C5k),let a:Prop:=(k.2.1<x.2.2.1);let e:=(k.2.2.1.length:Int);let b:=(p.1++ [k.1],i64.wrap (p.2.1+1),k.2.2.1,k.2.2.2.1,());tQ.sl.wf k.1/\(Ty.int i64).wf k.2.1/\(Ty.int i64).sl.wf k.2.2.1/\(Ty.int i64).wf k.2.2.2.1/\True->I_1 k->(iB (decide a) (True/\P6 λr=>r.1=rc (0:Rat)->∃(J:C5f->Prop),((c<(3:Int)/\c<=k.2.2.2.1/\k.2.2.2.1<=e)/\∀(n:D8) (o:PH),let f:=(o.1.1.length:Int);N8 n.1/\True->((Ty.int i64).sl.pair (Ty.int i64)).wf o.1/\True->c<=n.1/\n.1<3->o.1.1=k.2.2.1/\c<=o.1.2/\o.1.2<=e->(iB (decide (c<n.1)) ((c<=o.1.2/\o.1.2<=f)/\∀(r:F5) (m:PH),UE r.1/\True->((Ty.int i64).sl.pair (Ty.int i64)).wf m.1/\True->gF r.1->m.1.1=o.1.1/\c<=m.1.2/\m.1.2<=f->J (m.1.1,m.1.2,r.1.1.1,r.1.1.2,r.1.2,())) (J (o.1.1,o.1.2,r.1.1.1,r.1.1.2,r.1.2,()))))/\∀(p:C5f),let a:=((p.2.2.1,p.2.2.2.1),p.2.2.2.2.1);let d:=(k.1++ [a],i64.wrap (k.2.1+1),p.1,p.2.1,());(Ty.int i64).sl.wf p.1/\(Ty.int i64).wf p.2.1/\Ty.bool.wf p.2.2.1/\(Ty.int u32).sl.wf p.2.2.2.1/\(Ty.int u32).sl.wf p.2.2.2.2.1/\True->J p->((k.1.length+ [a].length)*(56:Nat)<=g/\k.1.length+ [a].length<=9223372036854775807)/\I_1 d/\j d<j k) (((p.1.length+ [k.1].length)*(24:Nat)<=g/\p.1.length+ [k.1].length<=9223372036854775807)/\I b/\h b<h p))) (((∀(l:List QQ),l∈p.1->eV K1 l/\(↑l.length:Int)=x.2.2.1)/\c<=x.2.2.1/\x.2.2.1<=16384/\p.1.length<=(16384:Nat))/\rT1 λr=>Ed p.1.length x.2.2.1.toNat (fun(i j:Nat)=>rv ((p.1.getD i []).getD j zr)) r.1->C0h x.2.1.toNat x.2.2.1.toNat r.1/\p.2.2.1=x.1.1/\c<=p.2.2.2.1/\p.2.2.2.1<=(↑x.1.1.length:Int)))
def grown (n m i j:Nat) (f:Nat->Nat->Rat) (rows:List (List D4)):Prop:=rows.length=n/\∀k,k<n->rows.getD k []=(List.range (if k<i then m else if k=i then j else 0)).map λl=>rc (f k l)
def ZA (x:A3 Ig.args) (_:awf Ig.args x) (_:Ig.pre x):oW x:=rfl
def AV:sr U4 Ol:=λx f d=>by
 obtain⟨⟨l,i⟩,n,_⟩:=x;have k:l.length<=9223372036854775807:=f.1.1.1;change Int at i n;change Wf at l;obtain⟨b,g,j⟩:0<n/\0<=i/\i<=(l.length:Int):=d;simp only[Ol,iB,Ef];refine⟨λh=>⟨⟨ω,b⟩,by trivial,g,j⟩,λh=>?_⟩;have h:=qB h;rw[wv (a:=i+1) ω,wv (a:=i+1-1) ω];refine⟨⟨ω,ω⟩,b,?_⟩;rintro⟨r,_⟩ _ c;exact⟨⟨(c b).1,(c b).2.1⟩,by trivial,ω,ω⟩
def YZ:sr Mc QP:=λx j i=>by
 obtain⟨(a:Int),(b:Int),_⟩:=x;have h:0<b:=i;have c:FT .i64 b:=j.2.1;unfold FT at c;rw[(δ:i64.min= -9223372036854775808),(δ:i64.max=9223372036854775807)]at c;simp only[QP];have e:u64.wrap b=b:=by simp[IntKind.wrap,IntKind.bits,IntKind.signed];omega
 have d:0<=u64.wrap a:=by simp[IntKind.wrap,IntKind.bits,IntKind.signed];omega
 rw[e];have f:0<=(u64.wrap a).tmod b:=zH _ d;have g:(u64.wrap a).tmod b<b:=Int.tmod_lt_of_pos _ h;rw[wv ω];exact⟨ω,λ_=>⟨f,g,rfl⟩⟩
def mE {a b:Int} (d:a.natAbs<4294967296) (c:0<b) (f:b.natAbs<4294967296):gF (rc (Rat.divInt a b)):=by
 refine⟨_,?_,rfl⟩;rw[VH c];exact KU ω (Fh (by simpa using d)) (Fh (by simpa using f))
def FG:sr Bq Sv:=λx v k=>by
 obtain⟨⟨(l:Wf),(i:Int)⟩,_⟩:=x;obtain⟨t,u⟩:0<=i/\i<=(l.length:Int):=k;simp only[Sv,P6];refine⟨⟨ω,t,u⟩,?_⟩;rintro⟨(f:Int),_⟩ ⟨⟨(r:Wf),(n:Int)⟩,_⟩ _ _ h a;simp only at h a|-;obtain⟨rfl,b,c⟩:=a;refine⟨⟨ω,b,c⟩,?_⟩;rintro⟨(g:Int),_⟩ ⟨⟨(s:Wf),(o:Int)⟩,_⟩ _ _ j a;simp only at j a|-;obtain⟨rfl,b,c⟩:=a;refine⟨trivial,?_⟩;rintro⟨q,_⟩ _ d;simp only at d|-;rw[wv ω,wv ω]at d;exact⟨by rw[d];exact mE ω ω ω,by trivial,b,c⟩
def B5m {x:D4} (h:gF x):qs 1 (rv x):=by
 obtain⟨q,a,rfl⟩:=h;rw[L5];exact a
def B5n {x:D4} (h:gF x) {k:Nat} (a:1<=k):sz k x:=by
 obtain⟨q,b,rfl⟩:=h;exact⟨qZ b.1 a,qZ b.2 a⟩
def Vo:sr Q5 Jz:=λx aa Z=>by
 obtain⟨⟨(l:Wf),(i:Int)⟩,(R:Int),(C:Int),_⟩:=x;obtain⟨a7,ab,D,c1,a5,a6⟩:0<=R/\R<=20/\0<=C/\C<=20/\0<=i/\i<=(l.length:Int):=Z;simp only[Jz,iB,P6,rT1];refine⟨λp=>0<=p.2.1/\p.2.1<=R/\(p.1.length:Int)=p.2.1/\(∀v∈p.1,(v.length:Int)=C/\∀e∈v,gF e)/\p.2.2.1=l/\0<=p.2.2.2.1/\p.2.2.2.1<=(l.length:Int),λp=>(R-p.2.1).toNat,⟨qH _,a7,rfl,λe a=>(by cases a),rfl,a5,a6⟩,?_⟩;rintro⟨o,(k:Int),(y:Wf),(a0:Int),_⟩ _ ⟨V,W,X,f,H,s,t⟩;change List (List D4)at o;simp only at V W X f H s t|-;subst H;refine⟨λh=>?_,λh=>?_⟩
 . have h:=qA h;refine⟨λp=>0<=p.2.1/\p.2.1<=C/\(p.1.length:Int)=p.2.1/\(∀e∈p.1,gF e)/\p.2.2.1=y/\0<=p.2.2.2.1/\p.2.2.2.1<=(y.length:Int),λp=>(C-p.2.1).toNat,⟨qH _,D,rfl,λe a=>(by cases a),rfl,s,t⟩,?_⟩;rintro⟨(a8:List D4),(a3:Int),(z:Wf),(a1:Int),_⟩ _ ⟨Q,T,U,j,G,n,r⟩;simp only at Q T U j G n r|-;subst G;refine⟨λh=>?_,λh=>?_⟩
   . have h:=qA h;refine⟨trivial,?_⟩;rintro⟨ac,_⟩ _ N;simp only at N|-;refine⟨λp=>p.1=z/\0<=p.2.1/\p.2.1<=(z.length:Int)/\gF ((p.2.2.1,p.2.2.2.1),p.2.2.2.2.1),⟨⟨ω,n,r⟩,?_⟩,?_⟩
     . rintro⟨(b:Int),_⟩ ⟨⟨(A:Wf),(w:Int)⟩,_⟩ _ _ u g;simp only at u g|-;obtain⟨rfl,c,d⟩:=g;refine⟨λ_=>⟨⟨c,d⟩,?_⟩,λ_=>?_⟩
       . rintro⟨q,_⟩ ⟨⟨(a4:Wf),(a2:Int)⟩,_⟩ _ _ J g;simp only at J g|-;obtain⟨rfl,O,P⟩:=g;exact⟨by trivial,O,P,J⟩
       exact⟨by trivial,c,d,⟨0,N7 δ,N⟩⟩
     rintro⟨(A:Wf),(w:Int),B,m,a9,_⟩ _ ⟨c,d,E,F⟩;simp only at c d E F|-;subst c;rw[wv ω];refine⟨⟨by rw[qX];omega,by rw[qX];omega⟩,⟨ω,ω,by rw[rN,qX];omega,λe a=>?_,by trivial,d,E⟩,ω⟩;rcases qS.1 a with a|a
     . exact j e a
     rw[qK.1 a];exact F
   have h:=qB h;rw[wv ω];refine⟨⟨by rw[qX];omega,by rw[qX];omega⟩,⟨ω,ω,by rw[rN,qX];omega,λe a=>?_,by trivial,n,r⟩,ω⟩;rcases qS.1 a with a|a
   . exact f e a
   rw[qK.1 a];exact⟨ω,j⟩
 have h:=qB h;refine⟨⟨λv M=>⟨λe a=>B5n ((f v M).2 e a) δ,(f v M).1⟩,D,ω,ω⟩,?_⟩;rintro⟨m,_⟩ _ I;simp only at I|-;refine⟨⟨_,λb B=>?_,by rw[(ω:R.toNat=o.length)];exact I⟩,by trivial,s,t⟩;by_cases u:b<o.length
 . by_cases Y:B<(o.getD b []).length
   . exact B5m ((f _ (E2 u)).2 _ (E2 Y))
   rw[qE (l:=o.getD b []),rT ω];exact N7 δ
 rw[qE (l:=o),rT ω];exact N7 δ
def JM:An:= {loop:= [(5,⟨[1,6,14,15],[],[(16,false,vI)],[],[(0, .row tE 105)]⟩)]}
def Oy(x:List EE×Wf×Unit):Prop:=let h:=(0:Int);let g:=(x.2.1.length:Int);let d:=(↑x.2.1.length:Int);let e:Prop:=(∀(j:Int),A4 x.1 j≠(0:Rat)->h<=j/\j<d);List.length x.2.1<=100000/\Od λr=>r.1=decide (K2 x.2.1 g)->(iB ((!r.1)) (K2 x.2.1 d->e->IT (fun(i:Int)=>if h<=i/\i<d then A4 x.1 (↑(List.idxOf i x.2.1):Int)else(0:Rat)) []/\false=true) (Jw x.1/\SP λn=>IT (A4 x.1) n.1->∃(I:LH->Prop),∃(μ: _->Nat),I (h,n)/\∀(p:LH),let l:Prop:=(p.1<(n.1.length:Int));let k:Prop:=(h<=p.1/\p.1<(p.2.1.length:Int));let c:=(List.getD p.2.1 p.1.toNat D7);let m:=(decide (g<=c.1));let f:=(i64.wrap (p.1+1),List.set p.2.1 p.1.toNat (gx h x.2.1 c.1,c.2),());(Ty.int i64).wf p.1/\IY p.2.1/\True->I p->(iB (decide l) (k/\(iB (M0 (decide (c.1<h)) true m) (K2 x.2.1 d->e->IT (fun(i:Int)=>if h<=i/\i<d then A4 x.1 (↑(List.idxOf i x.2.1):Int)else(0:Rat)) []/\false=true) ((h<=c.1/\c.1<g)/\k/\I f/\μ f<μ p))) (List.length p.2.1<=100000/\∀(l':List EE),tE.sl.wf l'->l'.Perm p.2.1->List.Pairwise (fun(a b:Int×(Bool×Wf)×Wf)=>¬M7 b.1 a.1<h) l'->K2 x.2.1 d->e->IT (fun(i:Int)=>if h<=i/\i<d then A4 x.1 (↑(List.idxOf i x.2.1):Int)else(0:Rat)) l'/\true=true))))
variable {n:Nat} {S:Nat->Nat} {A:Nat->Nat->Rat} {rest P Q place:Wf} {rows lower:List (List C8)} {cols:List S9}
def A1n {P:Wf} (l:P.length=n) (f:∀a,a<n->P.getD a 0=(ix P a:Int)) (o:∀a,a<n->ix P a<n) (g:∀a b,a<n->b<n->ix P a=ix P b->a=b):K2 P (n:Int):=by
 have d:∀a (c:a<P.length),P[a]=(ix P a:Int):=λa c=>by
  rw[<-f a ω,qE,qN c];rfl
 refine⟨by rw[l],λi r=>?_,uF.2 λi j h k s e=>?_⟩
 . obtain⟨a,c,rfl⟩:=vG.1 r;have:=o a ω;rw[d a c];omega
 rw[d i h,d j k]at e;have:=g i j ω ω ω;omega
def EI.places (h:EI n n S A rest P Q place rows lower cols):K2 place (n:Int)/\∀b,b<n->List.idxOf (b:Int) place=ix Q b:=by
 have d:∀j,j<n->∃b,b<n/\ix Q b=j/\place.getD j 0=(b:Int):=λj a=>by
  obtain⟨b,c,e⟩:=Cz h.elim.qlt h.elim.qinj a;exact⟨b,c,e,by rw[<-e];exact h.pl b c⟩
 have l:∀j (a:j<place.length),place[j]=place.getD j 0:=λj a=>by
  rw[qE,qN a];rfl
 refine⟨A1n h.lpl (λj a=>?_) (λj a=>?_) (λi j f a e=>?_),λb c=>?_⟩
 . obtain⟨b,c,_,e⟩:=d j a;unfold ix;rw[e];omega
 . obtain⟨b,c,_,e⟩:=d j a;unfold ix;rw[e];omega
 . obtain⟨b,c,g,k⟩:=d i f;obtain⟨f,s,o,r⟩:=d j a;unfold ix at e;rw[k,r]at e;have:b=f:=ω
   rw[<-g, <-o,this]
 have o:(b:Int)∈place:=by
  have a:=h.pl b c;have j:ix Q b<place.length:=by rw[h.lpl];exact h.elim.qlt b c
  rw[<-a, <-l _ j];exact wB j
 have a:=yI o;have c:place[List.idxOf (b:Int) place]=(b:Int):=g1e a;obtain⟨f,s,g,k⟩:=d (List.idxOf (b:Int) place) (by rw[<-h.lpl];exact a);rw[l _ a,k]at c;have:f=b:=ω
 rw[<-g,this]
def EI.done (h:EI n n S A rest P Q place rows lower cols) (J:n<=16384) {L U:List (List C8)} (z:L.length=n) (B:U.length=n)
 (u:∀a,a<n->L.getD a []=lower.getD (ix P a) []++ [((a:Int),rc 1)])
 (v:∀a,a<n->IT (λi=>if 0<=i/\i<(n:Int)then A4 (rows.getD (ix P a) []) ((List.idxOf i place:Nat):Int)else 0) (U.getD a [])):
 Bi (P,Q,((n:Int),(n:Int),L),((n:Int),(n:Int),U)) (n:Int)/\∀i j,i<n->j<n->luM (P,Q,((n:Int),(n:Int),L),((n:Int),(n:Int),U)) n i j=A (ix P i) (ix Q j):=by
 obtain⟨_,x⟩:=h.places;have o:∀a m,a<n->el ((n:Int),(n:Int),L) a m=V9 lower (ix P a) m+if m=a then 1 else 0:=λa m d=>by
  show A4 (L.getD a []) (m:Int)=A4 (lower.getD (ix P a) []) (m:Int)+ _;rw[u a d,Cd];congr 1;by_cases l:m=a
  . rw[qT l,qT ω]
  rw[qL l,qL ω]
 have r:∀a g,a<n->g<n->el ((n:Int),(n:Int),U) a g=V9 rows (ix P a) (ix Q g):=λa g d hb=>by
  show A4 (U.getD a []) (g:Int)=A4 (rows.getD (ix P a) []) _;rw[(v a d).2, <-x g hb];exact qT ⟨qF _,ω⟩
 have pl:=h.elim.plt;have E:∀a,a<n->F1 (L.getD a []) (n:Int):=λa d=>by
  rw[u a d];obtain⟨k,s⟩:=h.lcan _ (pl a d);have y:∀e∈lower.getD (ix P a) [],e.1<(a:Int):=λe b=>by
   refine rA λG=>(k.2 e b).1 ?_
   have F:=s e b;have:=h.elim.low a e.1.toNat d ω ω;unfold V9 at this;rw[(ω:((e.1.toNat:Nat):Int)=e.1),N2 k.1 b]at this;exact this
  have w:=Fq (q:=1) k δ y;refine⟨w.1,λe b=>⟨?_,?_,(w.2 e b).1⟩⟩
  . rcases qS.1 b with b|b
    . exact(s e b).1
    rw[qK]at b;subst b;exact qF _
  rcases qS.1 b with b|b
  . exact(s e b).2
  rw[qK]at b;subst b;simp only;omega
 have vU:∀a,a<n->F1 (U.getD a []) (n:Int):=λa d=>by
  obtain⟨k,w⟩:=v a d;have s:∀e∈U.getD a [],0<=e.1/\e.1<(n:Int):=λe b=>rA λhh=>(k.2 e b).1 (by rw[<-N2 k.1 b,w];exact qL hh)
  exact⟨k.1,λe b=>⟨(s e b).1,(s e b).2,(k.2 e b).1⟩⟩
 refine⟨⟨A1n h.lP h.P0 h.elim.plt h.elim.pinj,A1n h.lQ h.Q0 h.elim.qlt h.elim.qinj,⟨rfl,rfl,qF _,by show(n:Int)<=16384;omega,qF _,by show(n:Int)<=16384;omega,by show(L.length:Int)=(n:Int);omega,λD t=>?_⟩,⟨rfl,rfl,qF _,by show(n:Int)<=16384;omega,qF _,by show(n:Int)<=16384;omega,by show(U.length:Int)=(n:Int);omega,λD t=>?_⟩,λi j c f=>?_⟩,λi j c f=>?_⟩
 . obtain⟨a,d,rfl⟩:=T2 [] t;exact E a (by rw[<-z];exact d)
 . obtain⟨a,d,rfl⟩:=T2 [] t;exact vU a (by rw[<-B];exact d)
 . have c:i<n:=ω
   have f:j<n:=ω
   refine⟨λH=>?_,?_,λI=>?_,?_⟩
   . show el ((n:Int),(n:Int),L) i j=0;rw[o i j c,h.elim.low i j c f ω,qL ω,rD]
   . show el ((n:Int),(n:Int),L) i i=1;rw[o i i c,h.elim.low i i c c (qU _),qT rfl,sX]
   . show el ((n:Int),(n:Int),U) i j=0;rw[r i j c f];exact h.elim.zero j (ix P i) f (pl i c) λa d e=>by have:=h.elim.pinj i a c ω e;omega
   show el ((n:Int),(n:Int),U) i i≠0;rw[r i i c c];exact h.elim.piv i c
 rw[h.elim.prod c f];unfold luM;refine A8 λm l=>?_
 show el ((n:Int),(n:Int),L) i m*el ((n:Int),(n:Int),U) m j= _;rw[o i m c,r m j l f]
def EI.sizes (h:EI n n S A rest P Q place rows lower cols) (b:∀a,1<=S a) {L U:List (List C8)}
 (d:∀a,a<n->L.getD a []=lower.getD (ix P a) []++ [((a:Int),rc 1)])
 (f:∀a,a<n->IT (λi=>if 0<=i/\i<(n:Int)then A4 (rows.getD (ix P a) []) ((List.idxOf i place:Nat):Int)else 0) (U.getD a [])) {R C:Int} {i:Nat} (hi:i<n) (j:Nat):qs (S n) (el (R,C,L) i j)/\qs (S i) (el (R,C,U) i j):=by
 constructor
 . show qs (S n) (A4 (L.getD i []) (j:Int));rw[d i hi,Cd];by_cases g:i=j
   . subst g;have c:A4 (lower.getD (ix P i) []) (i:Int)=0:=h.elim.low i i hi hi (qU _);rw[qT rfl,c,sX];exact C1d (b n)
   rw[qL ω,rD];exact h.lq _ (h.elim.plt i hi) _
 show qs (S i) (A4 (U.getD i []) (j:Int));rw[(f i hi).2];dsimp only;split
 . exact h.fin i hi _
 exact N7 (b i)
def EI.cans (h:EI n n S A rest P Q place rows lower cols) {L U:List (List C8)} (l:L.length=n) (o:U.length=n)
 (j:∀a,a<n->L.getD a []=lower.getD (ix P a) []++ [((a:Int),rc 1)])
 (k:∀a,a<n->IT (λi=>if 0<=i/\i<(n:Int)then A4 (rows.getD (ix P a) []) ((List.idxOf i place:Nat):Int)else 0) (U.getD a [])):(∀v∈L,U8 v)/\∀v∈U,U8 v:=by
 constructor
 . intro v f;obtain⟨a,b,rfl⟩:=T2 [] f;have b:a<n:=by rw[<-l];exact b
   rw[j a b];obtain⟨c,g⟩:=h.lcan _ (h.elim.plt a b);refine Fq c δ λe d=>rA λs=>(c.2 e d).1 ?_
   have r:=g e d;have:=h.elim.low a e.1.toNat b ω ω;unfold V9 at this;rw[(ω:((e.1.toNat:Nat):Int)=e.1),N2 c.1 d]at this;exact this
 intro v f;obtain⟨a,b,rfl⟩:=T2 [] f;exact(k a (by rw[<-o];exact b)).1
variable {n:Nat} {S:Nat->Nat} {rest P Q place:Wf} {rows lower:List (List C8)} {cols:List S9}
def fV (t:Int) (F:Nat->Int->Rat) (v:List C8) (j:Int) (es:S9):Prop:=(S1 es).Nodup/\∀i:Int,i∈S1 es↔(0<=i/\i<t/\F i.toNat j≠0)\/(i=t/\∃e∈v,e.1=j)
def A9k {t j:Int} {F:Nat->Int->Rat} {v:List C8} {es:S9} {b:Bool} {e:C8} (h:fV t F v j es) (d:e.1=j):fV t F (v++ [e]) j (Ej (.int .i64) t b es):=by
 obtain⟨a,c⟩:=cZ t b es h.1;refine⟨a,λi=>?_⟩;rw[c,h.2];constructor
 . rintro(hh|hh| ⟨hh,x,a,c⟩)
   . exact .inr ⟨hh,e,by simp,d⟩
   . exact .inl hh
   exact .inr ⟨hh,x,sE _ a,c⟩
 rintro(hh| ⟨hh,x,a,c⟩)
 . exact .inr (.inl hh)
 exact .inl hh
def A5s {t j:Int} {F:Nat->Int->Rat} {v:List C8} {es:S9} {e:C8} (h:fV t F v j es) (b:e.1≠j):fV t F (v++ [e]) j es:=by
 refine⟨h.1,λi=>?_⟩;rw[h.2];refine g3s xS (g5e xS ⟨fun⟨x,a,hxj⟩=>⟨x,sE _ a,hxj⟩,fun⟨x,a,hxj⟩=>?_⟩);rcases qS.1 a with a|a
 . exact⟨x,a,hxj⟩
 rw[qK]at a;subst a;exact absurd hxj b
def A5r {t j:Int} {F:Nat->Int->Rat} {v:List C8} {es:S9} {m:Int} (h:fV t F v j es) (l:0<=t) (f:F1 v m) (d:F t.toNat=A4 v):fV (t+1) F [] j es:=by
 refine⟨h.1,λi=>?_⟩;rw[h.2];constructor
 . rintro(⟨c,g,a⟩ | ⟨rfl,e,b,rfl⟩)
   . exact .inl ⟨c,ω,a⟩
   refine .inl ⟨l,ω,?_⟩;rw[d,N2 f.1 b];exact(f.2 e b).2.2
 rintro(⟨c,g,a⟩ | ⟨_,e,b,_⟩)
 . by_cases k:i=t
   . subst k;rw[d]at a;exact .inr ⟨rfl,CJ a⟩
   exact .inl ⟨c,ω,a⟩
 cases b
def EI.start {F:Nat->Int->Rat} {A:Nat->Nat->Rat} (E:∀i j,i<n->j<n->A i j=F i (j:Int)) (V:rest.length=n) (G:∀i,i<n->rest.getD i 0=(i:Int))
 (M:P.length=n) (N:Q.length=n) (O:place.length=n) (H:rows.length=n) (I:lower.length=n) (J:cols.length=n)
 (w:∀i,i<n->IT (F i) (rows.getD i [])) (R:∀i (j:Int),i<n->F i j≠0->0<=j/\j<(n:Int)) (D:∀i j,i<n->qs (S 0) (F i j)) (B:∀i,i<n->lower.getD i []= [])
 (T:∀j:Int,0<=j->j<(n:Int)->fV (n:Int) F [] j (cols.getD j.toNat [])):EI n 0 S A rest P Q place rows lower cols:=by
 have d:∀a,¬a<0:=λa=>uV a
 have r:∀i (b:i<rest.length),rest[i]=(i:Int):=λi b=>by
  rw[<-G i ω,qE,qN b];rfl
 refine⟨⟨rS _,λa h=>absurd h (d a),λa h=>absurd h (d a),λa _ h=>absurd h (d a),λa _ h=>absurd h (d a),λi j b s=>?_,λa _ h=>absurd h (d a),λa h=>absurd h (d a),λa _ h=>absurd h (d a)⟩,M,N,O,H,I,J,λa h=>absurd h (d a),λa h=>absurd h (d a),λa h=>absurd h (d a),uF.2 λi j b s U e=>?_,λc=>⟨λv=>?_,λv=>?_⟩,λi b=>?_,λi b=>?_,λi b j=>?_,λa o=>absurd o (d a),λj s=>?_⟩
 . rw[B7,sX,E i j b s];exact((w i b).2 _).symm
 . rw[r i b,r j s]at e;omega
 . obtain⟨i,b,rfl⟩:=vG.1 v;rw[r i b];exact⟨qF _,ω,λa o=>absurd o (d a)⟩
 . obtain⟨f,g,_⟩:=v;have z:c.toNat<rest.length:=ω
   have:=r _ z;rw[(ω:((c.toNat:Nat):Int)=c)]at this;rw[<-this];exact wB z
 . obtain⟨l,t⟩:=w i b;exact⟨l,λe k=>R i e.1 b (by rw[<-t,N2 l.1 k];exact(l.2 e k).1),λj=>by rw[t];exact D i j b⟩
 . rw[B i b];exact⟨Iu,λe k=>by cases k⟩
 . rw[B i b,Qt];exact N7 (A1q (D i j b))
 have y:0<=j/\j<(n:Int):=by
  obtain⟨i,b,rfl⟩:=vG.1 s;rw[r i b];omega
 obtain⟨l,t⟩:=T j y.1 y.2;refine⟨l,λi=>?_⟩;rw[t];have x:∀i:Int,0<=i->i<(n:Int)->V9 rows i.toNat j.toNat=F i.toNat j:=λi f g=>by
  show A4 (rows.getD i.toNat []) ((j.toNat:Nat):Int)= _;rw[(w i.toNat ω).2,(ω:((j.toNat:Nat):Int)=j)]
 constructor
 . rintro(⟨f,g,u⟩ | ⟨_,e,k,_⟩)
   . exact⟨f,g,λa o=>absurd o (d a),by rw[x i f g];exact u⟩
   cases k
 rintro⟨f,g,_,u⟩;exact .inl ⟨f,g,by rw[x i f g]at u;exact u⟩
def kZ (Bs:Int->Int->Prop) (i:Int) (vs:List C8) (j:Int) (es:S9):Prop:=(S1 es).Nodup/\∀x:Int,x∈S1 es↔Bs j x/\¬(x=i/\∃e∈vs,e.1=j)
def kY (Bs:Int->Int->Prop) (i:Int) (vs:List C8) (j:Int) (es:S9):Prop:=(S1 es).Nodup/\∀x:Int,x∈S1 es↔Bs j x\/(x=i/\∃e∈vs,e.1=j)
variable {Bs:Int->Int->Prop} {i j:Int} {vs:List C8} {es:S9} {e:C8}
def lA (h:(S1 es).Nodup/\∀x,x∈S1 es↔Bs j x):kZ Bs i [] j es:=⟨h.1,λx=>by rw[h.2];exact⟨λa=>⟨a,fun⟨_,e,he,_⟩=>by cases he⟩,λa=>a.1⟩⟩
def A9h (h:(S1 es).Nodup/\∀x,x∈S1 es↔Bs j x):kY Bs i [] j es:=⟨h.1,λx=>by rw[h.2];exact⟨.inl,λa=>a.elim id fun⟨_,e,he,_⟩=>by cases he⟩⟩
def Tx (a:e.1=j):∃y∈vs++ [e],y.1=j:=⟨e,by simp,a⟩
def VS (b:e.1≠j):(∃y∈vs++ [e],y.1=j)↔∃y∈vs,y.1=j:=
 ⟨fun⟨y,a,hyj⟩=>by
  rcases qS.1 a with a|a
  . exact⟨y,a,hyj⟩
  rw[qK]at a;subst a;exact absurd hyj b,fun⟨y,a,hyj⟩=>⟨y,sE _ a,hyj⟩⟩
def A9j (h:kZ Bs i vs j es) (c:e.1=j):kZ Bs i (vs++ [e]) j (Pp (.int .i64) i es):=by
 obtain⟨a,b⟩:=cY i es h.1;refine⟨a,λx=>?_⟩;rw[b,h.2];exact⟨λa=>⟨a.2.1,λb=>a.1 b.1⟩,λa=>⟨λd=>a.2 ⟨d,Tx c⟩,a.1,λb=>a.2 ⟨b.1,Tx c⟩⟩⟩
def A5q (h:kZ Bs i vs j es) (a:e.1≠j):kZ Bs i (vs++ [e]) j es:=⟨h.1,λx=>by rw[h.2,VS a]⟩
def A9i {b:Bool} (h:kY Bs i vs j es) (d:e.1=j):kY Bs i (vs++ [e]) j (Ej (.int .i64) i b es):=by
 obtain⟨a,c⟩:=cZ i b es h.1;refine⟨a,λx=>?_⟩;rw[c,h.2];exact⟨λa=>a.elim (λc=> .inr ⟨c,Tx d⟩) λa=>a.elim .inl λc=> .inr ⟨c.1,Tx d⟩,λa=>a.elim (λa=> .inr (.inl a)) λc=> .inl c.1⟩
def A5p (h:kY Bs i vs j es) (a:e.1≠j):kY Bs i (vs++ [e]) j es:=⟨h.1,λx=>by rw[h.2,VS a]⟩
def A9l {O N:Int->Prop} {pv nw:List C8} {d:S9} (g:kY (λ_ x=>Bs j x/\¬(x=i/\∃e∈pv,e.1=j)) i nw j d)
 (l:Bs j i↔O j) (n:(∃e∈pv,e.1=j)\/(O j↔N j)) (k:(∃e∈nw,e.1=j)↔N j):(S1 d).Nodup/\∀x,x∈S1 d↔(x≠i/\Bs j x)\/(x=i/\N j):=by
 refine⟨g.1,λx=>?_⟩;rw[g.2,k];by_cases c:x=i
 . subst c;rcases n with f|f
   . exact⟨λb=>b.elim (λa=>absurd ⟨rfl,f⟩ a.2) .inr,λb=>b.elim (λa=>absurd rfl a.1) .inr⟩
   exact⟨λb=>b.elim (λa=> .inr ⟨rfl,f.1 (l.1 a.1)⟩) .inr,λb=>b.elim (λa=>absurd rfl a.1) .inr⟩
 exact⟨λb=>b.elim (λa=> .inl ⟨c,a.1⟩) λa=>absurd a.1 c,λb=>b.elim (λa=> .inl ⟨a.2,λh=>c h.1⟩) λa=>absurd a.1 c⟩
def B6v {s:Nat} {x f r c:Rat} (h:qs s x) (d:qs s f) (g:qs s r) (b:qs s c):qs (4*s+1) (x-f/r*c):=by
 have a:=B2x h (Pu (OR d g) b);rwa[(ω:s+(s+s+s)+1=4*s+1)]at a
def inC (cols:List S9) (j x:Int):Prop:=x∈S1 (cols.getD j.toNat [])
structure CI (n k s:Nat) (rest P:Wf) (rows0 lower0:List (List C8)) (r c:Int) (D:Wf) (rows lower:List (List C8)) (cols:List S9):Prop where
 lrows:rows.length=n
 llow:lower.length=n
 lcols:cols.length=n
 rd:∀i:Nat,i<n->(i:Int)∈D->U8 (rows.getD i [])/\(∀e∈rows.getD i [],0<=e.1/\e.1<(n:Int))/\(∀j,qs (4*s+1) (A4 (rows.getD i []) j))/\∀j,A4 (rows.getD i []) j=A4 (rows0.getD i []) j-Xc k (ix P) (V9 rows0) r.toNat c.toNat i*A4 (rows0.getD r.toNat []) j
 ru:∀i:Nat,i<n->(i:Int)∉D->rows.getD i []=rows0.getD i []
 lo:∀i:Nat,i<n->lower.getD i []=if(i:Int)∈D then lower0.getD i []++ [((k:Int),rc (Xc k (ix P) (V9 rows0) r.toNat c.toNat i))]else lower0.getD i []
 col:∀j:Int,j∈rest->(S1 (cols.getD j.toNat [])).Nodup/\∀x:Int,x∈S1 (cols.getD j.toNat [])↔x≠r/\0<=x/\x<(n:Int)/\(∀a,a<k->x.toNat≠ix P a)/\V9 rows x.toNat j.toNat≠0
variable {n k s:Nat} {S:Nat->Nat} {A:Nat->Nat->Rat} {rest P Q place:Wf} {rows lower rows1 lower1:List (List C8)} {cols cols1 cols2:List S9} {r c:Int}
def A3c {v:List C8} (h:U8 v) (j:Int):(∃e∈v,e.1=j)↔A4 v j≠0:=
 ⟨fun⟨e,he,hj⟩=>by rw[<-hj,N2 h.1 he];exact(h.2 e he).1,CJ⟩
def EI.row (h:EI n k S A rest P Q place rows lower cols) (b:c∈rest) (d:r∈S1 (cols.getD c.toNat [])):0<=r/\r<(n:Int)/\(∀a,a<k->r.toNat≠ix P a)/\V9 rows r.toNat c.toNat≠0:=((h.col c b).2 r).1 d
def EI.crange (h:EI n k S A rest P Q place rows lower cols) (a:c∈rest):0<=c/\c<(n:Int):=⟨((h.rmem c).1 a).1,((h.rmem c).1 a).2.1⟩
def CI.init (h:EI n k S A rest P Q place rows lower cols) (u:c∈rest) (x:r∈S1 (cols.getD c.toNat [])) (z:cols1.length=n)
 (v:∀j:Int,j∈rest->kZ (inC cols) r (rows.getD r.toNat []) j (cols1.getD j.toNat [])):CI n k s rest P rows lower r c [] rows lower cols1:=by
 obtain⟨F,G,H,_⟩:=h.row u x;refine⟨h.lrows,h.llow,z,λi _ w=>(by cases w),λi _ _=>rfl,λi _=>(qL (by simp)).symm,λj hj=>?_⟩;obtain⟨D,E⟩:=h.crange hj;obtain⟨l,o⟩:=v j hj;refine⟨l,λB=>?_⟩;rw[o];have t:=(h.col j hj).2 B;unfold inC;rw[t,A3c (h.can r.toNat ω).1];constructor
 . rintro⟨⟨d,f,g,a⟩,b⟩;refine⟨λe=>b ⟨e,?_⟩,d,f,g,a⟩;subst e;unfold V9 at a;rwa[(ω:((j.toNat:Nat):Int)=j)]at a
 rintro⟨y,d,f,g,a⟩;exact⟨⟨d,f,g,a⟩,λb=>y b.1⟩
def CI.next (h:EI n k S A rest P Q place rows lower cols) (hc:c∈rest) (hr:r∈S1 (cols.getD c.toNat [])) {D:Wf} (g:CI n k (S k) rest P rows lower r c D rows1 lower1 cols1) {i:Int}
 (a1:0<=i) (a2:i<(n:Int)) (W:i≠r) (B:∀a,a<k->i.toNat≠ix P a) (T:i∉D) {nw:List C8} {q:Rat}
 (Z:q=V9 rows i.toNat c.toNat/V9 rows r.toNat c.toNat)
 (u:IT (λj=>A4 (rows.getD i.toNat []) j-q*A4 (rows.getD r.toNat []) j) nw) (a7:cols2.length=n)
 (a5:∀j:Int,j∈rest->kY (λj x=>inC cols1 j x/\¬(x=i/\∃e∈rows.getD r.toNat [],e.1=j)) i nw j (cols2.getD j.toNat [])):
 CI n k (S k) rest P rows lower r c (D++ [i]) (rows1.set i.toNat nw) (lower1.set i.toNat (lower1.getD i.toNat []++ [((k:Int),rc q)])) cols2:=by
 obtain⟨ac,ad,ae,af⟩:=h.row hc hr;obtain⟨a8,c1⟩:=h.crange hc;have o:i.toNat<n:=ω
 have V:((i.toNat:Nat):Int)=i:=ω
 have U:Xc k (ix P) (V9 rows) r.toNat c.toNat i.toNat=q:=by rw[VT ω B,Z]
 have s:∀x:Nat,(x:Int)∈D++ [i]↔(x:Int)∈D\/x=i.toNat:=λx=>by
  rw[qS,qK];exact g3s xS ω
 have w:∀j,A4 nw j=A4 (rows.getD i.toNat []) j-q*A4 (rows.getD r.toNat []) j:=u.2;have a6:∀e∈nw,0<=e.1/\e.1<(n:Int):=λe he=>rA λb=>by
  refine(u.1.2 e he).1 ?_;rw[<-N2 u.1.1 he,w,C7 (v:=rows.getD i.toNat []) λM F G=>b (by rw[<-G];exact(h.can _ o).2.1 M F),C7 (v:=rows.getD r.toNat []) λM F G=>b (by rw[<-G];exact(h.can r.toNat ω).2.1 M F),sN,tK,wI,rD]
 refine⟨by rw[qW];exact g.lrows,by rw[qW];exact g.llow,a7,λx d f=>?_,λx d f=>?_,λx d=>?_,λj E=>?_⟩
 . by_cases l:x=i.toNat
   . subst l;rw[C4 (by rw[g.lrows];exact o),U];refine⟨u.1,a6,λj=>?_,w⟩;rw[w,Z];have:=B6v ((h.can _ o).2.2 j) ((h.can _ o).2.2 (c.toNat:Int)) ((h.can r.toNat ω).2.2 (c.toNat:Int)) ((h.can r.toNat ω).2.2 j);exact this
   rw[F2 l];exact g.rd x d (((s x).1 f).resolve_right l)
 . have l:x≠i.toNat:=λe=>f ((s x).2 (.inr e))
   rw[F2 l];exact g.ru x d λb=>f ((s x).2 (.inl b))
 . by_cases l:x=i.toNat
   . subst l;rw[C4 (by rw[g.llow];exact o),qT ((s _).2 (.inr rfl)),g.lo _ o,qL (by rw[V];exact T),U]
   rw[F2 l,g.lo x d];by_cases f:(x:Int)∈D
   . rw[qT f,qT ((s x).2 (.inl f))]
   rw[qL f,qL λb=>f (((s x).1 b).resolve_right l)]
 obtain⟨aa,ab⟩:=h.crange E;obtain⟨a9,R⟩:=g.col j E;have X:((j.toNat:Nat):Int)=j:=ω
 have a4:inC cols1 j i↔A4 (rows.getD i.toNat []) j≠0:=by
  unfold inC;rw[R];have F:V9 rows1 i.toNat j.toNat=A4 (rows.getD i.toNat []) j:=by
   unfold V9;rw[g.ru _ o (by rw[V];exact T),X]
  rw[F];exact⟨λb=>b.2.2.2.2,λb=>⟨W,a1,a2,B,b⟩⟩
 have a0:=A9l (Bs:=inC cols1) (O:=λj=>A4 (rows.getD i.toNat []) j≠0) (N:=λj=>A4 nw j≠0) (pv:=rows.getD r.toNat []) (nw:=nw) (a5 j E) a4 ?_ (A3c u.1 j)
 . refine⟨a0.1,λx=>?_⟩;rw[a0.2];unfold inC;rw[R];by_cases d:x=i
   . subst d;have:V9 (rows1.set x.toNat nw) x.toNat j.toNat=A4 nw j:=by
      unfold V9;rw[C4 (by rw[g.lrows];exact o),X]
     rw[this];exact⟨λb=>b.elim (λz=>absurd rfl z.1) λz=>⟨W,a1,a2,B,z.2⟩,λb=> .inr ⟨rfl,b.2.2.2.2⟩⟩
   constructor
   . rintro(⟨_,t,H,I,J,y⟩ | ⟨t,_⟩)
     . refine⟨t,H,I,J,?_⟩;unfold V9 at y|-;rwa[F2 ω]
     exact absurd t d
   rintro⟨t,H,I,J,y⟩;refine .inl ⟨d,t,H,I,J,?_⟩;unfold V9 at y|-;rwa[F2 ω]at y
 by_cases Y:∃e∈rows.getD r.toNat [],e.1=j
 . exact .inl Y
 refine .inr ?_;have a3:A4 (rows.getD r.toNat []) j=0:=rA λb=>Y (CJ b)
 show A4 _ j≠0↔A4 nw j≠0;rw[w,a3,sN,tK,wI,rD]
def CI.done (h:EI n k S A rest P Q place rows lower cols) (z:c∈rest) (O:r∈S1 (cols.getD c.toNat [])) {D:Wf} (g:CI n k (S k) rest P rows lower r c D rows1 lower1 cols1)
 (I:S (k+1)=4*S k+1) (U:∀x:Int,x∈D↔x≠r/\0<=x/\x<(n:Int)/\(∀a,a<k->x.toNat≠ix P a)/\V9 rows x.toNat c.toNat≠0) {G:Wf} (X:G.Nodup) (R:∀x,x∈G↔x∈rest/\x≠c):
 EI n (k+1) S A G (P.set k r) (Q.set k c) (place.set c.toNat k) rows1 lower1 cols1:=by
 obtain⟨Z,a0,a1,W⟩:=h.row z O;have E:k<P.length:=by
  rw[h.lP];refine g4b h.elim.kn λE=>?_
  obtain⟨M,c1,F⟩:=(h.rmem c).1 z;obtain⟨a,l,e⟩:=Cz (n:=n) (q:=ix Q) (λa l=>h.elim.qlt a ω) (λa b l hb=>h.elim.qinj a b ω ω) (ω:c.toNat<n);exact absurd e.symm (F a ω)
 have B:∀i:Nat,i<n->((i:Int)∈D↔Xc k (ix P) (V9 rows) r.toNat c.toNat i≠0):=λi d=>by
  rw[U,qO];constructor
  . rintro⟨Y,_,_,t,u⟩;rw[VT ω t,uO];exact λo=>(g0o.1 o).elim u λo=>by
     have:=wO _ W;rw[o,sN]at this;exact absurd this δ
  intro M;have F:¬(i=r.toNat\/∃a,a<k/\i=ix P a):=λs=>M (qT s)
  refine⟨λe=>F (.inl ω),ω,ω,λa l e=>F (.inr ⟨a,l,e⟩),λo=>M ?_⟩;unfold Xc;rw[qL F,o,uO,sO]
 refine h.step z O X R g.lrows g.llow g.lcols (λi d=>?_) (λi d=>?_) ω (λi d=>?_) λj V=>?_
 . rw[I];by_cases f:(i:Int)∈D
   . exact g.rd i d f
   have o:Xc k (ix P) (V9 rows) r.toNat c.toNat i=0:=rA λs=>f ((B i d).2 s)
   rw[g.ru i d f,o];obtain⟨w,y,T⟩:=h.can i d;exact⟨w,y,λj=>H4 (T j) ω,λj=>by rw[sO,tK,wI,rD]⟩
 . rw[g.lo i d];by_cases f:(i:Int)∈D
   . rw[qT f,qL ((B i d).1 f)]
   rw[qL f,qT (rA λs=>f ((B i d).2 s))]
 . have N:=(h.can i d).2.2 (c.toNat:Int);rw[I];unfold Xc;split
   . exact N7 (by have:=A1q N;omega)
   exact H4 (OR N ((h.can r.toNat ω).2.2 (c.toNat:Int))) ω
 obtain⟨w,y⟩:=g.col j ((R j).1 V).1;refine⟨w,λx=>?_⟩;rw[y];constructor
 . rintro⟨Y,t,u,v,H⟩;refine⟨t,u,λa l=>?_,H⟩;by_cases J:a=k
   . subst J;rw[Po E];omega
   rw[Ce J];exact v a ω
 rintro⟨t,u,v,H⟩;refine⟨λe=>?_,t,u,λa l=>?_,H⟩
 . have:=v k (rR _);rw[Po E,e]at this;exact this rfl
 have:=v a ω;rwa[Ce (tY l)]at this
def EI.two (h:EI n k S A rest P Q place rows lower cols) {i j:Nat} (b:i<n) (c:j<n) (o:i≠j) (g:∀a,a<k->i≠ix P a) (l:∀a,a<k->j≠ix P a):k+2<=n:=by
 refine rA λb=>?_
 have b:=h.elim.kn;obtain⟨a,f,c,d,b⟩:=XW n (λa=>if a<k then ix P a else if a=k then i else j) λa _=>by
  split
  . rename_i c;exact h.elim.plt a c
  split<;>assumption
 by_cases c:a<k
 . rw[qT c]at b;by_cases d:f<k
   . rw[qT d]at b;have:=h.elim.pinj a f c d b;omega
   rw[qL d]at b;split at b
   . exact g a c b.symm
   exact l a c b.symm
 have d:¬f<k:=ω
 rw[qL c,qL d]at b;have:a=k:=ω
 rw[qT this,qL ω]at b;exact o b
def Wt.qsR {n k T:Nat} {A R Lo:Nat->Nat->Rat} {p q:Nat->Nat} (h:Wt n k A p q R Lo) (I:aW n n A T) {i j:Nat} (t:i<n) (M:j<n):qs (T+T) (R i j):=by
 have H:∀a,a<=k->a<n->(∀b,b<a->i≠p b)->(∀m,a<=m->m<k->Lo i m=0)->qs (T+T) (R i j):=λa hak han hia hlo=>by
  have O:∀b,b<a->(if b=a then i else p b)=p b:=λb d=>qL ω
  have w:∀b,b<a->(if b=a then R i else R (p b))=R (p b):=λb d=>qL ω
  have z:∀b,b<a->(if b=a then j else q b)=q b:=λb d=>qL ω
  have E:∀b,b<=a->(if b=a then j else q b)<n:=λb d=>by
   by_cases e:b=a
   . rw[qT e];exact M
   rw[qL e];exact h.qlt b ω
  have:=B3t (R:=n) (C:=n) (T:=T) (A:=A) (a:=a) (u:=λb=>if b=a then R i else R (p b)) (X:=λb=>if b=a then Lo i else Lo (p b)) (r:=λb=>if b=a then i else p b) (l:=λb=>if b=a then j else q b) I (λb d=>by
   by_cases e:b=a
   . simp only[qT e];exact t
   . simp only[qL e];exact h.plt b ω) E han han (λb d m F=>by
   have y:=E m F;generalize (if m=a then j else q m)=c at y;by_cases e:b=a
   . simp only[e,vW];rw[h.dec i c t y,Ib hak λf g o=>by rw[hlo f g o,sO]];congr 1;exact A8 λf D=>by rw[w f D]
   . simp only[qL e];rw[h.dec (p b) c (h.plt b ω) y,Ib (ω:b<=k) λf g o=>by rw[h.low b f ω o g,sO]];congr 1;exact A8 λf D=>by rw[w f ω]) (λb m F d=>by
   show(if b=a then R i else R (p b)) (if m=a then j else q m)=0;rw[z m ω];by_cases e:b=a
   . rw[qT e];exact h.zero m i ω t λv J=>hia v ω
   . rw[qL e];exact h.zero m (p b) ω (h.plt b ω) λv J x=>by have:=h.pinj b v ω ω x;omega) (λb d=>by
   show(if b=a then R i else R (p b)) (if b=a then j else q b)≠0;rw[w b d,z b d];exact h.piv b ω)
  simp only[vW]at this;exact this
 by_cases B:∃a,a<k/\i=p a
 . obtain⟨a,s,rfl⟩:=B;exact H a ω (by have:=h.kn;omega) (λb d x=>by have:=h.pinj a b s ω x;omega) λm g o=>h.low a m s o g
 have G:∀a,a<k->i≠p a:=λa s e=>B ⟨a,s,e⟩
 have N:k<n:=g4b h.kn λe=>by
  subst e;obtain⟨a,s,f⟩:=Cz h.plt h.pinj t;exact G a s f.symm
 exact H k (qU _) N G λm g o=>ω
def Wt.qsL {n k T:Nat} {A R Lo:Nat->Nat->Rat} {p q:Nat->Nat} (h:Wt n k A p q R Lo) (B:aW n n A T) (F:1<=T) {i m:Nat} (t:i<n) (D:m<k):qs (T+T) (Lo i m):=by
 by_cases y:∃a,a<=m/\i=p a
 . obtain⟨a,d,rfl⟩:=y;rw[h.low a m ω D d];exact N7 ω
 have E:∀a,a<=m->i≠p a:=λa d e=>y ⟨a,d,e⟩
 have z:m<n:=by have:=h.kn;omega
 refine A2e (R:=n) (C:=n) (T:=T) (A:=A) (a:=m) (u:=λb=>R (p b)) (X:=λb=>Lo (p b)) (r:=p) (l:=q) (s:=i) (x:=Lo i) B (λb j=>h.plt b ω) t (λb j=>h.qlt b ω) z z (λb j c w=>?_) (λb c w j=>?_) (λb j=>h.piv b ω) (λc w=>?_)
 . rw[h.dec (p b) (q c) (h.plt b ω) (h.qlt c ω),Ib (ω:b<=k) λf v g=>by rw[h.low b f ω g v,sO]]
 . exact h.zero c (p b) ω (h.plt b ω) λa d o=>by have:=h.pinj b a ω ω o;omega
 rw[h.dec i (q c) t (h.qlt c ω),h.zero c i ω t λa d=>E a ω,rD,Ib (ω:m+1<=k) λf v g=>by rw[h.zero c (p f) ω (h.plt f g) λa d o=>by have:=h.pinj f a g ω o;omega,sN],B7]
variable {n k s T:Nat} {S S':Nat->Nat} {A:Nat->Nat->Rat} {rest P Q place:Wf} {rows lower rows1 lower1:List (List C8)} {cols cols1 cols2:List S9} {r c:Int}
def EI.resize (h:EI n k S A rest P Q place rows lower cols) (b:∀a,a<=k->S a=S' a):EI n k S' A rest P Q place rows lower cols:=
 { h with
   can:=λi c=>by rw[<-b k (qU _)];exact h.can i c
   lq:=λi c j=>by rw[<-b k (qU _)];exact h.lq i c j
   fin:=λa c j=>by rw[<-b a ω];exact h.fin a c j}
def EI.tight (h:EI n k S A rest P Q place rows lower cols) (d:1<=T) (b:aW n n A T):EI n k (λ_=>T+T) A rest P Q place rows lower cols:=by
 have c:∀i,i<n->∀j:Int,qs (T+T) (A4 (rows.getD i []) j):=λi a j=>by
  by_cases l:0<=j/\j<(n:Int)
  . have:=h.elim.qsR b a (ω:j.toNat<n);unfold V9 at this;rwa[(ω:((j.toNat:Nat):Int)=j)]at this
  rw[C7 λe f g=>l (by rw[<-g];exact(h.can i a).2.1 e f)];exact N7 ω
 exact {h with
  can:=λi a=>⟨(h.can i a).1,(h.can i a).2.1,c i a⟩
  lq:=λi a j=>by
   by_cases f:0<=j/\j<(k:Int)
   . have:=h.elim.qsL b d a (ω:j.toNat<k);unfold V9 at this;rwa[(ω:((j.toNat:Nat):Int)=j)]at this
   rw[C7 λe b d=>f (by rw[<-d];exact(h.lcan i a).2 e b)];exact N7 ω
  fin:=λa b j=>c _ (h.elim.plt a b) j}
def CI.doneT (h:EI n k (λ_=>T+T) A rest P Q place rows lower cols) (i:1<=T) (d:aW n n A T) (j:c∈rest) (l:r∈S1 (cols.getD c.toNat [])) {D:Wf} (g:CI n k (T+T) rest P rows lower r c D rows1 lower1 cols1)
 (f:∀x:Int,x∈D↔x≠r/\0<=x/\x<(n:Int)/\(∀a,a<k->x.toNat≠ix P a)/\V9 rows x.toNat c.toNat≠0) {b:Wf} (o:b.Nodup) (s:∀x,x∈b↔x∈rest/\x≠c):
 EI n (k+1) (λ_=>T+T) A b (P.set k r) (Q.set k c) (place.set c.toNat k) rows1 lower1 cols1:=by
 have b:=h.resize (S':=λa=>if a<=k then T+T else 4*(T+T)+1) λa ha=>(qT ha).symm
 refine(CI.done b j l (D:=D) (by simp only[qT (qU k)];exact g) ?_ f o s).tight i d;simp only[qL (Nat.not_succ_le_self k),qT (qU k)]
def B6j {R C:Nat} (a:aW R C A T) {i j:Nat} (b:i<R) (c:j<C):qs T (A i j):=by
 have:=a 1 (λ_=>i) (λ_=>j) ω ω (λ_ _=>b) (λ_ _=>c);rwa[show det 1 (λ_ _=>A i j)=A i j from by rw[det,B7,B7,det];show 0+1*A i j*1=A i j;grind]at this
def KZ {α:Type} (l:List α) (i:Nat) (d:α):l.set i (l.getD i d)=l:=by
 refine g0e (by rw[qW]) λj b a=>?_
 rw[g1w];split
 . rename_i e;subst e;rw[H2 _ _ a]
 rfl
def Kz {α:Type} {d:α} {l:List α} {t:Int} (a:0<=t) (b:t<(l.length:Int)):l.take (t+1).toNat=l.take t.toNat++ [gx d l t]:=by
 rw[(ω:(t+1).toNat=t.toNat+1),rP,H3 (d:=d) a b];rfl
def OI {l:Wf} {n:Nat} (h:l.Nodup) (f:∀x∈l,0<=x/\x<(n:Int)):l.length<=n:=by
 refine rA λa=>?_
 have b:∀a,a<n+1->a<l.length:=λa ha=>ω
 obtain⟨a,c,i,g,j⟩:=XW n (λa=>(l.getD a 0).toNat) λa ha=>by
  have:=f _ (E2 (d:=0) (b a ha));omega
 have i:=f _ (E2 (d:=0) (b a ω));have i:=f _ (E2 (d:=0) (b c g));have f:l.getD a 0=l.getD c 0:=ω
 rw[H2 _ _ (b a ω),H2 _ _ (b c g)]at f;have:=(wM h).1 f;omega
def B1h (es:S9):(S1 es).length=es.length:=tI ..
def mY {es:S9} {y:Int×Bool} (h:y∈es):y.1∈S1 es:=vV (f:=λe:Int×Bool=>e.1) h
def jR (n:Nat) (dd:List Nat):Prop:=∀i,i<n->i∉dd
abbrev NB:=List S9×List Nat
abbrev NR:=List (List C8)×List Nat
variable {n k:Nat} {S:Nat->Nat} {A:Nat->Nat->Rat} {rest P Q place:Wf} {rows lower:List (List C8)} {cols:List S9}
def A2j {v:List C8} {m j:Int} (h:F1 v m) (b:A4 v j≠0):0<=j/\j<m:=rA λa=>b (DX h a)
def EI.more (h:EI n k S A rest P Q place rows lower cols) (u:k<n):0<rest.length:=by
 refine rA λv=>?_
 have o:rest= []:=qM ω;have g:∀c,c<n->∃a,a<k/\c=ix Q a:=λc b=>rA λhh=>by
  have:=(h.rmem (c:Int)).2 ⟨ω,ω,λa ha e=>hh ⟨a,ha,ω⟩⟩;rw[o]at this;cases this
 obtain⟨f,d⟩:∃f:Nat->Nat,∀c,c<n->f c<k/\c=ix Q (f c):=by
  refine⟨λc=>if b:c<n then(g c b).choose else 0,λc b=>?_⟩;simp only[g5f b];exact(g c b).choose_spec
 obtain⟨a,i,s,t,l⟩:=XW k f λa ha=>(d a ω).1
 have j:=(d a ω).2;have r:=(d i ω).2;rw[l]at j;omega
def EI.okRow (h:EI n k S A rest P Q place rows lower cols) (d:S k<=K1) (a:n<=16384) {i:Nat} (f:i<n):ER K1 (rows.getD i []):=by
 obtain⟨a,b,c⟩:=h.can i f;have:=Fc (n:=(n:Int)) (v:=rows.getD i []) ⟨a.1,λe he=>⟨(b e he).1,(b e he).2,(a.2 e he).1⟩⟩;exact⟨a.1,Tt a λj=>H4 (c j) d,ω⟩
def EI.lowLen (h:EI n k S A rest P Q place rows lower cols) {i:Nat} (c:i<n):(lower.getD i []).length<=k:=by
 obtain⟨a,b⟩:=h.lcan i c;have:=Fc (n:=(k:Int)) (v:=lower.getD i []) ⟨a.1,λe he=>⟨(b e he).1,(b e he).2,(a.2 e he).1⟩⟩;omega
def EI.colLen (h:EI n k S A rest P Q place rows lower cols) {c:Int} (b:c∈rest):(cols.getD c.toNat []).length<=n:=by
 obtain⟨d,a⟩:=h.col c b;rw[<-B1h];exact OI d λx b=>⟨((a x).1 b).1,((a x).1 b).2.1⟩
def EI.pick (h:EI n k S A rest P Q place rows lower cols) {b:Nat} (a:b<rest.length):(rest.take b++rest.drop (b+1)).Nodup/\∀x,x∈rest.take b++rest.drop (b+1)↔x∈rest/\x≠rest.getD b 0:=by
 have j:rest=rest.take b++rest.getD b 0::rest.drop (b+1):=by
  rw[H2 _ _ a, <-xI a,tP]
 have d:=h.rnd;generalize rest.getD b 0=c at*;generalize rest.take b=u at*;generalize rest.drop (b+1)=v at*;subst j;rw[sF]at d;obtain⟨s,t,f⟩:=d;obtain⟨o,r⟩:=sP.1 t;refine⟨sF.2 ⟨s,r,λg i b a=>f g i b (qI _ a)⟩,λx=>?_⟩;rw[qS,qS,qV];constructor
 . rintro(hx|hx)
   . exact⟨.inl hx,λe=>f x hx c rB e⟩
   exact⟨.inr (.inr hx),λe=>o (e▸hx)⟩
 rintro⟨hx|hx|hx,l⟩
 . exact .inl hx
 . exact absurd hx l
 exact .inr hx
def HG (n:Nat) (rest:Wf) (Bs:Int->Int->Prop) (i:Int) (v:List C8) (p:Int×NB×Unit):Prop:=0<=p.1/\p.1<=(v.length:Int)/\p.2.1.1.length=n/\jR n p.2.1.2/\∀j:Int,j∈rest->(0<=j/\j<(n:Int))/\kZ Bs i (v.take p.1.toNat) j (p.2.1.1.getD j.toNat [])
def cW (n:Nat) (rest:Wf) (Bs:Int->Int->Prop) (i:Int) (v:List C8) (p:Int×NB×Unit):Prop:=0<=p.1/\p.1<=(v.length:Int)/\p.2.1.1.length=n/\jR n p.2.1.2/\∀j:Int,j∈rest->(0<=j/\j<(n:Int))/\kY Bs i (v.take p.1.toNat) j (p.2.1.1.getD j.toNat [])
def QA (n:Nat) (F:Nat->Int->Rat) (i:Int) (v:List C8) (p:Int×NB×Unit):Prop:=0<=p.1/\p.1<=(v.length:Int)/\p.2.1.1.length=n/\jR n p.2.1.2/\∀j:Int,0<=j->j<(n:Int)->fV i F (v.take p.1.toNat) j (p.2.1.1.getD j.toNat [])
variable {Bs:Int->Int->Prop} {i t:Int} {v:List C8} {dd:List Nat} {F:Nat->Int->Rat}
def HG.rng (h:HG n rest Bs i v (t,(cols,dd),())) (c:∀e∈v,0<=e.1/\e.1<(n:Int)) (b:t<(v.length:Int)):(0<=t/\t<(v.length:Int))/\(0<=(gx D7 v t).1/\(gx D7 v t).1<((cols.length:Nat):Int))/\(gx D7 v t).1.toNat∉dd:=by
 have a:=c (gx D7 v t) (G4 (d:=D7) (i:=t) h.1 b);have c:cols.length=n:=h.2.2.1;exact⟨⟨h.1,b⟩,⟨a.1,by rw[c];exact a.2⟩,h.2.2.2.1 _ ω⟩
def HG.next (h:HG n rest Bs i v (t,(cols,dd),())) (hv:∀e∈v,0<=e.1/\e.1<(n:Int)) (ht:t<(v.length:Int)):HG n rest Bs i v (t+1,(cols.set (gx D7 v t).1.toNat (Pp (.int .i64) i (cols.getD (gx D7 v t).1.toNat [])),dd),()):=by
 obtain⟨b,_,c,f,g⟩:=h;simp only at b c f g;refine⟨by simp only;omega,by simp only;omega,by simp only;rw[qW];exact c,f,λj a=>?_⟩;obtain⟨⟨l,o⟩,k⟩:=g j a;refine⟨⟨l,o⟩,?_⟩;have r:=hv _ (G4 (d:=D7) b ht);simp only;rw[Kz (d:=D7) b ht];generalize gx D7 v t=e at*;by_cases a:e.1=j
 . subst a;rw[C4 ω];exact A9j k rfl
 rw[F2 ω];exact A5q k a
def cW.rng (h:cW n rest Bs i v (t,(cols,dd),())) (c:∀e∈v,0<=e.1/\e.1<(n:Int)) (b:t<(v.length:Int)):(0<=t/\t<(v.length:Int))/\(0<=(gx D7 v t).1/\(gx D7 v t).1<((cols.length:Nat):Int))/\(gx D7 v t).1.toNat∉dd:=by
 have a:=c (gx D7 v t) (G4 (d:=D7) (i:=t) h.1 b);have c:cols.length=n:=h.2.2.1;exact⟨⟨h.1,b⟩,⟨a.1,by rw[c];exact a.2⟩,h.2.2.2.1 _ ω⟩
def cW.next {b:Bool} (h:cW n rest Bs i v (t,(cols,dd),())) (hv:∀e∈v,0<=e.1/\e.1<(n:Int)) (ht:t<(v.length:Int)):cW n rest Bs i v (t+1,(cols.set (gx D7 v t).1.toNat (Ej (.int .i64) i b (cols.getD (gx D7 v t).1.toNat [])),dd),()):=by
 obtain⟨c,_,f,g,k⟩:=h;simp only at c f g k;refine⟨by simp only;omega,by simp only;omega,by simp only;rw[qW];exact f,g,λj a=>?_⟩;obtain⟨⟨o,r⟩,l⟩:=k j a;refine⟨⟨o,r⟩,?_⟩;have s:=hv _ (G4 (d:=D7) c ht);simp only;rw[Kz (d:=D7) c ht];generalize gx D7 v t=e at*;by_cases a:e.1=j
 . subst a;rw[C4 ω];exact A9i l rfl
 rw[F2 ω];exact A5p l a
def QA.rng (h:QA n F i v (t,(cols,dd),())) (c:∀e∈v,0<=e.1/\e.1<(n:Int)) (b:t<(v.length:Int)):(0<=t/\t<(v.length:Int))/\(0<=(gx D7 v t).1/\(gx D7 v t).1<((cols.length:Nat):Int))/\(gx D7 v t).1.toNat∉dd:=by
 have a:=c (gx D7 v t) (G4 (d:=D7) (i:=t) h.1 b);have c:cols.length=n:=h.2.2.1;exact⟨⟨h.1,b⟩,⟨a.1,by rw[c];exact a.2⟩,h.2.2.2.1 _ ω⟩
def QA.next {b:Bool} (h:QA n F i v (t,(cols,dd),())) (hv:∀e∈v,0<=e.1/\e.1<(n:Int)) (ht:t<(v.length:Int)):QA n F i v (t+1,(cols.set (gx D7 v t).1.toNat (Ej (.int .i64) i b (cols.getD (gx D7 v t).1.toNat [])),dd),()):=by
 obtain⟨a,_,c,f,g⟩:=h;simp only at a c f g;refine⟨by simp only;omega,by simp only;omega,by simp only;rw[qW];exact c,f,λj o r=>?_⟩;have s:=hv _ (G4 (d:=D7) a ht);simp only;rw[Kz (d:=D7) a ht];have k:=g j o r;generalize gx D7 v t=e at*;by_cases l:e.1=j
 . subst l;rw[C4 ω];exact A9k k rfl
 rw[F2 ω];exact A5s k l
def KD (n:Nat) (p:Int×NB×Wf×Unit):Prop:=0<=p.1/\p.1<=(n:Int)/\p.2.1.1.length=n/\(∀j,p.2.1.1.getD j []= [])/\(∀i∈p.2.1.2,p.1<=(i:Int))/\p.2.2.1.length=n/\∀i:Nat,(i:Int)<p.1->p.2.2.1.getD i 0=(i:Int)
def KD.init:KD n (0,(List.replicate n [],Pr (Ty.mp false (Ty.int i64) false Ty.bool) n),List.replicate n 0,()):=by
 refine⟨by simp only;omega,by simp only;omega,by simp only;rw[rK],λj=>?_,λi _=>qF i,by simp only;rw[rK],λi a=>?_⟩
 . simp only;rw[qE,vE];split<;>rfl
 simp only at a;omega
def KD.next {left:Wf} (h:KD n (t,(cols,dd),left,())) (ht:t<(n:Int)):KD n (t+1,(cols.set t.toNat [],PK t.toNat dd),left.set t.toNat t,()):=by
 obtain⟨o,_,c,d,f,g,k⟩:=h;simp only at o c d f g k;refine⟨by simp only;omega,by simp only;omega,by simp only;rw[qW];exact c,λj=>?_,λi b=>?_,by simp only;rw[qW];exact g,λi b=>?_⟩
 . simp only;by_cases a:j=t.toNat
   . subst a;rw[C4 ω]
   rw[F2 a];exact d j
 . simp only at b|-;obtain⟨l,r⟩:=YV.1 b;have:=f i l;omega
 simp only at b|-;by_cases a:i=t.toNat
 . subst a;rw[C4 ω];omega
 rw[F2 a];exact k i ω
def GA (n:Nat) (D:List (List C8)) (p:Int×List (List C8)×NB×Unit):Prop:=0<=p.1/\p.1<=(n:Int)/\p.2.1.length=n/\(∀i:Nat,(i:Int)<p.1->IT (A4 (D.getD i [])) (p.2.1.getD i []))/\p.2.2.1.1.length=n/\jR n p.2.2.1.2/\∀j:Int,0<=j->j<(n:Int)->fV p.1 (λi=>A4 (D.getD i [])) [] j (p.2.2.1.1.getD j.toNat [])
def GA.init {left:Wf} {D:List (List C8)} (h:KD n (t,(cols,dd),left,())) (s:(n:Int)<=t):GA n D (0,List.replicate n [],(cols,dd),()):=by
 obtain⟨g,_,b,c,d,k,l⟩:=h;simp only at g b c d k l;refine⟨by simp only;omega,by simp only;omega,by simp only;rw[rK],λi f=>by simp only at f;omega,b,λi f r=>by have:=d i r;omega,λj u v=>?_⟩;simp only;rw[c];refine⟨wF,λx=>⟨λa=>(by cases a),λa=>?_⟩⟩;rcases a with⟨w,y,_⟩ | ⟨_,e,o,_⟩
 . omega
 cases o
def GA.row {D:List (List C8)} {rs:List (List C8)} (h:GA n D (t,rs,(cols,dd),())):QA n (λi=>A4 (D.getD i [])) t (D.getD t.toNat []) (0,(cols,dd),()):=by
 obtain⟨d,_,f,g,a,b,c⟩:=h;exact⟨qH _,qF _,a,b,λj d f=>c j d f⟩
def GA.next {D:List (List C8)} {rs:List (List C8)} {cols2:List S9} {dd2:List Nat} {u:Int} {w:List C8} (h:GA n D (t,rs,(cols,dd),())) (ht:t<(n:Int)) {m:Int} (hv:F1 (D.getD t.toNat []) m) (hw:IT (A4 (D.getD t.toNat [])) w) (hf:QA n (λi=>A4 (D.getD i [])) t (D.getD t.toNat []) (u,(cols2,dd2),())) (hu:((D.getD t.toNat []).length:Int)<=u):GA n D (t+1,rs.set t.toNat w,(cols2,dd2),()):=by
 obtain⟨d,_,f,g,r,s,v⟩:=h;obtain⟨o,_,a,b,c⟩:=hf;simp only at d f g r s v o a b c;refine⟨by simp only;omega,by simp only;omega,by simp only;rw[qW];exact f,λi x=>?_,a,b,λj y z=>?_⟩
 . simp only at x|-;by_cases l:i=t.toNat
   . subst l;rw[C4 ω];exact hw
   rw[F2 l];exact g i ω
 simp only;have k:=c j y z;rw[E9 hu]at k;exact A5r k d hv rfl
def B6p (n:Nat) (M:J1) (p:Int×Wf×Wf×Wf×Wf×List (List C8)×NR×NB×Unit):Prop:=0<=p.1/\p.1<=(n:Int)/\(∀s,1<=s->aW n n (el M) s->EI n p.1.toNat (λ_=>s+s) (el M) p.2.1 p.2.2.1 p.2.2.2.1 p.2.2.2.2.1 p.2.2.2.2.2.1 p.2.2.2.2.2.2.1.1 p.2.2.2.2.2.2.2.1.1)/\jR n p.2.2.2.2.2.2.1.2/\jR n p.2.2.2.2.2.2.2.1.2
def B6p.init {M:J1} {left:Wf} {cols2:List S9} {B:List Nat} {rs:List (List C8)} {u:Int} (y:A7 M) (V:WH M) (Q:M.1=(n:Int)) (P:M.2.1=(n:Int)) (h:KD n (t,(cols2,B),left,())) (X:(n:Int)<=t) (g:GA n M.2.2 (u,rs,(cols,dd),())) (A:(n:Int)<=u):B6p n M (0,left,List.replicate n 0,List.replicate n 0,List.replicate n 0,rs,(List.replicate n [],Pr (Ty.sl (.pair (.int .i64) (.pair (.pair .bool (.sl (.int .u32))) (.sl (.int .u32))))) n),(cols,dd),()):=by
 obtain⟨G,H,I,J,N,w,x⟩:=h;obtain⟨D,E,k,l,o,r,v⟩:=g;simp only at G H I J N w x D E k l o r v;have A:u=(n:Int):=ω
 subst A;refine⟨qH _,qF _,λs W O=>?_,λi a f=>(by cases f),r⟩;have U:(M.2.2.length:Int)=(n:Int):=by rw[y.2.2.2.2.1,Q]
 have b:∀i,i<n->F1 (M.2.2.getD i []) (n:Int):=λi a=>by
  have f:=E2 (d:=([]:List C8)) (ω:i<M.2.2.length);exact P▸y.2.2.2.2.2 _ f
 have T:∀(i:Nat) (j:Int),i<n->qs (s+s) (A4 (M.2.2.getD i []) j):=λi j a=>by
  by_cases c:0<=j/\j<(n:Int)
  . have:=B6j O a (ω:j.toNat<n);unfold el at this;rw[(ω:((j.toNat:Nat):Int)=j)]at this;exact H4 this ω
  rw[C7 λe z R=>c (by rw[<-R];exact⟨((b i a).2 e z).1,((b i a).2 e z).2.1⟩)];exact N7 ω
 exact EI.start (F:=λi=>A4 (M.2.2.getD i [])) (λi j _ _=>rfl) w (λi a=>x i ω) rK rK rK k rK o (λi a=>l i ω) (λi j a c=>A2j (b i a) c) (λi j a=>T i j a) (λi a=>by rw[qE,vE,qT a];rfl) v
def Qo:An:= {loop:= [(5,⟨[1,5,14,15],[],[(16,false,vI)],[],[(0, .row .bool 4)]⟩)]}
def UH:An:= {plan:= [(3,[0,1,2],[5],true, .done)]}
def Tn:An:= {}
def Fu(x:HZ):Prop:=let b:=(x.1.length:Int);let a:=(0:Int);(iB (decide (b≠x.2.1)) (false=decide (K2 x.1 x.2.1)) ((a<=x.2.1/\x.2.1<=x.2.1/\(↑(1:Nat):Int)*x.2.1<=281474976710656/\x.2.1<=9223372036854775807)/\∃(I:A7u->Prop),∃(d: _->Nat),I (a,List.replicate x.2.1.toNat false,())/\∀(p:A7u),let h:=(decide (gx a x.1 p.1<a));let g:=(p.2.1.length:Int);let f:=(decide (x.2.1<=gx a x.1 p.1));let e:=(List.getD p.2.1 (gx a x.1 p.1).toNat false);let i:=(M0 h true f);let c:=(i64.wrap (p.1+1),List.set p.2.1 (gx a x.1 p.1).toNat true,());(Ty.int i64).wf p.1/\(List.length p.2.1<=9223372036854775807/\∀(x:Bool),x∈p.2.1->True)/\True->I p->(iB (decide (p.1<b)) ((a<=p.1/\p.1<b)/\(M0 h true f=false->a<=gx a x.1 p.1/\gx a x.1 p.1<g)/\(iB (M0 i true e) (false=decide (K2 x.1 x.2.1)) ((a<=gx a x.1 p.1/\gx a x.1 p.1<g)/\I c/\d c<d p))) (true=decide (K2 x.1 x.2.1)))))
def AN(x:jF):Prop:=let a:=(rv x.1-rv x.2.1*rv x.2.2.1);True/\Ef λr=>r.1=(rv x.2.2.1).num.sign->(iB (decide (r.1=0)) ((rv x.2.2.1=(0:Rat)->x.1=x.1)/\(rv x.2.2.1≠(0:Rat)->x.1=rc a)) ((N6 x.2.1/\N6 x.2.2.1)/\P6 λr=>r.1=rc (rv x.2.1*rv x.2.2.1)->(N6 x.1/\N6 r.1)/\P6 λb=>b.1=rc (rv x.1-rv r.1)->(rv x.2.2.1=(0:Rat)->b.1=x.1)/\(rv x.2.2.1≠(0:Rat)->b.1=rc a)))
def He(x:Mq):Prop:=let b:=(decide (x.1.1=x.2.1));let a:=(decide (x.1.2.1=x.2.1));(M0 b a false=true->True)/\∀(r:Ax),(M0 b a false=true->(True/\True)/\r.1=decide (A7 x.1))->M0 (M0 b a false) r.1 false=decide (sqr x.1 x.2.1)
def PI (l:Wf) (n t:Int) (s:List Bool):Prop:=0<=t/\t<=(l.length:Int)/\(s.length:Int)=n/\(∀i∈l.take t.toNat,0<=i/\i<n)/\(l.take t.toNat).Nodup/\∀k:Nat,(k:Int)<n->(s.getD k false=true↔(k:Int)∈l.take t.toNat)
def PI0 {l:Wf} {n:Int} (b:0<=n):PI l n 0 (List.replicate n.toNat false):=by
 refine⟨qH _,qF _,by rw[rK];omega,λi a=>(by cases a),wF,λk _=>?_⟩;rw[qE,vE];constructor
 . intro h;split at h<;>cases h
 intro h;cases h
def TV {l:Wf} {t:Int} (a:0<=t) (b:t<(l.length:Int)):l.take (t+1).toNat=l.take t.toNat++ [gx 0 l t]:=by
 rw[(ω:(t+1).toNat=t.toNat+1),rP,H3 (d:=(0:Int)) a b];rfl
def A8k {l:Wf} {n t:Int} {s:List Bool} (h:PI l n t s) (b:t<(l.length:Int)) (hb:gx 0 l t<0\/n<=gx 0 l t\/s.getD (gx 0 l t).toNat false=true):¬K2 l n:=by
 rintro⟨_,f,g⟩;obtain⟨c,_,_,_,_,j⟩:=h;have i:=G4 (d:=(0:Int)) c b;obtain⟨k,o⟩:=f _ i;rcases hb with hb|hb|hb
 . omega
 . omega
 have:=(j (gx 0 l t).toNat ω).1 hb;rw[(ω:(((gx 0 l t).toNat:Nat):Int)=gx 0 l t)]at this;have a:(l.take (t+1).toNat).Nodup:=g.take;rw[TV c b,sF]at a;exact a.2.2 _ this _ (qK.2 rfl) rfl
def A2o {l:Wf} {n t:Int} {s:List Bool} (h:PI l n t s) (b:t<(l.length:Int)) (j:0<=gx 0 l t) (o:gx 0 l t<n) (A:s.getD (gx 0 l t).toNat false=false):PI l n (t+1) (s.set (gx 0 l t).toNat true):=by
 obtain⟨c,E,w,z,x,g⟩:=h;have y:gx 0 l t∉l.take t.toNat:=λhm=>by
  have:=(g (gx 0 l t).toNat ω).2 (by rw[(ω:(((gx 0 l t).toNat:Nat):Int)=gx 0 l t)];exact hm);rw[A]at this;cases this
 refine⟨ω,ω,by rw[qW];exact w,λi a=>?_,?_,λk v=>?_⟩
 . rw[TV c b,qS,qK]at a;rcases a with a|rfl
   . exact z i a
   exact⟨j,o⟩
 . rw[TV c b,sF];refine⟨x,by simp,λB r D d u=>?_⟩;rw[qK]at d;subst d u;exact y r
 rw[TV c b,qS,qK, <-g k v];by_cases f:(gx 0 l t).toNat=k
 . rw[f,qE,sS ω];exact⟨λ_=> .inr ω,λ_=>rfl⟩
 rw[qE,sY f, <-qE];exact⟨.inl,λh=>h.resolve_right ω⟩
def Ms:sr O4 Fu:=λx r i=>by
 obtain⟨(l:Wf),(n:Int),_⟩:=x;obtain⟨g,o⟩:0<=n/\n<=16384:=i;simp only[Fu,iB];refine⟨λh=>?_,λh=>⟨⟨g,qH _,ω,ω⟩,?_⟩⟩
 . have h:=qA h;exact(rI λa=>h a.1).symm
 have h:=tS.1 (qB h);refine⟨λp=>PI l n p.1 p.2.1,λp=>((l.length:Int)-p.1).toNat,PI0 g,?_⟩;rintro⟨(t:Int),(s:List Bool),_⟩ _ c;simp only at c|-;obtain⟨j,u,k,_⟩:=id c;refine⟨λb=>?_,λb=>?_⟩
 . have b:=qA b;rw[H5,H5];refine⟨⟨j,b⟩,λa=>?_,λa=>?_,λa=>?_⟩
   . simp only[rE,rO]at a;omega
   . simp only[uE,rU]at a;exact(rI (A8k c b (by rcases a with(a|a) |a;exact .inl a;exact .inr (.inl a);exact .inr (.inr a)))).symm
   simp only[rE,rO]at a;rw[wv ω];exact⟨ω,A2o c b ω ω a.2,ω⟩
 have b:=qB b;obtain⟨_,_,_,d,f,_⟩:=c;rw[E9 ω]at d f;exact(rF ⟨h,d,f⟩).symm
def Nf:sr O6 Fw:=λx k g=>by
 obtain⟨(l:Wf),_⟩:=x;have j:l.length<=100000:=g;simp only[Fw,iB];refine⟨⟨qF _,qH _,ω,ω⟩,λp=>PI l (l.length:Int) p.1 p.2.1,λp=>((l.length:Int)-p.1).toNat,PI0 (qF _),?_⟩;rintro⟨(t:Int),(s:List Bool),_⟩ _ c;simp only at c|-;obtain⟨h,n,i,_⟩:=id c;refine⟨λb=>?_,λb=>?_⟩
 . have b:=qA b;rw[H5,H5];refine⟨⟨h,b⟩,λa=>?_,λa=>?_,λa=>?_⟩
   . simp only[rE,rO]at a;omega
   . simp only[uE,rU]at a;exact(rI (A8k c b (by rcases a with(a|a) |a;exact .inl a;exact .inr (.inl a);exact .inr (.inr a)))).symm
   simp only[rE,rO]at a;rw[wv ω];exact⟨ω,A2o c b ω ω a.2,ω⟩
 have b:=qB b;obtain⟨_,_,_,d,f,_⟩:=c;rw[E9 ω]at d f;exact(rF ⟨rfl,d,f⟩).symm
def LK:sr En AN:=λx j u=>by
 obtain⟨k,l,d,_⟩:=x;obtain⟨o,i,g⟩:sz K1 k/\sz K1 l/\sz K1 d:=u;have t:=KB j.2.1;have s:=KB j.2.2.1;simp only[AN,iB,P6,Ef];refine⟨trivial,?_⟩;rintro⟨(r:Int),_⟩ _ b;simp only at b|-;refine⟨λh=>?_,λh=>⟨⟨R8 i δ,R8 g δ⟩,?_⟩⟩
 . have h:=qA h;rw[b,B8w]at h;exact⟨λ_=>by trivial,λa=>absurd h a⟩
 have c:rv d≠0:=λc=>qB h (by rw[b,B8w];exact c)
 rintro⟨p,_⟩ _ f;simp only at f|-;subst f;refine⟨⟨R8 o δ,Ik (Pu (Ly t i δ) (Ly s g δ)) δ⟩,?_⟩;rintro⟨q,_⟩ _ a;simp only at a|-;refine⟨λn=>absurd n c,λ_=>?_⟩;rw[a,L5]
def mvE (p:Wf) (e:C8):C8:=(p.getD e.1.toNat 0,e.2)
def A4f {p:Wf} (h:K2 p (p.length:Int)) {a i:Int} (b:0<=a) (f:a<(p.length:Int)) (g:0<=i) (j:i<(p.length:Int)):p.getD a.toNat 0=i↔a=((List.idxOf i p:Nat):Int):=by
 have b:a.toNat<p.length:=ω
 constructor
 . intro g;have l:i∈p:=g▸E2 b;have j:=yI l;have k:p[List.idxOf i p]=i:=g1e j;rw[H2 _ _ b, <-k]at g;have:=(wM h.2.2).1 g;omega
 intro g;have l:i∈p:=by
  obtain⟨b,f,r⟩:=Cz (n:=p.length) (q:=λb=>(p.getD b 0).toNat) (λb f=>by have:=h.2.1 _ (E2 (d:=0) f);omega) (λb c f s o=>by
   have t:=h.2.1 _ (E2 (d:=0) f);have u:=h.2.1 _ (E2 (d:=0) s);have o:(p.getD b 0).toNat=(p.getD c 0).toNat:=o;have e:p.getD b 0=p.getD c 0:=ω
   rw[H2 _ _ f,H2 _ _ s]at e;exact(wM h.2.2).1 e) (ω:i.toNat<p.length)
  have t:=h.2.1 _ (E2 (d:=0) f);have r:(p.getD b 0).toNat=i.toNat:=r;rw[(ω:i=p.getD b 0)];exact E2 f
 have j:=yI l;have k:p[List.idxOf i p]=i:=g1e j;rw[g,qO,H2 _ _ j,k]
def A2x {p:Wf} (h:K2 p (p.length:Int)):∀ {c:List C8},(∀e∈c,0<=e.1/\e.1<(p.length:Int))->∀i,A4 (c.map (mvE p)) i=if 0<=i/\i<(p.length:Int)then A4 c ((List.idxOf i p:Nat):Int)else 0
 | [],_,i=>by split<;>rfl
 |e::c,a,i=>by
  obtain⟨f,g⟩:=a e (rB ..);have b:=A2x h (λx hx=>a x (qI _ hx)) i;rw[rW,A4,A4,b];have k:=h.2.1 _ (E2 (d:=0) (ω:e.1.toNat<p.length));by_cases a:0<=i/\i<(p.length:Int)
  . rw[qT a,qT a];congr 1;show(if p.getD e.1.toNat 0=i then rv e.2 else 0)= _;by_cases b:p.getD e.1.toNat 0=i
    . rw[qT b,qT ((A4f h f g a.1 a.2).1 b)]
    rw[qL b,qL λj=>b ((A4f h f g a.1 a.2).2 j)]
  rw[qL a,qL a,rD];exact qL λb=>a (by rw[<-b];exact k)
def BP:sr U6 Oy:=λx a7 V=>by
 obtain⟨(v:List C8),(p:Wf),_⟩:=x;have B:ER K1 v/\p.length<=100000:=V;obtain⟨B,W⟩:=B;simp only[Oy,iB,SP,Od];refine⟨W,?_⟩;rintro⟨(r:Bool),_⟩ _ E;simp only at E|-;refine⟨λn w=>?_,λn=>⟨.inl B,?_⟩⟩
 . rw[E,rF w]at n;cases n
 have w:K2 p (p.length:Int):=by
  refine rA λO=>?_
  rw[E,rI O]at n;cases n
 rintro⟨(c:List C8),_⟩ ⟨⟨y,_⟩,_⟩ b;simp only at b y|-;have y:c.length<=9223372036854775807:=y;refine⟨λq=>0<=q.1/\q.1<=(c.length:Int)/\q.2.1=(c.take q.1.toNat).map (mvE p)++c.drop q.1.toNat/\∀e∈c.take q.1.toNat,0<=e.1/\e.1<(p.length:Int),λq=>((c.length:Int)-q.1).toNat,⟨qH _,qF _,rfl,λe a=>(by cases a)⟩,?_⟩;rintro⟨(i:Int),(u:List C8),_⟩ _ ⟨N,Z,g,d⟩;simp only at N Z g d|-;refine⟨λk=>?_,λk=>?_⟩
 . have k:=qA k;have o:i.toNat<c.length:=ω
   have U:u.length=c.length:=by rw[g,rN,tI,qY,sL];omega
   have J:((c.take i.toNat).map (mvE p)).length=i.toNat:=by rw[tI,qY];omega
   have H:c.drop i.toNat=c.getD i.toNat D7::c.drop (i.toNat+1):=by rw[H2 _ _ o];exact xI o
   have T:u.getD i.toNat D7=c.getD i.toNat D7:=by
    rw[g,H,qE,tG ω,J,yP];rfl
   have F:c.getD i.toNat D7∈c:=E2 o;have G:0<=i/\i<(u.length:Int):=⟨N,by rw[U];exact k⟩;rw[T];refine⟨G,λh _ l=>?_,λh=>?_⟩
   . exfalso;rw[H5]at h;simp only[uE,rU]at h;have:=l (c.getD i.toNat D7).1 (by rw[<-b.2,N2 b.1.1 F];exact(b.1.2 _ F).1);omega
   rw[H5]at h;simp only[rE,rO]at h;have l:0<=(c.getD i.toNat D7).1/\(c.getD i.toNat D7).1<(p.length:Int):=⟨ω,ω⟩;rw[wv ω,L3 l.1 l.2];have I:c.take (i+1).toNat=c.take i.toNat++ [c.getD i.toNat D7]:=by
    rw[(ω:(i+1).toNat=i.toNat+1)];rw[rP,qN o,H2 _ _ o];rfl
   refine⟨l,G,⟨ω,ω,?_,λe a=>?_⟩,ω⟩
   . rw[I,g,H,vP,uC,g2z _ _ ω,J,yP,(ω:(i+1).toNat=i.toNat+1)];rfl
   rw[I]at a;rcases qS.1 a with a|a
   . exact d e a
   rw[qK]at a;subst a;exact l
 have k:=qB k;rw[E9 ω]at g d;rw[sG ω,vY]at g;subst g;have R:F1 c (p.length:Int):=⟨b.1.1,λe a=>⟨(d e a).1,(d e a).2,(b.1.2 e a).1⟩⟩;refine⟨?_,λa0 _ D X _ _=>⟨⟨⟨?_,λe a=>?_⟩,λj=>?_⟩,by trivial⟩⟩
 . have:=Fc R;have M:∀z:Nat,z=c.length->z<=100000:=λz M=>ω
   exact M _ (tI ..)
 . have A:(a0.map λe:C8=>e.1).Nodup:=by
    rw[(D.map λe:C8=>e.1).nodup_iff,g4k];have f:(c.map λe:C8=>e.1).Nodup:=by
     unfold List.Nodup;rw[wU];exact b.1.1.imp λh=>ω
    unfold List.Nodup at f|-;rw[wU]at f|-;refine List.Pairwise.imp_of_mem (λ{s t} O Q P a=>P ?_) f;obtain⟨a2,a3⟩:=d s O;obtain⟨a4,a5⟩:=d t Q;have a:p.getD s.1.toNat 0=p.getD t.1.toNat 0:=a;rw[H2 _ _ ω,H2 _ _ ω]at a;have:=(wM w.2.2).1 a;omega
   unfold List.Nodup at A;rw[wU]at A;refine g1b ?_ X A;intro s t f a6;have:s.1<=t.1:=by
    unfold M7 at f;split at f
    . omega
    split at f<;>omega
   omega
 . obtain⟨a1,Y,rfl⟩:=tX.1 (D.mem_iff.1 a);exact b.1.2 a1 Y
 rw[VG D,A2x w d];simp only[b.2]
def UN:An:= {join:= [(4,⟨[],[],[(0,false,[.val qa]),(1,false,[.val qa])],[],[]⟩),(12,⟨[0,1,5,7,24,25,26],[0],[(6,false,vU)],[],[]⟩)],loop:= [(7,⟨[0,1,5,24,25],[],[(6,false,vU),(26,false,vI)],[],[(0, .row qf 108)]⟩)]}
def UQ:An:= {join:= [(12,⟨[1,6,8,22,23,24],[0],[(10,false,vU)],[],[]⟩)],loop:= [(7,⟨[1,6,22,23],[],[(7,false,vU),(24,false,vI)],[],[(0, .row qf 108)]⟩)]}
def UP:An:= {join:= [(18,⟨[1,5,29,30,31],[],[],[],[(0, .row qf 108)]⟩)],loop:= [(11,⟨[1,5,6,7,29,30,31,38,39],[],[(8,false,vU),(40,false,vI)],[],[(0, .row qf 108)]⟩),(6,⟨[1,5,29,30],[],[(31,false,vI)],[],[(0, .row qf 108)]⟩)]}
def Qp:An:= {loop:= [(4,⟨[0,1,4],[],[(6,false,vU),(7,false,vI)],[],[(0, .row qf 108)]⟩)]}
def Wy:An:= {join:= [(15,⟨[0,6,7,8,29,30,31],[0],[(10,false,vU)],[],[]⟩)],loop:= [(10,⟨[0,6,7,29,30],[],[(31,false,vI)],[],[(0, .row qf 108)]⟩)]}
def GW:An:= {loop:= [(4,⟨[0,1,5,13,14],[],[(6,false,vU),(15,false,vI)],[],[(0, .row qf 108)]⟩)]}
abbrev Sr:=Int×Int×Wf×Unit
def AY(x:Eh):Prop:=let f:=(1:Int);let c:=(0:Int);True/\R0 λr=>r.1=nc (nv x.1)->True/\R0 λj=>let e:Prop:=((r.1.length:Int)<(j.1.length:Int));j.1=nc (nv x.2.1)->∃(J:Eh->Prop),((iB (decide e) (J (j.1,r)) (J (r.1,j))))/\∀(p:Eh),let d:=(p.2.1.length:Int);let a:=(p.1.length:Int);(Ty.int u32).sl.wf p.1/\(Ty.int u32).sl.wf p.2.1/\True->J p->(c<=i64.wrap (a+f)/\i64.wrap (a+f)<=i64.wrap (a+f)/\(↑(4:Nat):Int)*i64.wrap (a+f)<=(281474976710656:Int)/\i64.wrap (a+f)<=(9223372036854775807:Int))/\∃(I:Sr->Prop),∃(k: _->Nat),I (c,c,List.replicate (i64.wrap (a+f)).toNat c,())/\∀(i:Sr),let h:=(gx c p.1 i.2.1);let g:=(i.2.2.1.length:Int);(Ty.int u64).wf i.1/\(Ty.int i64).wf i.2.1/\Hi i.2.2.1/\True->I i->(iB (decide (i.2.1<a)) ((c<=i.2.1/\i.2.1<a)/\∃(J:D8->Prop),((iB (decide (i.2.1<d)) ((c<=i.2.1/\i.2.1<d)/\J (u64.wrap (u64.wrap (i.1+u64.wrap h)+u64.wrap (gx c p.2.1 i.2.1)),())) (J (u64.wrap (i.1+u64.wrap h),()))))/\∀(p:D8),let b:=(Int.fdiv p.1 ((2:Int)^Min.min ((32:Int).toNat) u64.bits),i64.wrap (i.2.1+f),List.set i.2.2.1 i.2.1.toNat (u32.wrap p.1),());(Ty.int u64).wf p.1/\True->J p->(c<=i.2.1/\i.2.1<g)/\(0:(Ty.int u64).den)<=(32:Int)/\I b/\k b<k i) ((c<=a/\a<g)/\True/\R0 λr=>r.1=nc (nv (List.set i.2.2.1 a.toNat (u32.wrap i.1)))->r.1=nc (nv x.1+nv x.2.1)))
def BC(x:Eh):Prop:=let f:=(nv x.1-nv x.2.1);let c:=(0:Int);True/\R0 λr=>let a:=(r.1.length:Int);r.1=nc (nv x.1)->True/\R0 λg=>let d:=(g.1.length:Int);g.1=nc (nv x.2.1)->True/\Ef λi=>i.1=Da (nv r.1) (nv g.1)->(iB (decide (i.1<c)) ((nv x.1<nv x.2.1->Ps Int= []/\false=false)/\(nv x.2.1<=nv x.1->Ps Int=nc f/\false=true)) ((c<=a/\a<=a/\(↑(4:Nat):Int)*a<=(281474976710656:Int)/\a<=(9223372036854775807:Int))/\∃(I:Sr->Prop),∃(j: _->Nat),I (c,c,List.replicate a.toNat c,())/\∀(p:Sr),let e:=(u64.wrap (gx c r.1 p.2.1)-p.1);(Ty.int u64).wf p.1/\(Ty.int i64).wf p.2.1/\Hi p.2.2.1/\True->I p->(iB (decide (p.2.1<a)) ((c<=p.2.1/\p.2.1<a)/\∃(J:D8->Prop),((iB (decide (p.2.1<d)) ((c<=p.2.1/\p.2.1<d)/\J (u64.wrap (u64.wrap e-u64.wrap (gx c g.1 p.2.1)),())) (J (u64.wrap e,()))))/\∀(h:D8),let b:=(Int.fdiv h.1 ((2:Int)^Min.min ((63:Int).toNat) u64.bits),i64.wrap (p.2.1+1),List.set p.2.2.1 p.2.1.toNat (u32.wrap h.1),());(Ty.int u64).wf h.1/\True->J h->(c<=p.2.1/\p.2.1<(p.2.2.1.length:Int))/\(0:(Ty.int u64).den)<=(63:Int)/\I b/\j b<j p) (True/\R0 λr=>r.1=nc (nv p.2.2.1)->(nv x.1<nv x.2.1->r.1= []/\true=false)/\(nv x.2.1<=nv x.1->r.1=nc f/\true=true)))))
abbrev A2g:=Int×Wf×Unit
def BB(x:Eh):Prop:=let o:=(nv x.1*nv x.2.1);let k:=(0:Int);True/\∀(r:Mp),let j:=(r.1.length:Int);let e:Prop:=(j=k);Hi r.1/\True->r.1=nc (nv x.1)->True/\∀(s:Mp),let h:=(s.1.length:Int);let d:Prop:=(h=k);Hi s.1/\True->s.1=nc (nv x.2.1)->(iB (M0 (decide e) true (decide d)) (Ps Int=nc o) ((k<=i64.wrap (j+h)/\i64.wrap (j+h)<=i64.wrap (j+h)/\(↑(4:Nat):Int)*i64.wrap (j+h)<=(281474976710656:Int)/\i64.wrap (j+h)<=(9223372036854775807:Int))/\∃(I:A2g->Prop),∃(a: _->Nat),I (k,List.replicate (i64.wrap (j+h)).toNat k,())/\∀(p:A2g),let f:Prop:=(gx k r.1 p.1=k);let c:Prop:=(p.1<j);(Ty.int i64).wf p.1/\Hi p.2.1/\True->I p->(iB (decide c) (∃(J:Mp->Prop),((k<=p.1/\c)/\(iB (decide f) (J (p.2.1,())) (∃(I:Sr->Prop),∃(a: _->Nat),I (k,k,p.2.1,())/\∀(q:Sr),let n:=(q.2.2.1.length:Int);let m:=(i64.wrap (p.1+q.2.1));let g:=(u64.wrap (q.1+u64.wrap (u64.wrap (u64.wrap (gx k r.1 p.1)*u64.wrap (gx k s.1 q.2.1))+u64.wrap (List.getD q.2.2.1 m.toNat k))));let i:=(g.fdiv ((2:Int)^Min.min ((32:Int).toNat) u64.bits),i64.wrap (q.2.1+1),List.set q.2.2.1 m.toNat (u32.wrap g),());let d:Prop:=(q.2.1<h);let b:Prop:=(k<=i64.wrap (p.1+q.2.1)/\i64.wrap (p.1+q.2.1)<n);(Ty.int u64).wf q.1/\(Ty.int i64).wf q.2.1/\Hi q.2.2.1/\True->I q->(iB (decide d) ((k<=q.2.1/\d)/\b/\b/\(0:(Ty.int u64).den)<=(32:Int)/\I i/\a i<a q) ((k<=i64.wrap (p.1+h)/\i64.wrap (p.1+h)<n)/\J (List.set q.2.2.1 (i64.wrap (p.1+h)).toNat (u32.wrap q.1),()))))))/\R0 λq=>let l:=(i64.wrap (p.1+1),q);J q->I l/\a l<a p) (True/\R0 λr=>r.1=nc (nv p.2.1)->r.1=nc o))))
def Fv(x:HZ):Prop:=let e:=(u64.wrap x.2.1);let d:=(0:Int);let c:=(x.1.length:Int);(d<=c/\c<=c/\(↑(4:Nat):Int)*c<=(281474976710656:Int)/\c<=(9223372036854775807:Int))/\∃(I:Sr->Prop),∃(f: _->Nat),I (d,i64.wrap (c-(1:Int)),List.replicate c.toNat d,())/\∀(p:Sr),let a:=(u64.wrap (↑(BitVec.ofInt u64.bits (u64.wrap (p.1*2^Min.min ((32:Int).toNat) u64.bits)) |||BitVec.ofInt u64.bits (u64.wrap (gx d x.1 p.2.1))).toNat:Int));let b:=(a.tmod e,i64.wrap (p.2.1-1),List.set p.2.2.1 p.2.1.toNat (u32.wrap (u64.wrap (a.tdiv e))),());(Ty.int u64).wf p.1/\(Ty.int i64).wf p.2.1/\Hi p.2.2.1/\True->I p->(iB (decide (d<=p.2.1)) ((0:(Ty.int u64).den)<=(32:Int)/\(d<=p.2.1/\p.2.1<c)/\u64.wrap x.2.1≠d/\(d<=p.2.1/\p.2.1<(p.2.2.1.length:Int))/\u64.wrap x.2.1≠d/\I b/\f b<f p) (True/\R0 λr=>r.1=nc (nv p.2.2.1)->True/\R0 λf=>f.1=nc p.1.toNat->r.1=nc (nv x.1/x.2.1.toNat)/\f.1=nc (nv x.1%x.2.1.toNat)))
def Hs(x:HZ):Prop:=let l:=(1:Int);let j:=(nv x.1/(2:Nat)^x.2.1.toNat);let i:=(32:Int);let h:=(i64.wrap (Int.tdiv x.2.1 i));let g:=(0:Int);(iB (decide (x.2.1<g)) ((x.2.1<g->Ps Int= []/\false=false)/\(g<=x.2.1->Ps Int=nc j/\false=true)) (True/\∀(r:Mp),let e:=(r.1.length:Int);let d:=(↑(List.drop h.toNat (List.take e.toNat r.1)).length:Int);let c:Prop:=(e<=i64.wrap (Int.tdiv x.2.1 i));Hi r.1/\True->r.1=nc (nv x.1)->i≠g/\(iB (decide c) ((x.2.1<g->Ps Int= []/\true=false)/\(g<=x.2.1->Ps Int=nc j/\true=true)) (i≠g/\(g<=i64.wrap (Int.tdiv x.2.1 i)/\i64.wrap (Int.tdiv x.2.1 i)<=e/\e<=e)/\i≠g/\(g<=d/\d<=d/\(↑(4:Nat):Int)*d<=(281474976710656:Int)/\d<=(9223372036854775807:Int))/\∃(I:A2g->Prop),∃(n: _->Nat),I (g,List.replicate d.toNat g,())/\∀(p:A2g),let k:=(gx g (List.drop h.toNat (List.take e.toNat r.1)) p.1);let b:Prop:=(p.1<d);let a:Prop:=(i64.wrap (p.1+l)<d);(Ty.int i64).wf p.1/\Hi p.2.1/\True->I p->(iB (decide b) ((g<=p.1/\b)/\∃(J:D8->Prop),((iB (decide a) ((g<=i64.wrap (p.1+l)/\a)/\(0:(Ty.int u64).den)<=i/\J (u64.wrap (↑(BitVec.ofInt u64.bits (u64.wrap k) |||BitVec.ofInt u64.bits (u64.wrap (u64.wrap (gx g (List.drop h.toNat (List.take e.toNat r.1)) (i64.wrap (p.1+l)))*(2:Int)^Min.min i.toNat u64.bits))).toNat:Int),())) (J (u64.wrap k,()))))/\∀(m:D8),let f:=(i64.wrap (p.1+l),List.set p.2.1 p.1.toNat (u32.wrap (Int.fdiv m.1 ((2:Int)^Min.min (Int.tmod x.2.1 i).toNat u64.bits))),());(Ty.int u64).wf m.1/\True->J m->(0:(Ty.int i64).den)<=Int.tmod x.2.1 i/\(g<=p.1/\p.1<(p.2.1.length:Int))/\I f/\n f<n p) (True/\R0 λr=>r.1=nc (nv p.2.1)->(x.2.1<g->r.1= []/\true=false)/\(g<=x.2.1->r.1=nc j/\true=true)))))))
def Na(x:HZ):Prop:=let f:=(1:Int);let d:=(0:Int);let b:=(x.1.length:Int);(d<=i64.wrap (b+f)/\i64.wrap (b+f)<=i64.wrap (b+f)/\(↑(4:Nat):Int)*i64.wrap (b+f)<=(281474976710656:Int)/\i64.wrap (b+f)<=(9223372036854775807:Int))/\∃(I:Sr->Prop),∃(h: _->Nat),I (d,d,List.replicate (i64.wrap (b+f)).toNat d,())/\∀(p:Sr),let g:=(p.2.2.1.length:Int);let e:=(List.set p.2.2.1 b.toNat (u32.wrap p.1));let a:=(u64.wrap (↑(BitVec.ofInt u64.bits p.1|||BitVec.ofInt u64.bits (u64.wrap (u64.wrap (gx d x.1 p.2.1)*(2:Int)^Min.min x.2.1.toNat u64.bits))).toNat:Int));let c:=(a.fdiv ((2:Int)^Min.min ((32:Int).toNat) u64.bits),i64.wrap (p.2.1+f),List.set p.2.2.1 p.2.1.toNat (u32.wrap a),());(Ty.int u64).wf p.1/\(Ty.int i64).wf p.2.1/\Hi p.2.2.1/\True->I p->(iB (decide (p.2.1<b)) ((d<=p.2.1/\p.2.1<b)/\(0:(Ty.int i64).den)<=x.2.1/\(d<=p.2.1/\p.2.1<g)/\(0:(Ty.int u64).den)<=(32:Int)/\I c/\h c<h p) ((d<=b/\b<g)/\e.length=x.1.length+(1:Nat)/\nv e=nv x.1*2^x.2.1.toNat))
def A1u (v:Int) (_:0<=v):Int.fdiv v (2^Min.min (Int.toNat 32) u64.bits)=v/4294967296:=by
 rw[show Min.min (Int.toNat 32) u64.bits=32 from rfl,sJ _ δ];rfl
def C1q (v:Int) (_:0<=v):Int.fdiv v (2^Min.min (Int.toNat 63) u64.bits)=v/9223372036854775808:=by
 rw[show Min.min (Int.toNat 63) u64.bits=63 from rfl,sJ _ δ];rfl
def KQ {v b:Int} {k:Nat} (v0:0<=v) (v1:v<2^k) (b0:0<=b) (a:b*2^k<18446744073709551616) (c:v<18446744073709551616):(((BitVec.ofInt 64 (b*2^k) |||BitVec.ofInt 64 v).toNat:Nat):Int)=v+b*2^k:=by
 rw[BitVec.or_comm];exact XS v0 v1 b0 a c
def LR:sr Eu AY:=λx A J=>by
 obtain⟨a,b,_⟩:=x;have H:B4 a:=A5 A.1.2;have I:B4 b:=A5 A.2.1.2;change Wf at a b;obtain⟨T,U⟩:a.length<=17592186044416/\b.length<=17592186044416:=J;have V:=C9 H;have W:=C9 I;simp only[AY,iB,R0];refine⟨trivial,?_⟩;rintro⟨r,_⟩ _ g;refine⟨trivial,?_⟩;rintro⟨s,_⟩ _ z;simp only at g z|-;subst g z;refine⟨λp=>p.2.1.length<=p.1.length/\p.1.length<=17592186044416/\nv p.1+nv p.2.1=nv a+nv b,⟨λh=>?_,λh=>?_⟩,?_⟩
 . have h:=qA h;refine⟨by show(nc (nv a)).length<=(nc (nv b)).length;omega,by show(nc (nv b)).length<= _;omega,?_⟩;show nv (nc (nv b))+nv (nc (nv a))= _;rw[F7,F7,vZ]
 . have h:=qB h;refine⟨by show(nc (nv b)).length<=(nc (nv a)).length;omega,by show(nc (nv a)).length<= _;omega,?_⟩;show nv (nc (nv a))+nv (nc (nv b))= _;rw[F7,F7]
 rintro⟨(P:Wf),(Q:Wf),_⟩ ⟨M,N,_⟩ ⟨n,D,o⟩;simp only at n D o|-;have u:B4 P:=A5 M.2;have w:B4 Q:=A5 N.2;rw[wv (a:=(P.length:Int)+1) ω];refine⟨⟨ω,qH _,by simp;omega,ω⟩,?_⟩;refine⟨λp=>0<=p.2.1/\p.2.1<=(P.length:Int)/\0<=p.1/\p.1<=1/\p.2.2.1.length=P.length+1/\nv (p.2.2.1.take p.2.1.toNat)+4294967296^p.2.1.toNat*p.1.toNat=nv (P.take p.2.1.toNat)+nv (Q.take p.2.1.toNat),λp=>((P.length:Int)-p.2.1).toNat,⟨qH _,qF _,qH _,by show(0:Int)<=1;omega,by rw[rK];omega,by simp[nv]⟩,?_⟩;rintro⟨(c:Int),(i:Int),(out:Wf),_⟩ ⟨_,_,R,_⟩ ⟨f,E,F,G,t,j⟩;simp only at f E F G t j|-;have O:=O0 u i.toNat;have dQ:=O0 w i.toNat;refine⟨λk=>?_,λk=>?_⟩
 . have h:i<(P.length:Int):=qA k;rw[Fs u f h,X7 (a:=(dg P i.toNat:Int)) ω ω,X7 (a:=c+(dg P i.toNat:Int)) ω ω];refine⟨⟨f,h⟩,λp=>p.1=c+(dg P i.toNat:Int)+(dg Q i.toNat:Int),⟨λd=>?_,λd=>?_⟩,?_⟩
   . have d:=qA d;refine⟨⟨f,d⟩,?_⟩;show u64.wrap _= _;rw[Fs w f d,X7 (a:=(dg Q i.toNat:Int)) ω ω,X7 ω ω]
   . have d:=qB d;show c+(dg P i.toNat:Int)= _;rw[Pj (l:=Q) ω];omega
   rintro⟨(B:Int),_⟩ _ y;simp only at y|-;subst y;refine⟨⟨f,ω⟩,δ,?_⟩;rw[A1u _ ω,wv ω,Co];refine⟨⟨ω,ω,ω,ω,by rw[qW];exact t,?_⟩,ω⟩;rw[(ω:(i+1).toNat=i.toNat+1),T9 ω,J5 P,J5 Q,sB];exact dO j ω
 have h:=qB k;refine⟨⟨ω,ω⟩,trivial,?_⟩;rintro⟨r,_⟩ _ g;simp only at g|-;rw[g];congr 1;rw[(ω:i.toNat=P.length),qQ (qU P.length),qQ n]at j;rw[qO,w32 ω ω];have e:=T9 (l:=out) (i:=P.length) (v:=c) ω;rw[qQ (by rw[qW];omega)]at e;rw[e,j,o]
def LV:sr Ex BC:=λx F O=>by
 obtain⟨a,f,_⟩:=x;have I:B4 a:=A5 F.1.2;have J:B4 f:=A5 F.2.1.2;change Wf at a f;obtain⟨Y,Z⟩:a.length<=17592186044416/\f.length<=17592186044416:=O;have T:=C9 I;have a0:=C9 J;simp only[BC,iB,Ef,R0];refine⟨trivial,?_⟩;rintro⟨r,_⟩ _ d;refine⟨trivial,?_⟩;rintro⟨s,_⟩ _ j;refine⟨trivial,?_⟩;rintro⟨w,_⟩ _ n;simp only at d j n|-;rw[d,j,F7,F7]at n;subst n;refine⟨λh=>?_,λh=>?_⟩
 . have h:=qA h;refine⟨λ_=>⟨by trivial,by trivial⟩,λv=>?_⟩;unfold Da at h;rw[qL ω]at h;split at h<;>omega
 have h:=qB h;have v:nv f<=nv a:=by
  rcases sH (nv a) (nv f)with k|k
  . rw[Nu k]at h;omega
  exact k
 have A:B4 r:=d▸K8 _;have D:B4 s:=j▸K8 _;have B:nv r=nv a:=by rw[d,F7]
 have E:nv s=nv f:=by rw[j,F7]
 have X:r.length<=a.length:=by rw[d];exact T
 have Q:s.length<=r.length:=by rw[d,j];exact K4 v
 rw[<-B, <-E]at v|-;clear d j B E;refine⟨⟨ω,qH _,by simp;omega,ω⟩,?_⟩;refine⟨λp=>0<=p.2.1/\p.2.1<=(r.length:Int)/\0<=p.1/\p.1<=1/\p.2.2.1.length=r.length/\nv (r.take p.2.1.toNat)+4294967296^p.2.1.toNat*p.1.toNat=nv (p.2.2.1.take p.2.1.toNat)+nv (s.take p.2.1.toNat),λp=>((r.length:Int)-p.2.1).toNat,⟨qH _,qF _,qH _,by show(0:Int)<=1;omega,by simp,by simp[nv]⟩,?_⟩;rintro⟨(c:Int),(i:Int),(out:Wf),_⟩ ⟨_,_,R,_⟩ ⟨g,k,G,H,u,o⟩;simp only at g k G H u o|-;have N:B4 out:=A5 R.2;have U:=O0 A i.toNat;have V:=O0 D i.toNat;refine⟨λt=>?_,λt=>?_⟩
 . have h:i<(r.length:Int):=qA t;rw[Fs A g h,X7 (a:=(dg r i.toNat:Int)) ω ω];refine⟨⟨g,h⟩,λp=>p.1=((dg r i.toNat:Int)-c-(dg s i.toNat:Int))%18446744073709551616,⟨λb=>?_,λb=>?_⟩,?_⟩
   . have b:=qA b;refine⟨⟨g,b⟩,?_⟩;show u64.wrap _= _;rw[Fs D g b,X7 (a:=(dg s i.toNat:Int)) ω ω,Cp,Cp];omega
   . have b:=qB b;show u64.wrap _= _;rw[Pj (l:=s) ω,Cp];omega
   rintro⟨(w:Int),_⟩ _ n;simp only at n|-;refine⟨⟨g,ω⟩,δ,?_⟩;rw[C1q _ ω,wv ω,Co];refine⟨⟨ω,ω,ω,ω,by rw[qW];exact u,?_⟩,ω⟩;rw[(ω:(i+1).toNat=i.toNat+1),T9 ω,J5 r,J5 s,sB];exact WZ o ω
 have h:=qB t;refine⟨trivial,?_⟩;rintro⟨q,_⟩ _ z;simp only at z|-;refine⟨λW=>ω,λ_=>⟨?_,by trivial⟩⟩;rw[z];congr 1;rw[(ω:i.toNat=r.length),qQ (qU _),qQ ω,qQ Q]at o;have y:nv out<4294967296^out.length:=Gi N;rw[u]at y;have M:c.toNat=0:=HB (P:=4294967296^r.length) (x:=nv out) ω y;rw[M,wP,tJ]at o;omega
def LU:sr Ew BB:=λx U ad=>by
 obtain⟨g,n,_⟩:=x;have a7:B4 g:=A5 U.1.2;have a8:B4 n:=A5 U.2.1.2;change Wf at g n;obtain⟨ak,an⟩:g.length<=17592186044416/\n.length<=17592186044416:=ad;have af:=C9 a7;have ag:=C9 a8;simp only[BB,iB,R0];refine⟨trivial,?_⟩;rintro⟨a,_⟩ _ d;refine⟨trivial,?_⟩;rintro⟨b,_⟩ _ f;simp only at d f|-;have N:B4 a:=d▸K8 _;have O:B4 b:=f▸K8 _;have aj:a.length<=17592186044416:=by rw[d];omega
 have am:b.length<=17592186044416:=by rw[f];omega
 have Y:nv a=nv g:=by rw[d,F7]
 have Z:nv b=nv n:=by rw[f,F7]
 rw[<-Y, <-Z];clear d f Y Z af ag;refine⟨λh=>?_,λ_=>?_⟩
 . rw[H5]at h;simp only[uE,rU]at h;have:nv a*nv b=0:=by
    rcases h with h|h
    . rw[qM (l:=a) ω];simp[nv]
    rw[qM (l:=b) ω];simp[nv]
   rw[this,Q9]
 have a3:i64.wrap ((a.length:Int)+(b.length:Int))=((a.length+b.length:Nat):Int):=by
  rw[wv ω];omega
 rw[a3];refine⟨⟨ω,qH _,by simp;omega,ω⟩,?_⟩;refine⟨λp=>0<=p.1/\p.1<=(a.length:Int)/\p.2.1.length=a.length+b.length/\nv p.2.1=nv (a.take p.1.toNat)*nv b/\∀j,p.1.toNat+b.length<=j->dg p.2.1 j=0,λp=>((a.length:Int)-p.1).toNat,⟨qH _,qF _,by rw[rK,qO],by simp[nv,Re],λj _=>JS _ _⟩,?_⟩;rintro⟨(i:Int),(out:Wf),_⟩ ⟨_,ai,_⟩ ⟨B,a5,D,u,E⟩;simp only at B a5 D u E|-;refine⟨λA=>?_,λA=>?_⟩
 . have h:i<(a.length:Int):=qA A;have a0:=O0 N i.toNat;rw[Fs N B h];refine⟨λp=>p.1.length=a.length+b.length/\nv p.1=nv (a.take (i.toNat+1))*nv b/\∀j,i.toNat+1+b.length<=j->dg p.1 j=0,⟨⟨B,h⟩,λH=>?_,λH=>?_⟩,?_⟩
   . have H:(dg a i.toNat:Int)=0:=qA H;refine⟨D,?_,λj w=>E j ω⟩;show nv out= _;rw[u,J5,(ω:dg a i.toNat=0),wP,tJ]
   . refine⟨λp=>0<=p.2.1/\p.2.1<=(b.length:Int)/\0<=p.1/\p.1<=4294967295/\p.2.2.1.length=a.length+b.length/\nv p.2.2.1+4294967296^(i.toNat+p.2.1.toNat)*p.1.toNat=nv out+4294967296^i.toNat*(dg a i.toNat*nv (b.take p.2.1.toNat))/\∀j,i.toNat+b.length<=j->dg p.2.2.1 j=0,λp=>((b.length:Int)-p.2.1).toNat,⟨qH _,qF _,qH _,by show(0:Int)<=4294967295;omega,D,by simp[nv],E⟩,?_⟩;rintro⟨(c:Int),(j:Int),(o:Wf),_⟩ ⟨_,_,ae,_⟩ ⟨y,a4,I,J,z,s,t⟩;simp only at y a4 I J z s t|-;have Q:B4 o:=A5 ae.2;refine⟨λF=>?_,λF=>?_⟩
     . have w:j<(b.length:Int):=qA F;have a1:=O0 O j.toNat;rw[wv (a:=i+j) ω];refine⟨⟨y,w⟩,⟨ω,ω⟩,⟨ω,ω⟩,δ,?_⟩;rw[Fs O y w,Y7 Q,(ω:(i+j).toNat=i.toNat+j.toNat)];have ah:=O0 Q (i.toNat+j.toNat);have ab:dg a i.toNat*dg b j.toNat<=4294967295*4294967295:=uZ a0 a1;have ac:(dg a i.toNat:Int)*(dg b j.toNat:Int)=((dg a i.toNat*dg b j.toNat:Nat):Int):=(uU _ _).symm;rw[X7 (a:=(dg a i.toNat:Int)) ω ω,X7 (a:=(dg b j.toNat:Int)) ω ω,X7 (a:=(dg o (i.toNat+j.toNat):Int)) ω ω,ac];generalize a6:dg a i.toNat*dg b j.toNat=M at ab;rw[X7 (a:=(M:Int)) ω ω,X7 (a:=(M:Int)+(dg o (i.toNat+j.toNat):Int)) ω ω,X7 ω ω,A1u _ ω,wv ω,Co];refine⟨⟨ω,ω,ω,ω,by rw[qW];exact z,?_,λq R=>?_⟩,ω⟩
       . have G:=Js (l:=o) (k:=i.toNat+j.toNat) (v:=(c+((M:Int)+(dg o (i.toNat+j.toNat):Int)))%4294967296) ω;rw[(ω:(j+1).toNat=j.toNat+1),J5 b, <-uQ i.toNat,sB,tC (dg a i.toNat)];have a2:dg a i.toNat*(4294967296^j.toNat*dg b j.toNat)=4294967296^j.toNat*M:=by rw[<-a6,g0a]
         rw[a2,tC (4294967296^i.toNat), <-sM (4294967296^i.toNat) (4294967296^j.toNat), <-vA, <-uQ (nv out), <-s];generalize 4294967296^(i.toNat+j.toNat)=P at*;have a9:((c+((M:Int)+(dg o (i.toNat+j.toNat):Int)))%4294967296).toNat+4294967296*((c+((M:Int)+(dg o (i.toNat+j.toNat):Int)))/4294967296).toNat=c.toNat+dg o (i.toNat+j.toNat)+M:=ω
         have aa:=sD (P* ·) a9;simp only[tC, <-sM]at aa;omega
       rw[Yp ω,qL ω];exact t q R
     have w:=qB F;rw[wv (a:=i+(b.length:Int)) ω,w32 I J];refine⟨⟨ω,ω⟩,⟨by show(o.set _ _).length= _;rw[qW];exact z,?_,λq R=>?_⟩⟩
     . show nv (o.set _ _)= _;have G:=Js (l:=o) (k:=(i+(b.length:Int)).toNat) (v:=c) ω;rw[t _ ω,wP,tJ]at G;rw[G,(ω:(i+(b.length:Int)).toNat=i.toNat+b.length)];rw[(ω:j.toNat=b.length),qQ (qU b.length)]at s;rw[s,J5,uX,u,sM]
     show dg (o.set _ _) q=0;rw[Yp ω,qL ω];exact t q ω
   rintro⟨o,_⟩ _ ⟨V,W,X⟩;simp only at V W X|-;rw[wv ω,(ω:(i+1).toNat=i.toNat+1)];exact⟨⟨ω,ω,V,W,X⟩,ω⟩
 have h:=qB A;refine⟨trivial,?_⟩;rintro⟨r,_⟩ _ T;simp only at T|-;rw[T,u,qQ ω]
end Go.Proofs.YtdbnghliccifcaaGreat
