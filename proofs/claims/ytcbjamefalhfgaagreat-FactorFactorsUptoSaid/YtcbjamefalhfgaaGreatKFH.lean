/- Part. -/
import Derived.Test.YtcbjamefalhfgaaGreatKFG
set_option linter.all false
namespace Go.Proofs.YtcbjamefalhfgaaGreat
open Go.Proofs.Tryz
open Go.Vc Go.Gw
open Go.IntKind (i64 u64 u32)
def Xg (k:Int):ri k=rc (k:Rat):=by
 unfold ri rc;rw[g3d,g3b,Vu]
def Jl (a b:Int):GX (.int .i64) a b=decide (a=b):=rfl
def Sg {α:Type} (k i:Int) (v:α):∀l:List (Int×α),F8 (.int .i64) i (Eb (.int .i64) k v l)=if i=k then some v else F8 (.int .i64) i l
 | []=>by
  simp only[Eb,F8,Jl];by_cases h:i=k
  . simp[h]
  rw[qG h];simp[h]
 | (b,d)::l=>by
  have c:=Sg k i v l;simp only[Eb,Jl];by_cases h:k=b
  . subst h;simp only[g3z,qW,F8,Jl];by_cases a:i=k
    . simp[a]
    simp[a]
  simp only[h,g1d,rJ,F8,Jl,c];by_cases a:i=b
  . subst a;have:¬i=k:=λe=>h e.symm
    simp[this]
  simp[a]
def RA {α:Type} (k:Int) (v:α):∀l:List (Int×α),(Eb (.int .i64) k v l).map (λe=>e.1)=if k∈l.map (λe=>e.1)then l.map (λe=>e.1)else l.map (λe=>e.1)++ [k]
 | []=>by simp[Eb]
 | (a,c)::l=>by
  have b:=RA k v l;simp only[Eb,Jl];by_cases h:k=a
  . subst h;simp
  simp only[h,g1d,rJ,rT,b,qV,false_or];split<;>simp
def ZM {α:Type} (k:Int) (v:α):∀ {l:List (Int×α)} {e:Int×α},e∈Eb (.int .i64) k v l->e=(k,v)\/e∈l
 | [],e,h=>by
  simp only[Eb,qO]at h;exact .inl h
 | (b,c)::l,e,h=>by
  simp only[Eb,Jl]at h;by_cases a:k=b
  . subst a;simp only[g3z,qW,qV]at h;rcases h with h|h
    . exact .inl h
    exact .inr (qJ _ h)
  simp only[a,g1d,rJ,qV]at h;rcases h with h|h
  . exact .inr (h▸rD ..)
  exact(ZM k v h).imp id (qJ _)
def ZI {α:Type} {k:Int} {v:α} :∀ {l:List (Int×α)},F8 (.int .i64) k l=some v->(k,v)∈l
 | (b,a)::l,h=>by
  simp only[F8,Jl]at h;by_cases a:k=b
  . simp[a]at h;rw[a,h];exact rD ..
  simp[a]at h;exact qJ _ (ZI h)
def ZH {α:Type} {k:Int} :∀ {l:List (Int×α)},k∉l.map (λe=>e.1)->F8 (.int .i64) k l=none
 | [],_=>rfl
 | (a,b)::l,h=>by
  simp only[rT,qV,g5m]at h;simp only[F8,Jl];simp[h.1,ZH h.2]
def A1m {α:Type} {k:Int} :∀ {l:List (Int×α)},k∈l.map (λe=>e.1)->∃v,F8 (.int .i64) k l=some v
 | (b,c)::l,h=>by
  simp only[F8,Jl];by_cases a:k=b
  . exact⟨c,by simp[a]⟩
  simp only[rT,qV,a,false_or]at h;obtain⟨v,b⟩:=A1m h;exact⟨v,by simp[a,b]⟩
def A1q:∀ {r l:Wf},r.Nodup->(∀i∈r,i∈l)->r.length<=l.length
 | [],_,_,_=>rQ _
 |a::r,l,b,d=>by
  rw[sS]at b;have c:=d a (rD ..);have:=A1q (l:=l.erase a) b.2 λi hi=>(g0q λe=>b.1 (by rw[<-e];exact hi)).2 (d i (qJ _ hi))
  have b:=zM c;have b:=g0e c;rw[rH];omega
def B1v {r:Wf} {n:Int} (h:r.Nodup) (a:∀i∈r,0<=i/\i<n):(r.length:Int)<=max n 0:=by
 have:=A1q (l:=(List.range n.toNat).map λi:Nat=>(i:Int)) h λi hi=>by
  have:=a i hi;exact sV.2 ⟨i.toNat,xM.2 ω,ω⟩
 rw[sO,g0f]at this;omega
structure OY (n:Int) (F:Int->Rat) (es:List C8):Prop where
 nd:(es.map λe=>e.1).Nodup
 rng:∀e∈es,0<=e.1/\e.1<n
 can:∀e∈es,e.2=rc (rv e.2)
 val:∀j,rv ((F8 (.int .i64) j es).getD dQ)=F j
def OY.at {n:Int} {F:Int->Rat} {es:List C8} (h:OY n F es) (j:Int):(F8 (.int .i64) j es).getD dQ=rc (F j)\/((F8 (.int .i64) j es).getD dQ=dQ/\F j=0/\j∉es.map λe=>e.1):=by
 have a:=h.val j;cases b:F8 (.int .i64) j es with
 |none=>
  rw[b]at a;refine .inr ⟨rfl,?_,λd=>?_⟩
  . rw[<-a];exact bE
  obtain⟨v,c⟩:=A1m d;rw[b]at c;cases c
 |some v=>
  rw[b]at a;have c:=h.can _ (ZI b);have a:rv v=F j:=a;left;show v= _;rw[<-a];exact c
def OY.sh {n:Int} {F:Int->Rat} {es:List C8} (h:OY n F es) (j:Int) (b:qs 2199023255552 (F j)):H3 ((F8 (.int .i64) j es).getD dQ):=by
 rcases h.at j with a| ⟨a,_⟩
 . rw[a];exact b
 rw[a];exact⟨rQ _,rQ _⟩
def OY.put {n:Int} {F G:Int->Rat} {es:List C8} (h:OY n F es) {k:Int} {q:Rat} (l:0<=k/\k<n) (d:G k=q) (f:∀j,j≠k->G j=F j):OY n G (Eb (.int .i64) k (rc q) es):=by
 refine⟨?_,λe a=>?_,λe a=>?_,λj=>?_⟩
 . have:=RA k (rc q) es;rw[this];split
   . exact h.nd
   rename_i o;rw[tL];refine⟨h.nd,by simp,λr g s c i=>?_⟩;rw[qO]at c;subst c i;exact o g
 . rcases ZM k (rc q) a with rfl|a
   . exact l
   exact h.rng e a
 . rcases ZM k (rc q) a with rfl|a
   . show rc q=rc (rv (rc q));rw[H2]
   exact h.can e a
 rw[Sg];by_cases b:j=k
 . rw[qK b];show rv (rc q)= _;rw[H2,b,d]
 rw[qG b,h.val,f j b]
def OY.len {n:Int} {F:Int->Rat} {es:List C8} (h:OY n F es):(es.length:Int)<=max n 0:=by
 have:=B1v h.nd (n:=n) λi hi=>by
  obtain⟨e,a,rfl⟩:=sV.1 hi;exact h.rng e a
 rwa[sO]at this
def Rn:sq O1 Il:=λx ak b3=>by
 obtain⟨v,⟨R,C,D⟩,_⟩:=x;have ac:AT v:=Vp ak.1.2;have a9:Hc (R,C,D):=R4 ak.2.1.2.2.2;change List C8 at v;change Int at R C;change List (List C8)at D;obtain⟨ag,ai,z,a0,bf⟩:Vy K0 v/\J1 K0 (R,C,D)/\A3 (R,C,D)/\E7 v R/\R<=1000:=b3;have bq:(D.length:Int)=R:=z.2.2.2.2.1;have ba:∀w∈D,E7 w C:=z.2.2.2.2.2;have bo:0<=C:=z.2.2.1;have bp:C<=16384:=z.2.2.2.1;have bk:v.length<=1000:=by have:=Aa a0;omega
 simp only[Il,iB,Ci,N6]
 let H:Int->Int->Rat:=λj k=>A4 (D.getD k.toNat []) j
 have au:∀j:Int,∀e∈v,qs K0 (H j e.1):=λj e a=>by
  have:=a0.2 e a;exact C2j z a9 ai δ (D4 ω) j
 have ap:∀(j:Int) (n:Nat),qs ((v.take n).length*(K0+K0+1)+1) (W5 (v.take n) (H j)):=λj n=>C0v (λe a=>ac e (rU a)) (λe a=>ag.2.1 e (rU a)) δ λe a=>au j e (rU a)
 have am:K0+K0+1=2147483649:=δ
 have an:K0+K0=2147483648:=δ
 refine⟨λp=>0<=p.1/\p.1<=(v.length:Int)/\OY C (λj=>W5 (v.take p.1.toNat) (H j)) p.2.1,λp=>((v.length:Int)-p.1).toNat,⟨qH _,qF _,yD,λ_ h=>(by cases h),λ_ h=>(by cases h),λj=>bE⟩,?_⟩;rintro⟨(i:Int),(F:List C8),_⟩ _ ⟨M,b8,c⟩;simp only at M b8 c|-;refine⟨λh=>?_,λh=>?_⟩
 . have h:=qA h;have P:=F6 (d:=D7) M h;obtain⟨a1,be,_⟩:=a0.2 _ P;have X:=ag.2.1 _ P;have a8:=ac _ P;have b5:=λj=>QC (d:=D7) M h (H j)
   have bj:(v.take i.toNat).length<=999:=by rw[rA];omega
   have ao:=λj=>ap j i.toNat
   generalize gx D7 v i=e at*;have a5:e.1<(D.length:Int):=ω
   rw[Ir a1 a5];have V:D.getD e.1.toNat []∈D:=D4 ω;have I:=JN z ai V;have b6:=ba _ V;have aa:=a9 _ V;have ar:∀j,H j e.1=A4 (D.getD e.1.toNat []) j:=λj=>rfl
   generalize D.getD e.1.toNat []=row at*;have bi:=I.2.2;refine⟨⟨M,h⟩,⟨a1,a5⟩,λp=>0<=p.1/\p.1<=(row.length:Int)/\OY C (λj=>W5 (v.take i.toNat) (H j)+rv e.2*A4 (row.take p.1.toNat) j) p.2.1,λp=>((row.length:Int)-p.1).toNat,⟨qH _,qF _,?_⟩,?_⟩
   . have:(λj=>W5 (v.take i.toNat) (H j)+rv e.2*A4 (row.take (Int.toNat 0)) j)=λj=>W5 (v.take i.toNat) (H j):=by
      funext j;show _ +rv e.2*0= _;rw[sM,rK]
     show OY C (λj=>W5 (v.take i.toNat) (H j)+rv e.2*A4 (row.take (Int.toNat 0)) j) F;rw[this];exact c
   rintro⟨(t:Int),(O:List C8),_⟩ _ ⟨N,b9,u⟩;simp only at N b9 u|-;refine⟨λg=>?_,λg=>?_⟩
   . have g:=qA g;have Q:=F6 (d:=D7) N g;have a7:=b6.2 _ Q;have aj:=I.2.1 _ Q;have az:=aa _ Q;have a4:=PV (d:=D7) N g;have av:=Ve (v:=row.take t.toNat) (k:=K0) I.1.take (λe a=>aa e (rU a)) (λe a=>I.2.1 e (rU a)) δ;generalize gx D7 row t=f at*;have b4:=Kv (Jw a8 X δ) (Jw az aj δ);have aq:qs 2199023255552 (W5 (v.take i.toNat) (H f.1)+rv e.2*A4 (row.take t.toNat) f.1):=by
      refine G4 (BG (ao f.1) (Kv (Jw a8 X δ) (av f.1))) ?_;rw[am,an];omega
     refine⟨⟨N,g⟩,⟨O4 X δ,O4 aj δ⟩,?_⟩;rintro⟨q,_⟩ _ W;simp only at W|-;refine⟨⟨u.sh f.1 aq,by rw[W];exact N8 b4 δ⟩,?_⟩;rintro⟨bn,_⟩ _ Y;simp only at Y|-;rw[wv ω];have Z:rv ((F8 (.int .i64) f.1 O).getD dQ)=W5 (v.take i.toNat) (H f.1)+rv e.2*A4 (row.take t.toNat) f.1:=u.val f.1;rw[Z,W,H2]at Y;rw[Y];refine⟨⟨ω,ω,u.put ⟨a7.1,a7.2.1⟩ ?_ λj ay=>?_⟩,ω⟩
     . show _ +rv e.2*A4 (row.take (t+1).toNat) f.1= _;rw[a4,qK rfl,g5p, <-xZ]
     show _ +rv e.2*A4 (row.take (t+1).toNat) j= _ +rv e.2*A4 (row.take t.toNat) j;rw[a4,qG (λe=>ay e.symm),rK]
   have g:=qB g;rw[E6 (l:=row) (i:=t) ω]at u;rw[wv ω];refine⟨⟨ω,ω,?_⟩,ω⟩;have:(λj=>W5 (v.take (i+1).toNat) (H j))=λj=>W5 (v.take i.toNat) (H j)+rv e.2*A4 row j:=by
    funext j;rw[b5,ar]
   show OY C (λj=>W5 (v.take (i+1).toNat) (H j)) O;rw[this];exact u
 have h:=qB h;rw[E6 ω]at c;have bg:=c.len;refine⟨⟨ω,c.nd⟩,λl U b0=>?_⟩;have b2:l.Nodup:=U.nodup_iff.2 c.nd;have b1:l.Pairwise (· < ·):=by
  refine g1i ?_ b0 b2;intro bb bc a2 a3;omega
 have bh:l.length<=16384:=by
  have:=U.length_eq;rw[sO]at this;omega
 have ad:∀j,j∈l↔j∈F.map λe=>e.1:=λj=>U.mem_iff
 refine⟨λp=>0<=p.2.1/\p.2.1<=(l.length:Int)/\p.1.length<=p.2.1.toNat/\R3 p.1/\(∀e∈p.1,e.1∈l.take p.2.1.toNat)/\(∀j∈l.take p.2.1.toNat,A4 p.1 j=W5 v (H j)),λp=>((l.length:Int)-p.2.1).toNat,⟨qH _,qF _,qT _,AC,λ_ h=>(by cases h),by simp⟩,?_⟩;rintro⟨(out:List C8),(j:Int),_⟩ _ ⟨o,a2,a3,G,s,A⟩;simp only at o a2 a3 G s A|-;refine⟨λh=>?_,λh=>?_⟩
 . have h:=qA h;have aw:=O8 (d:=(0:Int)) o h;have E:l.take (j+1).toNat=l.take j.toNat++ [gx 0 l j]:=by
    rw[(ω:(j+1).toNat=j.toNat+1),rP,H0 (d:=(0:Int)) o h];rfl
   have ab:∀y∈l.take j.toNat,y<gx 0 l j:=λy hy=>by
    have:(l.take (j+1).toNat).Pairwise (· < ·):=b1.take;rw[E,tG]at this;exact this.2.2 y hy _ (qO.2 rfl)
   have ax:gx 0 l j∈l:=F6 (d:=(0:Int)) o h;rw[<-aw];generalize gx 0 l j=i at*;have Z:(F8 (.int .i64) i F).getD dQ=rc (W5 v (H i)):=by
    rcases c.at i with B| ⟨_,_,B⟩
    . exact B
    exact absurd ((ad i).1 ax) B
   rw[Z];have ah:∀e∈out,e.1<i:=λe a=>ab _ (s e a)
   have ae:A4 out i=0:=C7 λe a a6=>by have:=ah e a;omega
   refine⟨λp=>p.1.length<=(j+1).toNat/\R3 p.1/\(∀e∈p.1,e.1∈l.take (j+1).toNat)/\∀k∈l.take (j+1).toNat,A4 p.1 k=W5 v (H k),⟨⟨o,h⟩,trivial,?_⟩,?_⟩
   . rintro⟨bm,_⟩ _ J;simp only at J|-;rw[H2]at J;refine⟨λr=>⟨⟨by simp only[rC];omega,by simp only[rC];omega⟩,by show(out++ [(i,_)]).length<= _;simp;omega,?_,λe a=>?_,λk b=>?_⟩,λr=>⟨by show out.length<= _;omega,G,λe a=>by rw[E];exact qZ.2 (.inl (s e a)),λk b=>?_⟩⟩
     . have r:=qA r;exact Lw G (λo=>r (by rw[J,o];rfl)) ah
     . rw[E];rcases qZ.1 a with a|a
       . exact qZ.2 (.inl (s e a))
       rw[qO.1 a];exact qZ.2 (.inr (qO.2 rfl))
     . show A4 (out++ [(i,rc (W5 v (H i)))]) k=W5 v (H k);rw[Ga];rw[E]at b;rcases qZ.1 b with b|b
       . have:=ab k b;rw[qG ω,rK,A k b]
       rw[qO.1 b,qK rfl,ae,sR]
     have r:=qB r;have b7:W5 v (H i)=0:=BO (by rw[<-J];exact tA.1 r);rw[E]at b;show A4 out k=W5 v (H k);rcases qZ.1 b with b|b
     . exact A k b
     rw[qO.1 b,ae,b7]
   rintro⟨bl,_⟩ _ af;simp only at af|-;rw[wv ω];exact⟨⟨ω,ω,af⟩,ω⟩
 have h:=qB h;rw[E6 ω]at s A;refine⟨G,λi=>?_⟩;show A4 out i=W5 v (H i);by_cases T:i∈l
 . exact A i T
 rw[C7 λe a a6=>T (by rw[<-a6];exact s e a)];have:=c.val i;rw[ZH λB=>T ((ad i).2 B)]at this;exact bE.symm.trans this
def SO:sq Hq HO:=λx V E=>by
 obtain⟨⟨(R:Int),(C:Int),D⟩,⟨(R':Int),(C':Int),D'⟩,_⟩:=x;change List (List C8)at D D';obtain⟨F,G,P⟩:J1 K0 (R,C,D)/\J1 K0 (R',C',D')/\C<=1000:=E;simp only[HO,iB,Gh,aY];refine⟨trivial,?_⟩;rintro⟨B,_⟩ _ f;simp only at f|-;refine⟨λ_=>trivial,?_⟩;rintro⟨W,_⟩ r;simp only at r|-;rw[H7];by_cases a:A3 (R,C,D)
 . have f:B=true:=by rw[f];exact rB a
   have r:=(r (by rw[f];rfl)).2;rw[f,r];by_cases b:A3 (R',C',D')
   . rw[rB b];refine⟨λh=>(by cases h),λ_=>⟨λh=>?_,λh=>?_⟩⟩
     . have h:=qA h;exact⟨λh=>absurd ⟨a,b⟩ h,λ_=>⟨λ_=>⟨rfl,by trivial⟩,λs=>absurd s h⟩⟩
     have h:=tA.1 (qB h);obtain⟨v,I,J,M,_,_⟩:=id a;have Y:(D.length:Int)=R:=a.2.2.2.2.1;have N:∀w∈D,E7 w C:=a.2.2.2.2.2;have Z:0<=C':=b.2.2.1;have a0:(D'.length:Int)=R':=b.2.2.2.2.1;have O:∀w∈D',E7 w C':=b.2.2.2.2.2;simp only at v I J M;refine⟨⟨v,qH _,ω,ω⟩,?_⟩;refine⟨λp=>0<=p.1/\p.1<=R/\gK R.toNat p.1.toNat (λi=>eK C'.toNat λj=>B8 C.toNat λk=>el (R,C,D) i k*el (R',C',D') k j) p.2.1,λp=>(R-p.1).toNat,⟨qH _,v,B5r rL⟩,?_⟩;rintro⟨(k:Int),rows,_⟩ _ ⟨g,H,o⟩;change List (List C8)at rows;simp only at g H o|-;have:=o.1;refine⟨λc=>?_,λc=>?_⟩
     . have c:=qA c;have t:=F6 (d:=([]:List C8)) g c;rw[Ir g c]at t|-;have u:=N _ t;refine⟨⟨g,c⟩,⟨JN a F t,G,b,by rw[<-h];exact u,ω⟩,?_⟩;rintro⟨X,_⟩ _ A;simp only at A|-;rw[wv ω];have z:∀j:Int,W5 (D.getD k.toNat []) (λk=>A4 (D'.getD k.toNat []) j)=B8 C.toNat λl=>el (R,C,D) k.toNat l*A4 (D'.getD l []) j:=λj=>by
        rw[lH (n:=C.toNat) λe y=>⟨(u.2 e y).1,by have:=(u.2 e y).2.1;omega⟩];exact A8 λl _=>by rw[qN];rfl
       refine⟨⟨g,ω⟩,⟨ω,ω,gL o g ω ?_⟩,ω⟩;refine A8m A (λj T=>?_) λj _=>?_
       . rw[z];refine S7 λl U=>?_
         rw[kA (O _ (D4 (l:=D') (i:=l) ω)) (ω:¬(0<=j/\j<C')),sM]
       rw[z];rfl
     have c:=qB c;exact⟨λh=>absurd ⟨a,b⟩ h,λ_=>⟨λs=>absurd h s,λ_=>⟨⟨by show R= _;omega,by show C'= _;omega,o.1,λi Q=>o.2 i ω⟩,by trivial⟩⟩⟩
   rw[qX b];exact⟨λ_=>⟨λ_=>⟨rfl,by trivial⟩,λh=>absurd h.2 b⟩,λh=>(by cases h)⟩
 have f:B=false:=by rw[f];exact qX a
 rw[f];exact⟨λ_=>⟨λ_=>⟨rfl,by trivial⟩,λh=>absurd h.1 a⟩,λh=>(by simp at h)⟩
def A8n {n:Nat} {f:Nat->Rat} {v:List C8} (h:eK n f v):v.length<=n:=by
 have:=Aa (gX h);omega
def Ig:sq J4 Cf:=λx t c=>by
 obtain⟨l,⟨u,f⟩,_⟩:=x;have w:l.length<=9223372036854775807:=t.1.1;change Wf at l;have c:∀i∈l,u (i,()):=c;simp only[Cf,iB];refine⟨λp=>0<=p.1/\p.1<=(l.length:Int)/\∀y∈l.take p.1.toNat,f (y,())=false,λp=>((l.length:Int)-p.1).toNat,⟨qH _,qF _,by simp⟩,?_⟩;rintro⟨(i:Int),_⟩ _ ⟨a,n,b⟩;simp only at a n b|-;refine⟨λh=>?_,λh=>?_⟩
 . have h:=qA h;refine⟨⟨a,h⟩,by trivial,c _ (F6 a h),λ_=>⟨λs=>?_,λo=>?_⟩⟩
   . have r:l.findIdx? (λi=>f (i,()))=some i.toNat:=by
      rw[zZ];have g:=H0 (d:=(0:Int)) a h;have j:i.toNat<l.length:=ω
      rw[qQ j]at g;refine⟨j,by rw[xD g];exact s,λk v=>?_⟩;have:=b l[k] (vJ.2 ⟨k,by rw[rA];omega,by simp⟩);simp[this]
     unfold A0t;rw[r];show i=((i.toNat:Nat):Int);omega
   rw[wv ω];exact⟨⟨ω,ω,Jp a h b o⟩,ω⟩
 have h:=qB h;rw[E6 ω]at b;unfold A0t;have:l.findIdx? (λi=>f (i,()))=none:=by
  rw[g1r];exact b
 rw[this]
def C1d (p:Int->Bool) (l:Wf):0<=A0t p l↔∃i,i∈l/\p i=true:=by
 unfold A0t;cases h:l.findIdx? p with
 |none=>
  rw[g1r]at h;constructor
  . intro b;simp at b
  rintro⟨i,c,a⟩;have:=h i c;rw[this]at a;cases a
 |some k=>
  rw[zZ]at h;obtain⟨a,b,_⟩:=h;exact⟨λ_=>⟨_,wE a,b⟩,λ_=>qF _⟩
def Fx:sq G3 Z9:=λx d a=>by
 obtain⟨(l:Wf),⟨c,f⟩,_⟩:=x;have a:∀i∈l,c (i,()):=a;simp only[Z9,Ci];refine⟨by trivial,by trivial,a,?_⟩;rintro⟨r,_⟩ _ b;simp only at b|-;rw[b];exact wH.2 (C1d _ _)
def Uh:sq L6 Kk:=λx a _=>by
 simp only[Kk];rw[H7,Bool.decide_or]
def B0v {a b:List C8} (h:a.Perm b) (j:Int):A4 a j=A4 b j:=by
 induction h with
 |nil=>rfl
 |cons e _ c=>rw[A4,A4,c]
 |swap e f l=>simp only[A4];rw[<-xZ, <-xZ,yK (if f.1=j then rv f.2 else 0)]
 |trans _ _ c d=>rw[c,d]
def C0l {a b:Int} (h:¬N4 b a<0):a<=b:=by
 unfold N4 at h;split at h
 . omega
 split at h<;>omega
def GN:sq Bw Ug:=λx bs bl=>by
 obtain⟨⟨R,C,D⟩,rows,a,_⟩:=x;have cb:Hc (R,C,D):=R4 bs.1.2.2.2;change Int at R C;change List (List C8)at D;change Wf at rows a;obtain⟨⟨bn,cc,ca⟩,aw⟩:(J1 K1 (R,C,D)/\rows.length<=1000/\a.length<=1000)/\a.Nodup:=by
  obtain⟨B,E,r,d⟩:=bl;exact⟨⟨B,E,r⟩,d⟩
 simp only[Ug,iB,N6,Gh];refine⟨trivial,?_⟩;rintro⟨b2,_⟩ _ H;simp only at H|-;by_cases v:A3 (R,C,D)
 . have H:b2=true:=by rw[H];exact rB v
   rw[H];obtain⟨c0,c2,c3,c4,_,_⟩:=id v;have cg:(D.length:Int)=R:=v.2.2.2.2.1;have c5:∀w∈D,E7 w C:=v.2.2.2.2.2;simp only at c0 c2 c3 c4;refine⟨λh=>(by cases h),λ_=>⟨by trivial,by trivial,λ_ _=>trivial,?_⟩⟩;rintro⟨a6,_⟩ _ a0;simp only at a0|-;refine⟨by trivial,by trivial,λ_ _ _=>trivial,?_⟩;rintro⟨b3,_⟩ U;simp only at U|-;rw[H7];have aj:(a6||b3)=true↔((∃i,i∈rows/\(i<0\/R<=i))\/∃i,i∈a/\(i<0\/C<=i)):=by
    by_cases f:∃i,i∈rows/\(i<0\/R<=i)
    . have:a6=true:=by
       rw[a0];obtain⟨i,b,c⟩:=f;exact rB ⟨i,b,rB c⟩
      rw[this];exact⟨λ_=> .inl f,λ_=>rfl⟩
    have am:a6=false:=by
     rw[a0];exact qX fun⟨i,b,c⟩=>f ⟨i,b,qA c⟩
    have U:=(U am).2;rw[am,vC,U];constructor
    . intro h;obtain⟨i,b,c⟩:=qA h;exact .inr ⟨i,b,qA c⟩
    rintro(h| ⟨i,b,c⟩)
    . exact absurd h f
    exact rB ⟨i,b,rB c⟩
   refine⟨λh=>?_,λh=>⟨trivial,?_⟩⟩
   . have h:=aj.1 h;exact⟨λg=>absurd v g,λ_=>⟨λ_=>⟨rfl,by trivial⟩,λg=>absurd h g⟩⟩
   have ac:¬((∃i,i∈rows/\(i<0\/R<=i))\/∃i,i∈a/\(i<0\/C<=i)):=λg=>by rw[aj.2 g]at h;cases h
   have bm:∀i∈rows,0<=i/\i<R:=λi b=>qM λhn=>ac (.inl ⟨i,b,ω⟩)
   have be:∀i∈a,0<=i/\i<C:=λi b=>qM λhn=>ac (.inr ⟨i,b,ω⟩)
   rintro⟨b4,_⟩ _ a7;simp only at a7|-;refine⟨λ_=>trivial,?_⟩;rintro⟨b5,_⟩ a8;simp only at a8|-;have M:b4=true:=by rw[a7];exact rB ⟨ω,ω⟩
   have F:b5=true:=by rw[(a8 (by rw[M];rfl)).2];exact rB ⟨ω,ω⟩
   rw[M,F];refine⟨λh=>(by cases h),λ_=>?_⟩;clear a0 U a7 a8 aj h;refine⟨λp=>0<=p.1/\p.1<=(a.length:Int)/\(∀k:Nat,k<p.1.toNat->F8 (.int .i64) (a.getD k 0) p.2.1=some [(k:Int)])/\∀r,r∉a.take p.1.toNat->F8 (.int .i64) r p.2.1=Option.none,λp=>((a.length:Int)-p.1).toNat,⟨qH _,qF _,λk o=>by simp at o,λ_ _=>rfl⟩,?_⟩;rintro⟨(i:Int),J,_⟩ _ ⟨ai,bt,a1,W⟩;change List (Int×Wf)at J;simp only at ai bt a1 W|-;refine⟨λb=>?_,λb=>?_⟩
   . have b:=qA b;have a9:=O8 (d:=(0:Int)) ai b;have ar:i.toNat<a.length:=ω
     have b0:a.take (i+1).toNat=a.take i.toNat++ [a.getD i.toNat 0]:=by
      rw[(ω:(i+1).toNat=i.toNat+1),rP,qQ ar,H1 _ _ ar];rfl
     have ax:a.getD i.toNat 0∉a.take i.toNat:=λaa=>by
      have f:(a.take (i+1).toNat).Nodup:=aw.take;rw[b0,tL]at f;exact f.2.2 _ aa _ (qO.2 rfl) rfl
     rw[a9,wv ω];refine⟨⟨ai,b⟩,W _ ax,⟨by simp only[rC];omega,by simp only[rC];omega⟩,⟨ω,ω,λk o=>?_,λr c=>?_⟩,ω⟩
     . show F8 (.int .i64) (a.getD k 0) (Eb (.int .i64) (a.getD i.toNat 0) [i] J)= _;rw[Sg];by_cases aq:k=i.toNat
       . rw[qK (by rw[aq]),aq,(ω:((i.toNat:Nat):Int)=i)]
       have bi:k<i.toNat:=by have o:k<(i+1).toNat:=o;omega
       rw[qG,a1 k bi];intro bg;apply ax;rw[<-bg,H1 _ _ (ω:k<a.length)];exact vJ.2 ⟨k,by rw[rA];omega,by simp⟩
     show F8 (.int .i64) r (Eb (.int .i64) (a.getD i.toNat 0) [i] J)= _;have c:r∉a.take (i+1).toNat:=c;rw[b0,qZ,qO,g5m]at c;rw[Sg,qG c.2,W r c.1]
   have b:=qB b;rw[E6 ω]at W;have aa:i.toNat=a.length:=ω
   rw[aa]at a1;rw[qN];refine⟨⟨ω,qH _,ω,ω⟩,λp=>0<=p.1/\p.1<=(rows.length:Int)/\gK rows.length p.1.toNat (λi=>eK a.length λj=>el (R,C,D) (rows.getD i 0).toNat (a.getD j 0).toNat) p.2.1,λp=>((rows.length:Int)-p.1).toNat,⟨qH _,qF _,B5r rL⟩,?_⟩;rintro⟨(k:Int),out,_⟩ _ ⟨O,bu,V⟩;change List (List C8)at out;simp only at O bu V|-;have cd:=V.1;refine⟨λo=>?_,λo=>?_⟩
   . have o:=qA o;have a9:=O8 (d:=(0:Int)) O o;have ae:=bm _ (F6 (d:=(0:Int)) O o);rw[a9]at ae|-;have bh:∀ {w:List C8},eK a.length (λj=>el (R,C,D) (rows.getD k.toNat 0).toNat (a.getD j 0).toNat) w->gK rows.length (k+1).toNat (λi=>eK a.length λj=>el (R,C,D) (rows.getD i 0).toNat (a.getD j 0).toNat) (out.set k.toNat w):=λ{w} hw2=>gL V O o hw2
     generalize rows.getD k.toNat 0=Z at*;have az:Z<(D.length:Int):=ω
     rw[Ir ae.1 az];have au:D.getD Z.toNat []∈D:=D4 ω;have af:=JN v bn au;have bq:=c5 _ au;have bc:∀r:Int,0<=r->A4 (D.getD Z.toNat []) r=el (R,C,D) Z.toNat r.toNat:=λr c=>B4u _ _ c
     generalize D.getD Z.toNat []=row at*;have cf:=af.2.2;refine⟨⟨O,o⟩,⟨ae.1,az⟩,λp=>0<=p.2.1/\p.2.1<=(row.length:Int)/\p.1.length<=p.2.1.toNat/\(p.1.map λe=>e.1).Nodup/\(∀x∈p.1,∃q:Nat,q<a.length/\x.1=(q:Int)/\(∃y∈row.take p.2.1.toNat,y.1=a.getD q 0)/\rv x.2≠0/\x.2=rc (rv x.2))/\∀j:Nat,j<a.length->A4 p.1 (j:Int)=A4 (row.take p.2.1.toNat) (a.getD j 0),λp=>((row.length:Int)-p.2.1).toNat,⟨qH _,qF _,qT _,yD,λ_ h=>(by cases h),λj _=>rfl⟩,?_⟩;rintro⟨(P:List C8),(t:Int),_⟩ _ ⟨Q,bx,bv,a3,a4,Y⟩;simp only at Q bx bv a3 a4 Y|-;refine⟨λu=>?_,λu=>?_⟩
     . have u:=qA u;have ap:=F6 (d:=D7) Q u;obtain⟨c6,c7,b6⟩:=bq.2 _ ap;have bo:=af.2.1 _ ap;have bf:=PV (d:=D7) Q u;have bb:∀y∈row.take t.toNat,y.1≠(gx D7 row t).1:=λx n hxe=>by
        have f:(row.take (t+1).toNat).Pairwise (λB E=>B.1<E.1):=af.1.take;rw[(ω:(t+1).toNat=t.toNat+1),rP,H0 (d:=D7) Q u,tG]at f;have:=f.2.2 x n (gx D7 row t) (by simp);omega
       have bp:∀y∈row.take t.toNat,y∈row.take (t+1).toNat:=λy X=>by
        rw[(ω:(t+1).toNat=t.toNat+1),rP];exact qZ.2 (.inl X)
       have bk:gx D7 row t∈row.take (t+1).toNat:=by
        rw[(ω:(t+1).toNat=t.toNat+1),rP,H0 (d:=D7) Q u];simp
       generalize gx D7 row t=e at*;have N:(F8 (.int .i64) e.1 J).getD []= []/\e.1∉a\/∃q:Nat,q<a.length/\a.getD q 0=e.1/\(F8 (.int .i64) e.1 J).getD []= [(q:Int)]:=by
        by_cases c:e.1∈a
        . obtain⟨q,A,G⟩:=T8 0 c;have:=a1 q A;rw[G]at this;exact .inr ⟨q,A,G,by rw[this];rfl⟩
        exact .inl ⟨by rw[W _ c];rfl,c⟩
       generalize (F8 (.int .i64) e.1 J).getD []=L at*;have c8:L.length<=1:=by
        rcases N with⟨h,_⟩ | ⟨q,_,_,h⟩<;>rw[h]<;>simp
       refine⟨⟨Q,u⟩,λp=>0<=p.2.1/\p.2.1<=(L.length:Int)/\p.1=P++(L.take p.2.1.toNat).map λq=>(q,rc (rv e.2)),λp=>((L.length:Int)-p.2.1).toNat,⟨qH _,qF _,by simp⟩,?_⟩;rintro⟨(b1:List C8),(a5:Int),_⟩ _ ⟨ak,bz,z⟩;simp only at ak bz z|-;have ce:b1.length<=P.length+1:=by
        rw[z,rS,sO,rA];omega
       refine⟨λI=>?_,λI=>?_⟩
       . have I:=qA I;refine⟨⟨ak,I⟩,O4 bo δ,?_⟩;rintro⟨q,_⟩ _ A;simp only at A|-;rw[wv ω];refine⟨⟨by simp only[rC];omega,by simp only[rC];omega⟩,⟨ω,ω,?_⟩,ω⟩;rw[z,A,(ω:(a5+1).toNat=a5.toNat+1),rP,H0 (d:=(0:Int)) ak I,uZ,uP];rfl
       have I:=qB I;rw[E6 (l:=L) (i:=a5) ω]at z;rw[wv ω];have ao:∀j:Nat,j<a.length->A4 (row.take (t+1).toNat) (a.getD j 0)=A4 (row.take t.toNat) (a.getD j 0)+if e.1=a.getD j 0 then rv e.2 else 0:=λj _=>bf _
       have av:∀x∈P,∃q:Nat,q<a.length/\x.1=(q:Int)/\(∃y∈row.take (t+1).toNat,y.1=a.getD q 0)/\rv x.2≠0/\x.2=rc (rv x.2):=λx n=>by
        obtain⟨q,f,g,⟨y,X,M⟩,F,T⟩:=a4 x n;exact⟨q,f,g,⟨y,bp y X,M⟩,F,T⟩
       rcases N with⟨N,bj⟩ | ⟨q,A,G,N⟩
       . rw[N,g1c,wB]at z;subst z;refine⟨⟨ω,ω,ω,a3,av,λj s=>?_⟩,ω⟩;rw[Y j s,ao j s,qG (λh=>bj (by rw[h];exact D4 s)),rK]
       rw[N,rT,g1c]at z;subst z;refine⟨⟨ω,ω,ω,?_,λx n=>?_,λj s=>?_⟩,ω⟩
       . show((P++ [((q:Int),rc (rv e.2))]).map λe:C8=>e.1).Nodup;rw[uZ,tL];refine⟨a3,by simp,λB b8 E ba c9=>?_⟩;obtain⟨x,n,rfl⟩:=sV.1 b8;simp only[rT,g1c,qO]at ba;obtain⟨bw,f,g,⟨y,X,M⟩,_⟩:=a4 x n;have:bw=q:=ω
         subst this;exact bb y X (by rw[M,G])
       . rcases qZ.1 n with n|n
         . exact av x n
         rw[qO.1 n];exact⟨q,A,rfl,⟨e,bk,G.symm⟩,by rw[H2];exact b6,by rw[H2]⟩
       show A4 (P++ [((q:Int),rc (rv e.2))]) (j:Int)= _;rw[Ga,Y j s,ao j s];congr 1;by_cases ay:q=j
       . subst ay;rw[qK rfl,qK G.symm]
       rw[qG ω,qG];intro b7;apply ay;have an:a.getD q 0=a.getD j 0:=G.trans b7;rw[H1 _ _ A,H1 _ _ s]at an;exact(xK aw).1 an
     have u:=qB u;rw[E6 ω]at Y;refine⟨ω,λa2 _ ad ag=>?_⟩;have ag:a2.Pairwise λB E:C8=>¬N4 E.1 B.1<0:=ag
     rw[wv ω];refine⟨⟨O,ω⟩,⟨ω,ω,bh ?_⟩,ω⟩;have ab:(a2.map λe:C8=>e.1).Nodup:=(ad.map _).nodup_iff.2 a3;have b9:asc a2:=by
      unfold List.Nodup at ab;rw[wK]at ab;refine g1i ?_ ag ab;intro B E f g;have:=C0l f;omega
     have n:∀x∈a2,∃q:Nat,q<a.length/\x.1=(q:Int)/\rv x.2≠0/\x.2=rc (rv x.2):=λx n=>by
      obtain⟨q,f,g,_,F,T⟩:=a4 x (ad.mem_iff.1 n);exact⟨q,f,g,F,T⟩
     refine⟨⟨b9,λx ah=>?_⟩,λx ah=>?_,λj s=>?_⟩
     . obtain⟨q,_,_,F,T⟩:=n x ah;exact⟨F,T⟩
     . obtain⟨q,f,g,_⟩:=n x ah;omega
     rw[B0v ad,Y j s];exact bc _ (be _ (D4 s)).1
   have o:=qB o;exact⟨λh=>absurd v h,λ_=>⟨λg=>absurd g ac,λ_=>⟨λg=>absurd g ω,λ_=>⟨⟨rfl,rfl,V.1,λi b=>V.2 i ω⟩,by trivial⟩⟩⟩⟩
 have H:b2=false:=by rw[H];exact qX v
 rw[H];exact⟨λ_=>⟨λ_=>⟨rfl,by trivial⟩,λh=>absurd h v⟩,λh=>(by cases h)⟩
def kL:An:= {loop:= [(4,⟨[1],[0],[(3,false,vI)],[],[]⟩)],plan:= [(6,[1,4,6],[],true, .done)]}
def oZ:An:= {loop:= [(3,⟨[0,4,5],[0],[(6,false,vI)],[(1,25,[.val qb, .val qb, .own qd 61])],[]⟩)],plan:= [(5,[1,5],[8,10],false, .done)]}
def UT:An:= {loop:= [(3,⟨[1,3],[0],[(4,false,vI)],[],[(1, .row qj 28)]⟩)],plan:= [(5,[3,6,8],[14],true, .done)]}
def PN:An:= {loop:= [(4,⟨[2,3],[0,1],[(5,false,vI)],[],[]⟩)],plan:= [(6,[1,4,6,9],[],true, .done)]}
def OO(x:T4):Prop:=let f:=(0:Int);let b:=(x.1.2.2.length:Int);let e:=(decide (b≠x.1.1));let c:=(F5 (F5 (F5 (decide (x.1.1<f)) true (decide (16384<x.1.1))) true (decide (x.1.2.1<f))) true (decide (16384<x.1.2.1)));(iB (F5 c true e) (false=decide (A3 x.1)) (∃(I:D3->Prop),∃(a: _->Nat),I (f,())/\∀(p:D3),let d:=(gx [] x.1.2.2 p.1);let c:=(i64.wrap (p.1+1),());(Ty.int i64).wf p.1/\True->I p->(iB (decide (p.1<x.1.1)) ((f<=p.1/\p.1<b)/\Zr K1 d/\Gh λr=>r.1=decide (E7 d x.1.2.1)->(iB ((!r.1)) (false=decide (A3 x.1)) (I c/\a c<a p))) (true=decide (A3 x.1)))))
abbrev D0e:=Int×Int×Int×List (List EE)×Unit
abbrev B3b:=List (List QQ)×Int×Unit
def UG(x:B3b):Prop:=let d:=(↑x.2.1.toNat:Int);let b:=(x.1.length:Int);∃(I:D0e->Prop),∃(f: _->Nat),I ((0:Int),b,x.2.1,[],())/\∀(p:D0e),let c:=(gx [] x.1 p.1);(Ty.int i64).wf p.1/\(Ty.int i64).wf p.2.1/\(Ty.int i64).wf p.2.2.1/\tE.sl.sl.wf p.2.2.2.1/\True->I p->(iB (decide (p.1<b)) ((0<=p.1/\p.1<b)/\(c.length<=(100000:Nat)/\nK K1 c)/\aY λr=>let a:=(i64.wrap (p.1+1),p.2.1,p.2.2.1,p.2.2.2.1++ [r.1],());eK c.length (fun(j:Nat)=>rv (c.getD j zr)) r.1->((p.2.2.2.1.length+ [r.1].length)*(24:Nat)<=(140737488355328:Nat)/\p.2.2.2.1.length+ [r.1].length<=9223372036854775807)/\I a/\f a<f p) (p.2.1=(↑x.1.length:Int)/\p.2.2.1=d/\p.2.2.2.1.length=x.1.length/\∀(i:Nat),i<x.1.length->R3 (p.2.2.2.1.getD i [])/\(∀(e:C8),e∈p.2.2.2.1.getD i []->0<=e.1/\e.1<d)/\∀(j:Nat),j<x.2.1.toNat->A4 (p.2.2.2.1.getD i []) (↑j:Int)=rv ((x.1.getD i []).getD j zr)))
abbrev Kw:=Int×List (List QQ)×Unit
def Xs(x:T4):Prop:=let c:=(0:Int);(c<=x.1.1/\x.1.1<=x.1.1/\(↑(24:Nat):Int)*x.1.1<=281474976710656/\x.1.1<=9223372036854775807)/\∃(I:Kw->Prop),∃(d: _->Nat),I (c,List.replicate x.1.1.toNat [],())/\∀(p:Kw),let b:=(gx [] x.1.2.2 p.1);(Ty.int i64).wf p.1/\FJ p.2.1/\True->I p->(iB (decide (p.1<x.1.1)) ((c<=p.1/\p.1<(x.1.2.2.length:Int))/\(Vy K1 b/\E7 b x.1.2.1/\c<=x.1.2.1/\x.1.2.1<=16384)/\∀(r:List QQ×Bool×Unit),let a:=(i64.wrap (p.1+1),List.set p.2.1 p.1.toNat r.1,());WfL r.1/\True/\True->r.1=dl x.1.2.1 (A4 b)/\r.2.1=true->(c<=p.1/\p.1<(p.2.1.length:Int))/\I a/\d a<d p) (p.2.1=Ot x.1))
def Ul(x:JS):Prop:=let d:=(x.2.1.2.2.length:Int);let g:=(F5 (decide (x.1.1≠x.2.1.1)) true (decide (x.1.2.1≠x.2.1.2.1)));let b:Prop:=(false=true↔x.1=x.2.1/\∀(v:List EE),v∈x.1.2.2->∀(e:EE),e∈v->e.2=rc (rv e.2));let a:=(x.1.2.2.length:Int);(iB (F5 g true (decide (a≠d))) (b) (∃(I:D3->Prop),∃(c: _->Nat),I ((0:Int),())/\∀(p:D3),let f:=(i64.wrap (p.1+1),());(Ty.int i64).wf p.1/\True->I p->(iB (decide (p.1<a)) ((0<=p.1/\p.1<a)/\(0<=p.1/\p.1<d)/\Zr K1 (gx [] x.1.2.2 p.1)/\Gh λr=>r.1=decide (gx [] x.1.2.2 p.1=gx [] x.2.1.2.2 p.1/\∀(e:EE),e∈gx [] x.1.2.2 p.1->e.2=rc (rv e.2))->(iB ((!r.1)) (b) (I f/\c f<c p))) ((true=true↔x.1=x.2.1/\∀(v:List EE),v∈x.1.2.2->∀(e:EE),e∈v->e.2=rc (rv e.2))))))
def VX:sq Ke OO:=λx r n=>by
 obtain⟨⟨R,C,D⟩,_⟩:=x;have E:D.length<=9223372036854775807:=r.1.2.2.1;change Int at R C;change List (List C8)at D;have o:J1 K1 (R,C,D):=n;simp only[OO,iB,Gh];simp only[H7];refine⟨λh=>?_,λh=>?_⟩
 . refine(qX λj=>?_).symm;obtain⟨s,t,u,w,y,_⟩:=j;simp only at s t u w y;simp only[uD,rR]at h;omega
 simp only[rE,rM,tA]at h;obtain⟨⟨⟨⟨z,A⟩,B⟩,d⟩,e⟩:=h;refine⟨λp=>0<=p.1/\∀v∈D.take p.1.toNat,E7 v C,λp=>(R-p.1).toNat,⟨qH _,by simp⟩,?_⟩;rintro⟨(k:Int),_⟩ _ ⟨c,f⟩;simp only at c f|-;refine⟨λb=>?_,λb=>?_⟩
 . have b:=qA b;have g:k<(D.length:Int):=ω
   have l:=F6 (d:=([]:List C8)) c g;refine⟨⟨c,g⟩,o _ l,?_⟩;rintro⟨q,_⟩ _ i;simp only at i|-;refine⟨λa=>?_,λa=>?_⟩
   . refine(qX λj=>?_).symm;rw[i,rB (j.2.2.2.2.2 _ l)]at a;cases a
   rw[i]at a;have a:decide (E7 (gx [] D k) C)=true:=by simpa using a
   rw[wv ω];exact⟨⟨ω,Jp (d:=([]:List C8)) (q:=λv=>E7 v C) c g f (qA a)⟩,ω⟩
 have b:=qB b;rw[E6 ω]at f;exact(rB (show A3 (R,C,D)from⟨by show 0<=R;omega,by show R<= _;omega,by show 0<=C;omega,by show C<= _;omega,e,f⟩)).symm
def dI:sq Jd UG:=λx J z=>by
 obtain⟨D,C,_⟩:=x;change List (List C6)at D;change Int at C;obtain⟨B,G,c1,I⟩:(∀l∈D,nK K1 l/\(l.length:Int)=C)/\0<=C/\C<=16384/\D.length<=16384:=z;simp only[UG,iB,aY];refine⟨λp=>0<=p.1/\p.1<=(D.length:Int)/\p.2.1=(D.length:Int)/\p.2.2.1=C/\p.2.2.2.1.length=p.1.toNat/\∀i,i<p.1.toNat->eK C.toNat (λF=>rv ((D.getD i []).getD F zr)) (p.2.2.2.1.getD i []),λp=>((D.length:Int)-p.1).toNat,⟨qH _,qF _,rfl,rfl,rfl,λi s=>by simp at s⟩,?_⟩;rintro⟨(i:Int),(n:Int),(o:Int),rows,_⟩ _ ⟨a,E,c,j,A,f⟩;change List (List C8)at rows;simp only at a E c j A f|-;refine⟨λh=>?_,λh=>?_⟩
 . have h:=qA h;have y:=F6 (d:=([]:List C6)) a h;obtain⟨r,H⟩:=B _ y;refine⟨⟨a,h⟩,⟨ω,r⟩,?_⟩;rintro⟨v,_⟩ _ g;simp only at g|-;rw[wv ω];rw[(ω:(gx [] D i).length=C.toNat),O8 a h]at g;refine⟨⟨by simp only[rC];omega,by simp only[rC];omega⟩,⟨ω,ω,c,j,by rw[rS,rC];omega,λk t=>?_⟩,ω⟩;show eK _ _ ((rows++ [v]).getD k []);by_cases u:k<rows.length
   . have b:(rows++ [v]).getD k []=rows.getD k []:=by
      rw[qE,vL u, <-qE]
     rw[b];exact f k ω
   have w:k=i.toNat:=ω
   have b:(rows++ [v]).getD k []=v:=by
    rw[qE,tW ω,(ω:k-rows.length=0)];rfl
   rw[b,w];exact g
 have h:=qB h;exact⟨c,ω,ω,λk t=>f k ω⟩
def KF:sq Dq Xs:=λx z o=>by
 obtain⟨⟨(R:Int),(C:Int),D⟩,_⟩:=x;change List (List C8)at D;obtain⟨r,c⟩:J1 K1 (R,C,D)/\A3 (R,C,D):=o;obtain⟨g,u,l,n,_,_⟩:=id c;have B:(D.length:Int)=R:=c.2.2.2.2.1;have v:∀w∈D,E7 w C:=c.2.2.2.2.2;simp only at g u l n;simp only[Xs,iB];refine⟨⟨g,qH _,ω,ω⟩,λp=>0<=p.1/\p.1<=R/\fill R.toNat p.1.toNat (λs=>dl C (A4 (D.getD s []))) p.2.1,λp=>(R-p.1).toNat,⟨qH _,g,B5q rL⟩,?_⟩;rintro⟨(k:Int),rows,_⟩ _ ⟨a,t,b⟩;change List (List C6)at rows;simp only at a t b|-;have:=b.1;refine⟨λh=>?_,λh=>?_⟩
 . have h:=qA h;have f:k<(D.length:Int):=ω
   have j:=F6 (d:=([]:List C8)) a f;refine⟨⟨a,f⟩,⟨JN c r j,v _ j,l,n⟩,?_⟩;rintro⟨A,y,_⟩ _ ⟨i,_⟩;simp only at i|-;rw[wv ω];refine⟨⟨a,ω⟩,⟨ω,ω,YO b a ω ?_⟩,ω⟩;rw[i,Ir a f]
 have h:=qB h;exact YN b ω
def GR:sq Cc Ul:=λx B y=>by
 obtain⟨⟨R,C,D⟩,⟨R',C',D'⟩,_⟩:=x;have E:D.length<=9223372036854775807:=B.1.2.2.1;change Int at R C R' C';change List (List C8)at D D';have z:J1 K1 (R,C,D):=y;simp only[Ul,iB,Gh];simp only[H7];refine⟨λh=>?_,λh=>?_⟩
 . simp only[uD,rR]at h;refine⟨λa=>(by cases a),λa=>?_⟩;have c:=a.1;simp only[g0p]at c;obtain⟨rfl,rfl,rfl⟩:=c;simp at h
 simp only[rE,rM,tA]at h;obtain⟨⟨rfl,rfl⟩,F⟩:=h;refine⟨λp=>0<=p.1/\p.1<=(D.length:Int)/\D.take p.1.toNat=D'.take p.1.toNat/\∀v∈D.take p.1.toNat,∀e∈v,e.2=rc (rv e.2),λp=>((D.length:Int)-p.1).toNat,⟨qH _,qF _,by simp,by simp⟩,?_⟩;rintro⟨(i:Int),_⟩ _ ⟨f,u,a,c⟩;simp only at f u a c|-;refine⟨λh=>?_,λh=>?_⟩
 . have h:=qA h;have o:=F6 (d:=([]:List C8)) f h;have s:=H0 (d:=([]:List C8)) f h;have t:=H0 (d:=([]:List C8)) (l:=D') f ω;have r:D.take (i+1).toNat=D.take i.toNat++ [gx [] D i]:=by
    rw[(ω:(i+1).toNat=i.toNat+1),rP,s];rfl
   have A:D'.take (i+1).toNat=D'.take i.toNat++ [gx [] D' i]:=by
    rw[(ω:(i+1).toNat=i.toNat+1),rP,t];rfl
   refine⟨⟨f,h⟩,⟨f,ω⟩,z _ o,?_⟩;rintro⟨q,_⟩ _ k;simp only at k|-;refine⟨λb=>⟨λj=>(by cases j),λj=>?_⟩,λb=>?_⟩
   . obtain⟨n,w⟩:=j;simp only[g0p,true_and]at n;subst n;rw[k,rB (⟨rfl,w _ o⟩: _ /\ _)]at b;cases b
   rw[k]at b;have b:gx [] D i=gx [] D' i/\∀e∈gx [] D i,e.2=rc (rv e.2):=qA (by simpa using b);rw[wv ω];refine⟨⟨ω,ω,by rw[r,A,a,b.1],λv g=>?_⟩,ω⟩;rw[r]at g;rcases qZ.1 g with g|g
   . exact c v g
   rw[qO.1 g];exact b.2
 have h:=qB h;rw[E6 ω,E6 ω]at a;rw[E6 ω]at c;subst a;exact⟨λ_=>⟨rfl,c⟩,λ_=>by trivial⟩
def A4m:An:= {loop:= [(15,⟨[2,3,4,6,7,8,9,10,11],[0,1,2,3],[(12,false,vI)],[(4,46,[.val .bool, .val qa, .val qa])],[]⟩),(11,⟨[2,3,4,6,7,8,9],[0,1,2],[(10,false,vI)],[],[(3, .rows tQ 28 46)]⟩),(8,⟨[2,3,4,6,7,8],[0,1,2],[(9,false,vI)],[],[(3, .rows tQ 28 46)]⟩)],plan:= [(5,[0,2],[],true, .done),(17,[0,4,7,11,14],[17],true, .done),(18,[5,6],[8,10],false, .done)]}
def rT8 (P:MM×Unit->Prop):Prop:=∀r:MM×Unit,WfM r.1/\True->P r
def rT7 (P:List (List QQ)×Unit->Prop):Prop:=∀r:List (List QQ)×Unit,FJ r.1/\True->P r
def dJ(x:JS):Prop:=let o:=(4:Int);let f:=(1:Int);let e:=(0:Int);let c:Prop:=(x.1.2.1≠x.2.1.1);let b:Prop:=(A3 x.1/\A3 x.2.1);J1 K1 x.1/\Gh λr=>r.1=decide (A3 x.1)->((!r.1)=false->J1 K1 x.2.1)/\∀(C:K2),((!r.1)=false->(True/\True)/\C.1=decide (A3 x.2.1))->(iB ((F5 (!r.1) true !C.1)) ((¬b->(e,e,[])=zm/\f=f)/\(A3 x.1/\A3 x.2.1->(x.1.2.1≠x.2.1.1->(e,e,[])=zm/\f=o)/\(x.1.2.1=x.2.1.1->Lq x.1.1.toNat x.2.1.2.1.toNat (fun(i j:Nat)=>B8 x.1.2.1.toNat fun(k:Nat)=>el x.1 i k*el x.2.1 k j) (e,e,[])/\f=e))) ((iB (decide c) ((¬b->(e,e,[])=zm/\o=f)/\(A3 x.1/\A3 x.2.1->(x.1.2.1≠x.2.1.1->(e,e,[])=zm/\o=o)/\(x.1.2.1=x.2.1.1->Lq x.1.1.toNat x.2.1.2.1.toNat (fun(i j:Nat)=>B8 x.1.2.1.toNat fun(k:Nat)=>el x.1 i k*el x.2.1 k j) (e,e,[])/\o=e))) ((J1 K1 x.1/\A3 x.1)/\rT7 λr=>r.1=Ot x.1->(J1 K1 x.2.1/\A3 x.2.1)/\rT7 λA=>A.1=Ot x.2.1->(e<=x.1.1/\x.1.1<=x.1.1/\(↑(24:Nat):Int)*x.1.1<=281474976710656/\x.1.1<=9223372036854775807)/\∃(I:Kw->Prop),∃(a: _->Nat),I (e,List.replicate x.1.1.toNat [],())/\∀(p:Kw),let q:=(gx [] r.1 p.1);let g:=p.1.toNat;(Ty.int i64).wf p.1/\FJ p.2.1/\True->I p->(iB (decide (p.1<x.1.1)) (∃(I_1:Kw->Prop),∃(s: _->Nat),I_1 (e,p.2.1,())/\∀(y:Kw),let v:Prop:=(y.1<x.2.1.2.1);let u:=(List.getD y.2.1 g []);let m:=(i64.wrap (p.1+f),y.2.1,());let c:Prop:=(e<=p.1/\p.1<(y.2.1.length:Int));(Ty.int i64).wf y.1/\FJ y.2.1/\True->I_1 y->(iB (decide v) (True/\N6 λz=>z.1=rc (0:Rat)->∃(I:A3b->Prop),∃(a: _->Nat),I (e,z.1.1.1,z.1.1.2,z.1.2,())/\∀(w:A3b),let n:=(gx [] A.1 w.1);let d:=((w.2.1,w.2.2.1),w.2.2.2.1);let h:=(List.getD y.2.1 g []++ [d]);let t:=(i64.wrap (y.1+f),List.set y.2.1 g h,());(Ty.int i64).wf w.1/\Ty.bool.wf w.2.1/\(Ty.int u32).sl.wf w.2.2.1/\(Ty.int u32).sl.wf w.2.2.2.1/\True->I w->(iB (decide (w.1<x.1.2.1)) ((e<=p.1/\p.1<(r.1.length:Int))/\(e<=w.1/\w.1<(↑q.length:Int))/\(e<=w.1/\w.1<(A.1.length:Int))/\(e<=y.1/\y.1<(↑n.length:Int))/\(H3 (gx dQ q w.1)/\H3 (gx dQ n y.1))/\N6 λB=>B.1=rc (rv (gx dQ q w.1)*rv (gx dQ n y.1))->(H3 d/\H3 B.1)/\N6 λr=>let h:=(i64.wrap (w.1+f),r.1.1.1,r.1.1.2,r.1.2,());r.1=rc (rv d+rv B.1)->I h/\a h<a w) (c/\((u.length+ [d].length)*(56:Nat)<=(140737488355328:Nat)/\u.length+ [d].length<=9223372036854775807)/\c/\Int.toNat p.1=Int.toNat p.1/\I_1 t/\s t<s y))) (I m/\a m<a p))) (((∀(l:List QQ),l∈p.2.1->nK K1 l/\(↑l.length:Int)=x.2.1.2.1)/\e<=x.2.1.2.1/\x.2.1.2.1<=16384/\List.length p.2.1<=16384)/\rT8 λr=>Lq p.2.1.length x.2.1.2.1.toNat (fun(i j:Nat)=>rv ((List.getD p.2.1 i []).getD j zr)) r.1->(¬b->r.1=zm/\e=f)/\(A3 x.1/\A3 x.2.1->(x.1.2.1≠x.2.1.1->r.1=zm/\e=o)/\(x.1.2.1=x.2.1.1->Lq x.1.1.toNat x.2.1.2.1.toNat (fun(i j:Nat)=>B8 x.1.2.1.toNat fun(k:Nat)=>el x.1 i k*el x.2.1 k j) r.1/\e=e))))))))
def grown (n m i j:Nat) (f:Nat->Nat->Rat) (rows:List (List C6)):Prop:=rows.length=n/\∀k,k<n->rows.getD k []=(List.range (if k<i then m else if k=i then j else 0)).map λl=>rc (f k l)
def C6b {n m:Nat} {f:Nat->Nat->Rat} :grown n m 0 0 f (List.replicate n []):=⟨rL,λk a=>by
 rw[qE,uW,qK a,qG ω];by_cases h:k=0
 . rw[qK h];rfl
 rw[qG h];rfl⟩
def A5h {n m i j:Nat} {f:Nat->Nat->Rat} {rows:List (List C6)} {v:C6} (h:grown n m i j f rows) (d:i<n) (c:v=rc (f i j)):grown n m i (j+1) f (rows.set i (rows.getD i []++ [v])):=⟨by rw[qP];exact h.1,λk b=>by
 rw[qE,xU];by_cases a:i=k
 . subst a;rw[qK rfl,qK (by rw[h.1];exact b)];show rows.getD i []++ [v]= _;rw[h.2 i b,qG ω,qK rfl,qG ω,qK rfl,g2v,uZ,c];rfl
 rw[qG a, <-qE,h.2 k b,qG (λe:k=i=>a e.symm),qG (λe:k=i=>a e.symm)]⟩
def A5g {n m i:Nat} {f:Nat->Nat->Rat} {rows:List (List C6)} (h:grown n m i m f rows):grown n m (i+1) 0 f rows:=⟨h.1,λk a=>by
 rw[h.2 k a];have e:(if k<i then m else if k=i then m else 0)=(if k<i+1 then m else if k=i+1 then 0 else 0):=by
  by_cases a:k<i
  . rw[qK a,qK ω]
  rw[qG a];by_cases a:k=i
  . rw[qK a,qK ω]
  rw[qG a,qG ω];split<;>rfl
 rw[e]⟩
def B1c {n m i j:Nat} {f:Nat->Nat->Rat} {rows:List (List C6)} (h:grown n m i j f rows) (a:i<n):(rows.getD i []).length=j:=by
 rw[h.2 i a,qG ω,qK rfl];simp
def A0p {n m:Nat} {f:Nat->Nat->Rat} {rows:List (List C6)} (h:grown n m n 0 f rows) {k:Nat} (a:k<n):rows.getD k []=(List.range m).map λl=>rc (f k l):=by
 rw[h.2 k a,qK a]
def A5f {n m:Nat} {f:Nat->Nat->Rat} {rows:List (List C6)} (h:grown n m n 0 f rows) (g:∀i j,i<n->j<m->qs K1 (f i j)):∀l∈rows,nK K1 l/\(l.length:Int)=(m:Int):=λl d=>by
 obtain⟨o,a,rfl⟩:=T8 [] d;rw[h.1]at a;rw[A0p h a];refine⟨λx k=>?_,by simp⟩;obtain⟨c,b,rfl⟩:=sV.1 k;exact g o c a (xM.1 b)
def B1d {n m:Nat} {f:Nat->Nat->Rat} {rows:List (List C6)} (h:grown n m n 0 f rows) {i j:Nat} (a:i<n) (b:j<m):rv ((rows.getD i []).getD j zr)=f i j:=by
 rw[A0p h a,qE,vH,wN b];exact H2 _
def B5k {m:J6} (i:Int) (a:0<=i) (b:i<m.1):gx [] (Ot m) i=dl m.2.1 (A4 (m.2.2.getD i.toNat [])):=by
 rw[O8 a (by rw[Vj];omega),B5j ω]
def EL {m:J6} {i:Int} (a:0<=i) (b:i<m.1):(gx [] (Ot m) i).length=m.2.1.toNat:=by rw[B5k i a b,QB]
def Fq {m:J6} {i j:Int} (a:0<=i) (b:i<m.1) (c:0<=j) (d:j<m.2.1):gx dQ (gx [] (Ot m) i) j=rc (el m i.toNat j.toNat):=by
 rw[B5k i a b,O8 c (by rw[QB];omega),lF _ ω];rfl
def fT:sq Tt dJ:=λx Y a6=>by
 obtain⟨⟨R,C,D⟩,⟨R',C',D'⟩,_⟩:=x;have P:Hc (R,C,D):=R4 Y.1.2.2.2;have Q:Hc (R',C',D'):=R4 Y.2.1.2.2.2;change Int at R C R' C';change List (List C8)at D D';obtain⟨A,g,u,G,H,ao,a3⟩:∃A g:Nat,1<=A/\J1 A (R,C,D)/\J1 A (R',C',D')/\C<=(g:Int)/\(A+A+1)*(g+1)<=K1:=a6;have ap:K1=549755813888:=rfl;have an:A+A+1<=K1:=qY (g2h _ (Nat.succ_pos g)) a3;have V:=A1v G (ω:A<=K1);have W:=A1v H (ω:A<=K1);simp only[dJ,iB,N6,Gh,rT7,rT8];refine⟨V,?_⟩;rintro⟨a0,_⟩ _ f;simp only at f|-;refine⟨λ_=>W,?_⟩;rintro⟨aw,_⟩ B;simp only at B|-;rw[H7];by_cases c:A3 (R,C,D)
 case neg=>
  have f:a0=false:=by rw[f];exact qX c
  rw[f];exact⟨λ_=>⟨λ_=>⟨rfl,by trivial⟩,λh=>absurd h.1 c⟩,λh=>(by cases h)⟩
 have f:a0=true:=by rw[f];exact rB c
 have B:=(B (by rw[f];rfl)).2;rw[f,B];by_cases d:A3 (R',C',D')
 case neg=>
  rw[qX d];exact⟨λ_=>⟨λ_=>⟨rfl,by trivial⟩,λh=>absurd h.2 d⟩,λh=>(by cases h)⟩
 rw[rB d];refine⟨λh=>(by cases h),λ_=>⟨λh=>?_,λh=>?_⟩⟩
 . have h:=qA h;exact⟨λh=>absurd ⟨c,d⟩ h,λ_=>⟨λ_=>⟨rfl,by trivial⟩,λb=>absurd b h⟩⟩
 have h:=tA.1 (qB h);obtain⟨J,ae,a1,af,_,_⟩:=id c;obtain⟨ag,ah,M,a2,_,_⟩:=id d;simp only at J ae a1 af ag ah M a2;refine⟨⟨V,c⟩,?_⟩;rintro⟨e,_⟩ _ v;simp only at v|-;refine⟨⟨W,d⟩,?_⟩;rintro⟨E,_⟩ _ w;simp only at w|-;have aq:e.length=R.toNat:=by rw[v];exact Vj _
 have ar:E.length=R'.toNat:=by rw[w];exact Vj _
 refine⟨⟨J,qH _,ω,ω⟩,?_⟩
 let N:Nat->Nat->Rat:=λi j=>B8 C.toNat λk=>el (R,C,D) i k*el (R',C',D') k j
 have U:∀i k j,qs (A+A) (el (R,C,D) i k*el (R',C',D') k j):=λi k j=>Kv (Pf c P G u i k) (Pf d Q H u k j)
 have T:∀n,n<=g->∀i j,qs K1 (B8 n λk=>el (R,C,D) i k*el (R',C',D') k j):=λn hn i j=>G4 (C2r λk _=>U i k j) (by
  have ak:=rG (A+A+1) hn;have am:(A+A+1)*(g+1)=g*(A+A+1)+(A+A+1):=by rw[sZ,wF,sH]
  omega)
 refine⟨λp=>0<=p.1/\p.1<=R/\grown R.toNat C'.toNat p.1.toNat 0 N p.2.1,λp=>(R-p.1).toNat,⟨qH _,J,C6b⟩,?_⟩;rintro⟨(i:Int),rows,_⟩ _ ⟨r,a9,a⟩;change List (List C6)at rows;simp only at r a9 a|-;refine⟨λl=>?_,λl=>?_⟩
 . have l:=qA l;refine⟨λp=>0<=p.1/\p.1<=C'/\grown R.toNat C'.toNat i.toNat p.1.toNat N p.2.1,λp=>(C'-p.1).toNat,⟨qH _,M,a⟩,?_⟩;rintro⟨(j:Int),rows,_⟩ _ ⟨I,aa,a⟩;change List (List C6)at rows;simp only at I aa a|-;have y:=a.1;have O:=B1c a ω;refine⟨λb=>?_,λb=>?_⟩
   . have b:=qA b;refine⟨trivial,?_⟩;rintro⟨ay,_⟩ _ Z;simp only at Z|-;refine⟨λp=>0<=p.1/\p.1<=C/\((p.2.1,p.2.2.1),p.2.2.2.1)=rc (B8 p.1.toNat λk=>el (R,C,D) i.toNat k*el (R',C',D') k j.toNat),λp=>(C-p.1).toNat,⟨qH _,a1,by rw[Z];rfl⟩,?_⟩;rintro⟨(k:Int),ai,ax,aj,_⟩ _ ⟨s,ab,t⟩;simp only at s ab t|-;refine⟨λo=>?_,λo=>?_⟩
     . have o:=qA o;have au:(gx [] e i).length=C.toNat:=by rw[v];exact EL r l
       have a7:gx dQ (gx [] e i) k=rc (el (R,C,D) i.toNat k.toNat):=by rw[v];exact Fq r l s o
       have av:(gx [] E k).length=C'.toNat:=by rw[w];exact EL s (by show k<R';omega)
       have a8:gx dQ (gx [] E k) j=rc (el (R',C',D') k.toNat j.toNat):=by rw[w];exact Fq s (by show k<R';omega) I b
       rw[a7,a8];refine⟨⟨r,ω⟩,⟨s,ω⟩,⟨s,ω⟩,⟨I,ω⟩,⟨N8 (Pf c P G u _ _) ω,N8 (Pf d Q H u _ _) ω⟩,?_⟩;rintro⟨q,_⟩ _ z;simp only at z|-;rw[H2,H2]at z;refine⟨⟨by rw[t];exact N8 (T _ ω _ _) δ,by rw[z];exact N8 (U _ _ _) ω⟩,?_⟩;rintro⟨ad,_⟩ _ X;simp only at X|-;rw[wv ω];refine⟨⟨ω,ω,?_⟩,ω⟩;show ad= _;rw[X,t,z,H2,H2,(ω:(k+1).toNat=k.toNat+1),B8]
     have o:=qB o;rw[(ω:k.toNat=C.toNat)]at t;rw[wv ω];refine⟨⟨r,ω⟩,⟨by rw[O,rC];omega,by rw[O,rC];omega⟩,⟨r,ω⟩,by trivial,⟨ω,ω,?_⟩,ω⟩;rw[(ω:(j+1).toNat=j.toNat+1)];exact A5h a ω t
   have b:=qB b;rw[wv ω,(ω:(i+1).toNat=i.toNat+1)];rw[(ω:j.toNat=C'.toNat)]at a;exact⟨⟨ω,ω,A5g a⟩,ω⟩
 have l:=qB l;rw[(ω:i.toNat=R.toNat)]at a;have y:=a.1;refine⟨⟨λac y=>?_,M,a2,ω⟩,?_⟩
 . have:=A5f a (λi j _ _=>T _ ω i j) ac y;exact⟨this.1,ω⟩
 rintro⟨m,_⟩ _ F;simp only at F|-;rw[y]at F;exact⟨λh=>absurd ⟨c,d⟩ h,λ_=>⟨λb=>absurd h b,λ_=>⟨ER F λi j a4 a5=>B1d a a4 a5,by trivial⟩⟩⟩
def oL:An:= {}
def oM:An:= {}
def KZ:An:= {plan:= [(1,[3,7],[],true, .done),(4,[3,7,10],[],true, .done)]}
def PF:An:= {}
def FN:An:= {join:= [(12,⟨[0,1,2,6,7,8,9,10,11],[1,2,3],[],[(0,59,[.val qh, .val qb]),(4,46,[.val .bool, .val qa, .val qa])],[]⟩)],loop:= [(7,⟨[0,1,2,6,7,8],[1,2],[(9,false,[.own tQ 46]),(10,false,vI)],[(0,59,[.val qh, .val qb])],[]⟩),(3,⟨[0,1,2,6],[1],[(7,false,[.own qj 28]),(8,false,vI)],[(0,59,[.val qh, .val qb])],[]⟩)]}
def TR(x:Cw):Prop:=let b:=(u64.wrap x.2.1);let a:=(u64.wrap x.1);u64.wrap x.2.1≠0/\(0<x.2.1->(0:Int)<=i64.wrap (a.tmod b)/\i64.wrap (a.tmod b)<x.2.1/\i64.wrap (a.tmod b)=a.tmod x.2.1)
def A3i(x:Rj):Prop:=(x.1,(0:Int))=(x.1,(0:Int))
def Py(x:(Wf×Int)×Int×Unit):Prop:=let e:=(1:Int);let d:=(↑x.1.1.length:Int);let c:=(x.1.1.length:Int);let b:=(0:Int);let a:=(i64.wrap (x.1.2+e)-e);(iB (decide (c<=x.1.2)) ((b<=b/\b<x.2.1)/\x.1.1=x.1.1/\b<=x.1.2/\x.1.2<=d) ((b<=i64.wrap a/\i64.wrap a<c)/\b<x.2.1/\Ci λr=>(b<x.2.1->b<=r.1/\r.1<x.2.1/\r.1=(u64.wrap (gx b x.1.1 (i64.wrap a))).tmod x.2.1)->(b<=r.1/\r.1<x.2.1)/\x.1.1=x.1.1/\b<=i64.wrap (x.1.2+e)/\i64.wrap (x.1.2+e)<=d))
abbrev nP:=(Wf×Int)×Unit
def Uf(x:nP):Prop:=let b:=(x.1.1.length:Int);let a:=(0:Int);(a<(13:Int)/\a<=x.1.2/\x.1.2<=b)/\∀(r:D3) (o:nP),let c:=(o.1.1.length:Int);R8 r.1/\True->((Ty.int i64).sl.pair (Ty.int i64)).wf o.1/\True->a<=r.1/\r.1<13->o.1.1=x.1.1/\a<=o.1.2/\o.1.2<=b->(a<(4:Int)/\a<=o.1.2/\o.1.2<=c)/\∀(e:D3) (d:nP),R8 e.1/\True->((Ty.int i64).sl.pair (Ty.int i64)).wf d.1/\True->a<=e.1/\e.1<4->d.1.1=o.1.1/\a<=d.1.2/\d.1.2<=c->True/\N6 λf=>f.1=rc (Rat.divInt (i64.wrap (r.1-6)) (i64.wrap (1+e.1)))->lO f.1/\d.1.1=x.1.1/\a<=d.1.2/\d.1.2<=(↑x.1.1.length:Int)
abbrev D0m:=List (List QQ)×Int×Wf×Int×Unit
abbrev D0s:=Wf×Int×Bool×Wf×Wf×Unit
abbrev D1c:=List QQ×Int×Wf×Int×Unit
def Lb(x:(Wf×Int)×Int×Int×Unit):Prop:=let g:=(140737488355328:Nat);let c:=(0:Int);∃(I:D0m->Prop),∃(h: _->Nat),I ([],c,x.1.1,x.1.2,())/\∀(p:D0m),tQ.sl.sl.wf p.1/\(Ty.int i64).wf p.2.1/\(Ty.int i64).sl.wf p.2.2.1/\(Ty.int i64).wf p.2.2.2.1/\True->I p->(iB (decide (p.2.1<x.2.1)) (∃(I_1:D1c->Prop),∃(i: _->Nat),I_1 ([],c,p.2.2.1,p.2.2.2.1,())/\∀(k:D1c),let a:Prop:=(k.2.1<x.2.2.1);let e:=(k.2.2.1.length:Int);let b:=(p.1++ [k.1],i64.wrap (p.2.1+1),k.2.2.1,k.2.2.2.1,());tQ.sl.wf k.1/\(Ty.int i64).wf k.2.1/\(Ty.int i64).sl.wf k.2.2.1/\(Ty.int i64).wf k.2.2.2.1/\True->I_1 k->(iB (decide a) (True/\N6 λr=>r.1=rc (0:Rat)->∃(J:D0s->Prop),((c<(3:Int)/\c<=k.2.2.2.1/\k.2.2.2.1<=e)/\∀(n:D3) (o:nP),let f:=(o.1.1.length:Int);R8 n.1/\True->((Ty.int i64).sl.pair (Ty.int i64)).wf o.1/\True->c<=n.1/\n.1<3->o.1.1=k.2.2.1/\c<=o.1.2/\o.1.2<=e->(iB (decide (c<n.1)) ((c<=o.1.2/\o.1.2<=f)/\∀(r:D1) (m:nP),OZ r.1/\True->((Ty.int i64).sl.pair (Ty.int i64)).wf m.1/\True->lO r.1->m.1.1=o.1.1/\c<=m.1.2/\m.1.2<=f->J (m.1.1,m.1.2,r.1.1.1,r.1.1.2,r.1.2,())) (J (o.1.1,o.1.2,r.1.1.1,r.1.1.2,r.1.2,()))))/\∀(p:D0s),let a:=((p.2.2.1,p.2.2.2.1),p.2.2.2.2.1);let d:=(k.1++ [a],i64.wrap (k.2.1+1),p.1,p.2.1,());(Ty.int i64).sl.wf p.1/\(Ty.int i64).wf p.2.1/\Ty.bool.wf p.2.2.1/\(Ty.int u32).sl.wf p.2.2.2.1/\(Ty.int u32).sl.wf p.2.2.2.2.1/\True->J p->((k.1.length+ [a].length)*(56:Nat)<=g/\k.1.length+ [a].length<=9223372036854775807)/\I_1 d/\i d<i k) (((p.1.length+ [k.1].length)*(24:Nat)<=g/\p.1.length+ [k.1].length<=9223372036854775807)/\I b/\h b<h p))) (((∀(l:List QQ),l∈p.1->nK K1 l/\(↑l.length:Int)=x.2.2.1)/\c<=x.2.2.1/\x.2.2.1<=16384/\p.1.length<=(16384:Nat))/\rT8 λr=>Lq p.1.length x.2.2.1.toNat (fun(i j:Nat)=>rv ((p.1.getD i []).getD j zr)) r.1->C6a x.2.1.toNat x.2.2.1.toNat r.1/\p.2.2.1=x.1.1/\c<=p.2.2.2.1/\p.2.2.2.1<=(↑x.1.1.length:Int)))
def cA (x:A5 Jc.args) (_:awf Jc.args x) (_:Jc.pre x):A3i x:=rfl
def CM:sq V2 Py:=λx f d=>by
 obtain⟨⟨l,i⟩,n,_⟩:=x;have k:l.length<=9223372036854775807:=f.1.1.1;change Int at i n;change Wf at l;obtain⟨b,g,j⟩:0<n/\0<=i/\i<=(l.length:Int):=d;simp only[Py,iB,Ci];refine⟨λh=>⟨⟨ω,b⟩,by trivial,g,j⟩,λh=>?_⟩;have h:=qB h;rw[wv (a:=i+1) ω,wv (a:=i+1-1) ω];refine⟨⟨ω,ω⟩,b,?_⟩;rintro⟨r,_⟩ _ c;exact⟨⟨(c b).1,(c b).2.1⟩,by trivial,ω,ω⟩
def bZ:sq Nc TR:=λx j i=>by
 obtain⟨(a:Int),(b:Int),_⟩:=x;have h:0<b:=i;have c:GZ .i64 b:=j.2.1;unfold GZ at c;rw[(δ:i64.min= -9223372036854775808),(δ:i64.max=9223372036854775807)]at c;simp only[TR];have e:u64.wrap b=b:=by simp[IntKind.wrap,IntKind.bits,IntKind.signed];omega
 have d:0<=u64.wrap a:=by simp[IntKind.wrap,IntKind.bits,IntKind.signed];omega
 rw[e];have f:0<=(u64.wrap a).tmod b:=zO _ d;have g:(u64.wrap a).tmod b<b:=Int.tmod_lt_of_pos _ h;rw[wv ω];exact⟨ω,λ_=>⟨f,g,rfl⟩⟩
def A0n {a b:Int} (d:a.natAbs<4294967296) (c:0<b) (f:b.natAbs<4294967296):lO (rc (Rat.divInt a b)):=by
 refine⟨_,?_,rfl⟩;rw[YC c];exact NA ω (Ep (by simpa using d)) (Ep (by simpa using f))
def GM:sq Bv Uf:=λx v k=>by
 obtain⟨⟨(l:Wf),(i:Int)⟩,_⟩:=x;obtain⟨t,u⟩:0<=i/\i<=(l.length:Int):=k;simp only[Uf,N6];refine⟨⟨ω,t,u⟩,?_⟩;rintro⟨(f:Int),_⟩ ⟨⟨(r:Wf),(n:Int)⟩,_⟩ _ _ h a;simp only at h a|-;obtain⟨rfl,b,c⟩:=a;refine⟨⟨ω,b,c⟩,?_⟩;rintro⟨(g:Int),_⟩ ⟨⟨(s:Wf),(o:Int)⟩,_⟩ _ _ j a;simp only at j a|-;obtain⟨rfl,b,c⟩:=a;refine⟨trivial,?_⟩;rintro⟨q,_⟩ _ d;simp only at d|-;rw[wv ω,wv ω]at d;exact⟨by rw[d];exact A0n ω ω ω,by trivial,b,c⟩
def C0z {x:C6} (h:lO x):qs 1 (rv x):=by
 obtain⟨q,a,rfl⟩:=h;rw[H2];exact a
def C1a {x:C6} (h:lO x) {k:Nat} (a:1<=k):sz k x:=by
 obtain⟨q,b,rfl⟩:=h;exact⟨qY b.1 a,qY b.2 a⟩
def Ww:sq Q8 Lb:=λx aa Y=>by
 obtain⟨⟨(l:Wf),(t:Int)⟩,(R:Int),(C:Int),_⟩:=x;obtain⟨a7,ab,B,c1,a5,a6⟩:0<=R/\R<=20/\0<=C/\C<=20/\0<=t/\t<=(l.length:Int):=Y;simp only[Lb,iB,N6,rT8];refine⟨λp=>0<=p.2.1/\p.2.1<=R/\(p.1.length:Int)=p.2.1/\(∀v∈p.1,(v.length:Int)=C/\∀e∈v,lO e)/\p.2.2.1=l/\0<=p.2.2.2.1/\p.2.2.2.1<=(l.length:Int),λp=>(R-p.2.1).toNat,⟨qH _,a7,rfl,λe a=>(by cases a),rfl,a5,a6⟩,?_⟩;rintro⟨o,(a3:Int),(w:Wf),(Z:Int),_⟩ _ ⟨U,V,W,f,G,n,r⟩;change List (List C6)at o;simp only at U V W f G n r|-;subst G;refine⟨λh=>?_,λh=>?_⟩
 . have h:=qA h;refine⟨λp=>0<=p.2.1/\p.2.1<=C/\(p.1.length:Int)=p.2.1/\(∀e∈p.1,lO e)/\p.2.2.1=w/\0<=p.2.2.2.1/\p.2.2.2.1<=(w.length:Int),λp=>(C-p.2.1).toNat,⟨qH _,B,rfl,λe a=>(by cases a),rfl,n,r⟩,?_⟩;rintro⟨(a8:List C6),(a2:Int),(y:Wf),(a0:Int),_⟩ _ ⟨P,Q,T,i,F,j,k⟩;simp only at P Q T i F j k|-;subst F;refine⟨λh=>?_,λh=>?_⟩
   . have h:=qA h;refine⟨trivial,?_⟩;rintro⟨ac,_⟩ _ M;simp only at M|-;refine⟨λp=>p.1=y/\0<=p.2.1/\p.2.1<=(y.length:Int)/\lO ((p.2.2.1,p.2.2.2.1),p.2.2.2.2.1),⟨⟨ω,j,k⟩,?_⟩,?_⟩
     . rintro⟨(b:Int),_⟩ ⟨⟨(z:Wf),(u:Int)⟩,_⟩ _ _ s g;simp only at s g|-;obtain⟨rfl,c,d⟩:=g;refine⟨λ_=>⟨⟨c,d⟩,?_⟩,λ_=>?_⟩
       . rintro⟨q,_⟩ ⟨⟨(a4:Wf),(a1:Int)⟩,_⟩ _ _ I g;simp only at I g|-;obtain⟨rfl,N,O⟩:=g;exact⟨by trivial,N,O,I⟩
       exact⟨by trivial,c,d,⟨0,M0 δ,M⟩⟩
     rintro⟨(z:Wf),(u:Int),A,m,a9,_⟩ _ ⟨c,d,D,E⟩;simp only at c d D E|-;subst c;rw[wv ω];refine⟨⟨by rw[rC];omega,by rw[rC];omega⟩,⟨ω,ω,by rw[rS,rC];omega,λe a=>?_,by trivial,d,D⟩,ω⟩;rcases qZ.1 a with a|a
     . exact i e a
     rw[qO.1 a];exact E
   have h:=qB h;rw[wv ω];refine⟨⟨by rw[rC];omega,by rw[rC];omega⟩,⟨ω,ω,by rw[rS,rC];omega,λe a=>?_,by trivial,j,k⟩,ω⟩;rcases qZ.1 a with a|a
   . exact f e a
   rw[qO.1 a];exact⟨ω,i⟩
 have h:=qB h;refine⟨⟨λv J=>⟨λe a=>C1a ((f v J).2 e a) δ,(f v J).1⟩,B,ω,ω⟩,?_⟩;rintro⟨m,_⟩ _ H;simp only at H|-;refine⟨⟨_,λb A=>?_,by rw[(ω:R.toNat=o.length)];exact H⟩,by trivial,n,r⟩;by_cases s:b<o.length
 . by_cases X:A<(o.getD b []).length
   . exact C0z ((f _ (D4 s)).2 _ (D4 X))
   rw[qE (l:=o.getD b []),rW ω];exact M0 δ
 rw[qE (l:=o),rW ω];exact M0 δ
def Dw:An:= {}
def En:An:= {loop:= [(4,⟨[0,1,2,3,8],[],[(9,false,vI)],[],[(0, .row tE 75)]⟩),(1,⟨[0,1,2,3],[],[(8,false,vI)],[],[(0, .row tE 75)]⟩)],plan:= [(4,[8,13],[],false, .done),(6,[9,13],[15,17],true, .done)]}
def Jo:An:= {join:= [(16,⟨[0,1,2,6],[],[],[],[(0, .row tE 75)]⟩)],loop:= [(2,⟨[0,1,2,6],[],[(7,false,vI),(8,false,vI)],[],[(0, .row tE 75)]⟩),(9,⟨[0,1,2,6],[],[(7,false,vI),(8,false,vI)],[],[(0, .row tE 75)]⟩),(7,⟨[0,1,2],[],[(6,false,vI)],[],[(0, .row tE 75)]⟩)]}
def LN:An:= {}
def LM:An:= {join:= [(14,⟨[3,18,19,20],[],[(4,false,vI)],[],[(0, .row tE 75)]⟩)],loop:= [(8,⟨[3,18,19],[],[(4,false,vI),(20,false,vI)],[],[(0, .row tE 75)]⟩)],plan:= [(10,[8,10],[],true, .done),(11,[8,10],[14],true, .done)]}
def T1(x:List EE×((EE×EE×Unit->Prop)×(EE×EE×Unit->Int))×Unit):Prop:=let a:=(x.1.length:Int);Go.Proofs.Tryz.prog=Go.Proofs.Tryz.prog/\false=false/\((AZ x.2.1.1 fun(z:VN)=>x.2.1.2 z)/\a=a/\List.length x.1<=20)/\∀(r:Unit) (o:Nw),True->tE.sl.wf o.1/\True->True->o.1.Perm x.1/\Yz (fun(z:VN)=>x.2.1.2 z) o.1->True/\o.1.Perm x.1/\Yz x.2.1.2 o.1
def U5(x:List EE×Int×Int×((EE×EE×Unit->Prop)×(EE×EE×Unit->Int))×Unit):Prop:=let m:=(0:Int);let i:=(1:Int);∃(I:NN->Prop),∃(a: _->Nat),I (i64.wrap (x.2.1+i),x.1,())/\∀(p:NN),(Ty.int i64).wf p.1/\FH p.2.1/\True->I p->(iB (decide (p.1<x.2.2.1)) (∃(I_1:NN->Prop),∃(o: _->Nat),I_1 (p.1,p.2.1,())/\∀(n:NN),let l:=(n.2.1.length:Int);let k:=n.1.toNat;let j:=(i64.wrap (p.1+i),n.2.1,());let g:Prop:=(x.2.1<n.1);let d:=(i64.wrap (n.1-i));let h:=(List.set n.2.1 k (List.getD n.2.1 d.toNat D7));let f:=(List.getD n.2.1 k D7,List.getD n.2.1 d.toNat D7,());let e:=(i64.wrap (n.1-i),h.set d.toNat (List.getD n.2.1 k D7),());let c:Prop:=(m<=i64.wrap (n.1-i)/\i64.wrap (n.1-i)<l);let b:Prop:=(m<=n.1/\n.1<l);let d:Prop:=(x.2.2.2.1.2 f<m);(Ty.int i64).wf n.1/\FH n.2.1/\True->I_1 n->(decide g=true->b)/\(decide g=true->c)/\Go.Proofs.Tryz.prog=Go.Proofs.Tryz.prog/\(decide g=true->x.2.2.2.1.1 f)/\((decide g=true->(Ty.int i64).wf (x.2.2.2.1.2 f))->(iB (F5 (decide g) (decide d) false) (c/\b/\b/\(m<=i64.wrap (n.1-i)/\i64.wrap (n.1-i)<(↑h.length:Int))/\I_1 e/\o e<o n) (I j/\a j<a p)))) (True/\List.Perm p.2.1 x.1/\List.take x.2.1.toNat p.2.1=List.take x.2.1.toNat x.1/\List.drop x.2.2.1.toNat p.2.1=List.drop x.2.2.1.toNat x.1/\Yz x.2.2.2.1.2 (List.take (x.2.2.1.toNat-x.2.1.toNat) (List.drop x.2.1.toNat p.2.1))))
abbrev B3a:=Int×Int×List EE×Unit
def Be(x:List EE×Int×((EE×EE×Unit->Prop)×(EE×EE×Unit->Int))×Unit):Prop:=let h:=(0:Int);∃(I:B3a->Prop),∃(a: _->Nat),I (h,(20:Int),x.1,())/\∀(p:B3a),let g:=(p.2.2.1.length:Int);let d:=p.1.toNat;let b:Prop:=(List.length p.2.2.1<=100000);(Ty.int i64).wf p.1/\(Ty.int i64).wf p.2.1/\FH p.2.2.1/\True->I p->(iB (decide (p.2.1<=x.2.1)) (Go.Proofs.Tryz.prog=Go.Proofs.Tryz.prog/\false=false/\((AZ x.2.2.1.1 fun(z:VN)=>x.2.2.1.2 z)/\h<=p.1/\p.1<=p.2.1/\p.2.1<=g/\b)/\∀(r:Unit) (o:Nw),let e:=(p.2.1,i64.wrap (p.2.1+20),o);True->tE.sl.wf o.1/\True->True->o.1.Perm p.2.2.1/\List.take d o.1=List.take d p.2.2.1/\List.drop p.2.1.toNat o.1=List.drop p.2.1.toNat p.2.2.1/\Yz (fun(z:VN)=>x.2.2.1.2 z) (List.take (Int.toNat p.2.1-Int.toNat p.1) (List.drop d o.1))->I e/\a e<a p) (Go.Proofs.Tryz.prog=Go.Proofs.Tryz.prog/\false=false/\((AZ x.2.2.1.1 fun(z:VN)=>x.2.2.1.2 z)/\h<=p.1/\p.1<=x.2.1/\x.2.1<=g/\b)/\∀(r:Unit) (o:Nw),True->tE.sl.wf o.1/\True->True->o.1.Perm p.2.2.1/\List.take d o.1=List.take d p.2.2.1/\List.drop x.2.1.toNat o.1=List.drop x.2.1.toNat p.2.2.1/\Yz (fun(z:VN)=>x.2.2.1.2 z) (List.take (Int.toNat x.2.1-Int.toNat p.1) (List.drop d o.1))->∃(I:NN->Prop),∃(a: _->Nat),I ((20:Int),o)/\∀(p:NN),(Ty.int i64).wf p.1/\FH p.2.1/\True->I p->(iB (decide (p.1<x.2.1)) (∃(I_1:B3a->Prop),∃(b: _->Nat),I_1 (h,i64.wrap (2*p.1),p.2.1,())/\∀(i:B3a),let f:Prop:=(i64.wrap (i.1+p.1)<x.2.1);(Ty.int i64).wf i.1/\(Ty.int i64).wf i.2.1/\FH i.2.2.1/\True->I_1 i->(iB (decide (i.2.1<=x.2.1)) (Go.Proofs.Tryz.prog=Go.Proofs.Tryz.prog/\false=false/\False/\∀(r:Unit) (o:Nw),let c:=(i.2.1,i64.wrap (i.2.1+i64.wrap (2*p.1)),o);True->tE.sl.wf o.1/\True->True->True->I_1 c/\b c<b i) (∃(J:Nw->Prop),((iB (decide f) (Go.Proofs.Tryz.prog=Go.Proofs.Tryz.prog/\false=false/\False/\∀(r:Unit) (o:Nw),True->tE.sl.wf o.1/\True->True->True->J o) (J (i.2.2.1,()))))/\aY λj=>let f:=(i64.wrap (p.1*2),j);J j->I f/\a f<a p))) (True/\List.Perm p.2.1 x.1/\Yz x.2.2.1.2 p.2.1))))
def Qk(x:VN):Prop:=True/\Ci λr=>r.1=N4 x.1.1 x.2.1.1->r.1=N4 x.1.1 x.2.1.1
def Qj(x:Nw):Prop:=let m:=(1:Int);let g:=(0:Int);let l:=g.toNat;let e:=(x.1.length:Int);True/\Gh λr=>r.1=decide (asc x.1)->(iB r.1 ((asc x.1->x.1=x.1)/\(¬asc x.1->asc x.1/\(∀(j:Int),A4 x.1 j=A4 x.1 j)/\List.length x.1<=20/\Zr (16777216:Nat) x.1)) ((g<=e/\e<=e/\(↑(64:Nat):Int)*e<=(281474976710656:Int)/\e<=(9223372036854775807:Int))/\∃(b:VN->Prop),∃(a:VN->Int),(∀(y:VN),tE.wf y.1/\tE.wf y.2.1/\True->b y->True/\Ci λz=>z.1=N4 y.1.1 y.2.1.1->false=false/\z.1=a y)/\(AZ b a/\(Mg (List.replicate e.toNat D7) x.1).length<=(20:Nat))/\∀(s:Unit) (o:Nw),True->tE.sl.wf o.1/\True->True->o.1.Perm (Mg (List.replicate e.toNat D7) x.1)/\Yz a o.1->∃(I:B3a->Prop),∃(c: _->Nat),I (g,g,o)/\∀(p:B3a),let n:=(i64.wrap (p.1-m));let i:=p.1.toNat;let h:=(p.2.2.1.length:Int);let f:=(List.getD p.2.2.1 p.2.1.toNat D7);let d:=(List.getD p.2.2.1 n.toNat D7);let k:Prop:=(p.2.1<(↑o.1.length:Int));let b:Prop:=(d.1=f.1);let a:Prop:=(g<=i64.wrap (p.1-m)/\i64.wrap (p.1-m)<h);(Ty.int i64).wf p.1/\(Ty.int i64).wf p.2.1/\FH p.2.2.1/\True->I p->(iB (decide k) (∃(J:NN->Prop),((g<=p.2.1/\p.2.1<h)/\(decide (g<p.1)=true->a)/\(iB (F5 (decide (g<p.1)) (decide b) false) (a/\(H3 d.2/\H3 f.2)/\N6 λr=>r.1=rc (rv d.2+rv f.2)->a/\J (p.1,List.set p.2.2.1 n.toNat (d.1,r.1),())) ((g<=p.1/\p.1<h)/\J (i64.wrap (p.1+m),List.set p.2.2.1 i f,()))))/\∀(q:NN),let k:=(q.1,i64.wrap (p.2.1+m),q.2.1,());(Ty.int i64).wf q.1/\FH q.2.1/\True->J q->I k/\c k<c p) ((g<=g/\g<=p.1/\p.1<=h)/\(asc x.1->List.drop l (List.take i p.2.2.1)=x.1)/\(¬asc x.1->asc (List.drop l (List.take i p.2.2.1))/\(∀(j:Int),A4 (List.drop l (List.take i p.2.2.1)) j=A4 x.1 j)/\(List.drop l (List.take i p.2.2.1)).length<=(20:Nat)/\Zr (16777216:Nat) (List.drop l (List.take i p.2.2.1)))))))
def YB {a b:List C8} (h:a.Perm b) (j:Int):A4 a j=A4 b j:=by
 induction h with
 |nil=>rfl
 |cons e _ c=>rw[A4,A4,c]
 |swap e f l=>simp only[A4];rw[<-xZ, <-xZ,yK (if f.1=j then rv f.2 else 0)]
 |trans _ _ c d=>rw[c,d]
def YA (e:C8) (j:Int):A4 [e] j=if e.1=j then rv e.2 else 0:=by
 simp only[A4,rK]
structure OX (o:List C8) (n i:Int) (c:List C8):Prop where
 n0:0<=n
 ni:n<=i
 il:i<=(o.length:Int)
 cl:c.length=o.length
 rest:∀j:Nat,i.toNat<=j->c.getD j D7=o.getD j D7
 ord:asc (c.take n.toNat)
 cm:∀j,A4 (c.take n.toNat) j=A4 (o.take i.toNat) j
 le:∀e∈c.take n.toNat,∃y∈o.take i.toNat,y.1=e.1
 szs:∀e∈c.take n.toNat,sz (65537*i.toNat) e.2/\Sf e.2
def OX.init (o:List C8):OX o 0 0 o:=⟨qH _,qH _,qF _,rfl,λ_ _=>rfl,List.Pairwise.nil,λ_=>rfl,λe a=>(by cases a),λe a=>(by cases a)⟩
def HI {α:Type} {l:List α} {k:Nat} {x:α} (h:k<l.length):(l.set k x).take (k+1)=l.take k++ [x]:=by
 rw[rP,zG (qT k),sL h];rfl
def Wt {α:Type} {l:List α} {k:Nat} (d:α) (h:k<l.length):l.take (k+1)=l.take k++ [l.getD k d]:=by
 rw[rP,qQ h,H1 _ _ h];rfl
variable {o c:List C8} {n i:Int}
def OX.bound (h:OX o n i c) (j:o.Pairwise λa b=>a.1<=b.1) (r:i<(o.length:Int)):∀e∈c.take n.toNat,e.1<=(o.getD i.toNat D7).1:=λe f=>by
 obtain⟨y,k,d⟩:=h.le e f;obtain⟨l,g,rfl⟩:=vJ.1 k;rw[rA]at g;rw[g1u]at d;have s:=h.n0;have t:=h.ni;have:=tC.1 j l i.toNat ω ω ω;rw[H1 _ _ (ω:i.toNat<o.length), <-d];exact this
def OX.push (h:OX o n i c) (B:o.Pairwise λa b=>a.1<=b.1) (F:Zr 65536 o) (x:AT o) (v:i<(o.length:Int)) (l:0<n->(c.getD (n-1).toNat D7).1≠(o.getD i.toNat D7).1):OX o (n+1) (i+1) (c.set n.toNat (o.getD i.toNat D7)):=by
 have z:=h.n0;have M:=h.ni;have u:=h.cl;have j:=h.bound B v;have f:(c.set n.toNat (o.getD i.toNat D7)).take (n+1).toNat=c.take n.toNat++ [o.getD i.toNat D7]:=by
  rw[(ω:(n+1).toNat=n.toNat+1)];exact HI ω
 have r:o.take (i+1).toNat=o.take i.toNat++ [o.getD i.toNat D7]:=by
  rw[(ω:(i+1).toNat=i.toNat+1)];exact Wt D7 ω
 have y:∀e∈c.take n.toNat,e.1<(o.getD i.toNat D7).1:=λe d=>by
  have H:=j e d;have A:0<n:=by
   rcases g4m z with g|g
   . exact g
   rw[<-g]at d;cases d
  have w:(n-1).toNat<c.length:=ω
  have s:c.take n.toNat=c.take (n-1).toNat++ [c.getD (n-1).toNat D7]:=by
   rw[(ω:n.toNat=(n-1).toNat+1)];exact Wt D7 w
  have J:=j (c.getD (n-1).toNat D7) (by rw[s];simp);have l:=l A;have has:=h.ord;rw[s]at d has;rcases qZ.1 d with d|d
  . have:=(tG.1 has).2.2 e d _ (qO.2 rfl);omega
  rw[qO]at d;subst d;omega
 have k:o.getD i.toNat D7∈o:=D4 ω;refine⟨ω,ω,ω,by rw[qP];exact u,λt I=>?_,?_,λt=>?_,λe d=>?_,λe d=>?_⟩
 . rw[qE,sX ω, <-qE];exact h.rest t ω
 . rw[f];exact pC h.ord y
 . rw[f,r,R9,R9,h.cm]
 . rw[f]at d;rw[r];rcases qZ.1 d with d|d
   . obtain⟨G,D,E⟩:=h.le e d;exact⟨G,sJ _ D,E⟩
   rw[qO]at d;subst d;exact⟨_,tN _ (qO.2 rfl),rfl⟩
 rw[f]at d;rcases qZ.1 d with d|d
 . exact⟨G5 (h.szs e d).1 ω,(h.szs e d).2⟩
 rw[qO]at d;subst d;exact⟨G5 (F _ k) ω,x _ k⟩
def OX.add (h:OX o n i c) (N:Zr 65536 o) (F:AT o) (V:i<(o.length:Int)) (Y:0<n) (l:(c.getD (n-1).toNat D7).1=(o.getD i.toNat D7).1):sz (65537*i.toNat) (c.getD (n-1).toNat D7).2/\sz 65536 (o.getD i.toNat D7).2/\OX o n (i+1) (c.set (n-1).toNat ((c.getD (n-1).toNat D7).1,rc (rv (c.getD (n-1).toNat D7).2+rv (o.getD i.toNat D7).2))):=by
 have Z:=h.ni;have E:=h.cl;have r:(n-1).toNat<c.length:=ω
 have v:c.take n.toNat=c.take (n-1).toNat++ [c.getD (n-1).toNat D7]:=by
  rw[(ω:n.toNat=(n-1).toNat+1)];exact Wt D7 r
 have u:o.take (i+1).toNat=o.take i.toNat++ [o.getD i.toNat D7]:=by
  rw[(ω:(i+1).toNat=i.toNat+1)];exact Wt D7 ω
 have G:c.getD (n-1).toNat D7∈c.take n.toNat:=by rw[v];simp
 have t:o.getD i.toNat D7∈o:=D4 ω;obtain⟨z,R⟩:=h.szs _ G;have A:=N _ t;have T:=F _ t;refine⟨z,A,?_⟩;have has:=h.ord;have k:=h.cm;have s:=h.le;have f:=h.szs;rw[v]at has k s f;have I:=h.rest;generalize X:c.getD (n-1).toNat D7=y at*;generalize o.getD i.toNat D7=g at*;have d:∀x:C8,(c.set (n-1).toNat x).take n.toNat=c.take (n-1).toNat++ [x]:=λx=>by
  rw[(ω:n.toNat=(n-1).toNat+1)];exact HI r
 obtain⟨O,a0,P⟩:=tG.1 has;have H:qs (65537*(i+1).toNat) (rv y.2+rv g.2):=by
  have a:1<=i.toNat:=ω
  exact G4 (BG (Jw R z ω) (Jw T A δ)) ω
 refine⟨h.n0,ω,ω,by rw[qP];exact E,λw W=>?_,?_,λw=>?_,λe b=>?_,λe b=>?_⟩
 . rw[qE,sX ω, <-qE];exact I w ω
 . rw[d];exact tG.2 ⟨O,wZ _ _,λB D U j=>by rw[qO]at j;subst j;exact P B D y (qO.2 rfl)⟩
 . rw[d,u,R9,R9, <-k,R9,YA,YA,YA];simp only;rw[H2,l,xZ];congr 1;split
   . rfl
   rw[rK]
 . rw[d]at b;rw[u];rcases qZ.1 b with a|a
   . obtain⟨Q,J,M⟩:=s e (sJ _ a);exact⟨Q,sJ _ J,M⟩
   rw[qO]at a;subst a;exact⟨g,tN _ (qO.2 rfl),l.symm⟩
 rw[d]at b;rcases qZ.1 b with a|a
 . exact⟨G5 (f e (sJ _ a)).1 ω,(f e (sJ _ a)).2⟩
 rw[qO]at a;subst a;exact⟨Tx H,A8r _⟩
def DU:sq Az Qk:=λx a _=>by
 simp only[Qk,Ci];exact⟨trivial,λr _ h=>h⟩
def Cy:sq G1 U5:=λx a0 O=>by
 obtain⟨l,a,b,⟨R,g⟩,_⟩:=x;change List (Int×(Bool×Wf)×Wf)at l;change Int at a b;obtain⟨⟨N,Q,has⟩,U,V,W,Y⟩:AZ R g/\0<=a/\a<=b/\b<=(l.length:Int)/\l.length<=100000:=O;simp only[U5,iB];have P:∀x y z:C8,¬g (y,x,())<0->¬g (z,y,())<0->¬g (z,x,())<0:=λx y z v f=>Q z y x f v
 refine⟨λp=>a+1<=p.1/\(p.1<=b\/p.1=a+1)/\p.2.1.Perm l/\p.2.1.take a.toNat=l.take a.toNat/\p.2.1.drop b.toNat=l.drop b.toNat/\(∀s t,a.toNat<=s->s<t->t<p.1.toNat->t<b.toNat->¬g (p.2.1.getD t D7,p.2.1.getD s D7,())<0),λp=>(b-p.1).toNat,?_,?_⟩
 . rw[wv ω];refine⟨qH _, .inr rfl,wX _,rfl,rfl,λs t v f k w=>?_⟩;change t<(a+1).toNat at k;omega
 rintro⟨(i:Int),m,_⟩ _ ⟨M,v,f,k,w,E⟩;change List (Int×(Bool×Wf)×Wf)at m;simp only at M v f k w E|-;have Z:=f.length_eq;refine⟨λh=>?_,λh=>?_⟩
 . have h:=qA h;refine⟨λp=>a<=p.1/\p.1<=i/\p.2.1.Perm l/\p.2.1.take a.toNat=l.take a.toNat/\p.2.1.drop b.toNat=l.drop b.toNat/\B6m (λx y=>¬g (y,x,())<0) D7 p.2.1 a.toNat i.toNat p.1.toNat,λp=>(p.1-a).toNat,⟨by show a<=i;omega,qH _,f,k,w,A5m λs t n o r=>E s t n o r ω⟩,?_⟩;rintro⟨(j:Int),y,_⟩ _ ⟨I,J,u,A,B,D⟩;change List (Int×(Bool×Wf)×Wf)at y;simp only at I J u A B D|-;have a1:=u.length_eq;have H:i64.wrap (j-1)=j-1:=wv ω;rw[H];have G:(j-1).toNat=j.toNat-1:=ω
   rw[G];refine⟨λF=>⟨ω,ω⟩,λF=>?_,trivial,λ_=>N _ _,λ_=>⟨λc=>?_,λc=>?_⟩⟩
   . have F:=qA F;exact⟨ω,ω⟩
   . rw[J5]at c;simp only[qC,rR]at c;obtain⟨a3,T⟩:=c;refine⟨⟨ω,ω⟩,⟨ω,ω⟩,⟨ω,ω⟩,⟨ω,by rw[qP];omega⟩,⟨ω,ω,?_,?_,?_,?_⟩,ω⟩
     . exact(A7c (d:=D7) (l:=y) (j:=j.toNat) ω).trans u
     . exact(A7d (d:=D7) (l:=y) ω).trans A
     . exact(A7b (d:=D7) (l:=y) ω).trans B
     exact B1i D ω ω ω (has _ _ T)
   rw[J5]at c;simp only[wS,rM]at c;rw[wv ω];refine⟨⟨ω, .inl ω,u,A,B,λs t n o r a2=>?_⟩,ω⟩;refine B6n D P ω (λX=>?_) s t n o (by change t<(i+1).toNat at r;omega);rcases c with c|c
   . omega
   exact c
 have h:=qB h;refine⟨trivial,f,k,w,?_⟩;unfold Yz;have:=aU (q:=λx y=>¬g (y,x,())<0) (d:=D7) (l:=m) (a:=a.toNat) (b:=b.toNat) ω λs t n o r=>E s t n o ω r
 exact this
def Hy:sq I8 Be:=λx O j=>by
 obtain⟨l,n,⟨G,c⟩,_⟩:=x;change List (Int×(Bool×Wf)×Wf)at l;change Int at n;obtain⟨u,N,J⟩:AZ G c/\n=(l.length:Int)/\l.length<=20:=j;simp only[Be,iB,aY];refine⟨λp=>(p.1=0/\p.2.1=20/\p.2.2.1=l)\/(p.1=20/\p.2.1=40/\n=20/\p.2.2.1.Perm l/\Yz c p.2.2.1),λp=>(40-p.2.1).toNat, .inl ⟨rfl,rfl,rfl⟩,?_⟩;rintro⟨(b:Int),(r:Int),m,_⟩ _ i;change List (Int×(Bool×Wf)×Wf)at m;simp only at i|-;refine⟨λh=>?_,λh=>?_⟩
 . have h:=qA h;obtain⟨rfl,rfl,rfl⟩:b=0/\r=20/\m=l:=by
    rcases i with s| ⟨_,s,_⟩
    . exact s
    omega
   refine⟨trivial,trivial,⟨u,qH _,ω,ω,ω⟩,?_⟩;rintro H ⟨o,_⟩ _ _ _ ⟨d,f,k,a⟩;simp only at d f k a|-;rw[wv ω];refine⟨.inr ⟨by trivial,by trivial,ω,d,?_⟩,by simp⟩;have B:=d.length_eq;change Yz c ((o.drop 0).take (20-0))at a;rw[uH,qU ω]at a;exact a
 have h:=qB h;have A:0<=b/\b<=n/\m.Perm l/\(b=0\/b=n/\Yz c m):=by
  rcases i with⟨rfl,rfl,rfl⟩ | ⟨rfl,rfl,I,j,s⟩
  . exact⟨qH _,ω,wX _, .inl rfl⟩
  exact⟨δ,ω,j, .inr ⟨ω,s⟩⟩
 obtain⟨E,F,z,g⟩:=A;have M:=z.length_eq;refine⟨trivial,trivial,⟨u,E,F,ω,ω⟩,?_⟩;rintro H ⟨o,_⟩ _ _ _ ⟨d,f,k,a⟩;simp only at d f k a|-;have B:=d.length_eq;have D:Yz c o:=by
  rcases g with g| ⟨g,s⟩
  . change Yz c ((o.drop b.toNat).take (n.toNat-b.toNat))at a;rw[g]at a;change Yz c ((o.drop 0).take (n.toNat-0))at a;rw[uH,qU ω]at a;exact a
  rw[qU ω,qU ω]at f;rw[f];exact s
 refine⟨λp=>p.1=20/\p.2.1.Perm l/\Yz c p.2.1,λ_=>0,⟨rfl,d.trans z,D⟩,?_⟩;rintro⟨P,Q,_⟩ _ ⟨v,w,y⟩;simp only at v w y|-;subst v;refine⟨λt=>?_,λ_=>⟨trivial,w,y⟩⟩;have t:=qA t;omega
def Co:sq F7 T1:=λx g c=>by
 obtain⟨l,⟨d,f⟩,_⟩:=x;obtain⟨b,a⟩:AZ d f/\l.length<=20:=c;simp only[T1];refine⟨trivial,trivial,⟨b,trivial,a⟩,?_⟩;rintro r ⟨o,_⟩ _ _ _ h;exact⟨trivial,h⟩
def A1u:AZ (λ_=>True) (λz=>N4 z.1.1 z.2.1.1):=by
 refine⟨λ_ _=>trivial,λa b c=>?_,λa b=>?_⟩
 . simp only[N4];split<;>split<;>split<;>(try split)<;>(try split)<;>(try split)<;>omega
 simp only[N4];split<;>split<;>(try split)<;>(try split)<;>omega
def B4m {a b:Int} :¬N4 a b<0↔b<=a:=by
 unfold N4;split
 . omega
 split<;>omega
def DT:sq Ay Qj:=λx V r=>by
 obtain⟨t,_⟩:=x;have Q:AT t:=Vp V.1.2;change List C8 at t;have r:SU t:=r;simp only[Qj,iB,Ci,N6,Gh];refine⟨trivial,?_⟩;rintro⟨X,_⟩ _ B;simp only at B|-;subst B;refine⟨λh=>⟨λ_=>by trivial,λu=>absurd (qA h) u⟩,λh=>?_⟩;have w:=qB h;obtain⟨P,s⟩:=r.resolve_left w;refine⟨⟨ω,ω,ω,ω⟩,λ_=>True,λz=>N4 z.1.1 z.2.1.1,?_,⟨A1u,?_⟩,?_⟩
 . rintro⟨k,l,_⟩ _ _;refine⟨trivial,?_⟩;rintro⟨z,_⟩ _ s;exact⟨(by trivial),s⟩
 . rw[PW];exact P
 rintro X ⟨(o:List C8),_⟩ _ _ _ ⟨j,E⟩;simp only[PW]at j E|-;have a4:=j.length_eq;have U:o.Pairwise λk l=>k.1<=l.1:=E.imp λ{k l} b=>B4m.1 b
 have D:Zr 65536 o:=λe f=>s e (j.mem_iff.1 f)
 have v:AT o:=λe f=>Q e (j.mem_iff.1 f)
 refine⟨λp=>OX o p.1 p.2.1 p.2.2.1,λp=>((o.length:Int)-p.2.1).toNat,OX.init o,?_⟩;rintro⟨(n:Int),(i:Int),(c:List C8),_⟩ _ a;simp only at a|-;have I:=a.n0;have a2:=a.ni;have u:=a.il;have N:=a.cl;have g:(c.length:Int)=(o.length:Int):=by rw[N]
 refine⟨λd=>?_,λd=>?_⟩
 . have d:=qA d;have M:c.getD i.toNat D7=o.getD i.toNat D7:=a.rest _ (qT _);have O:0<=i/\i<(c.length:Int):=⟨ω,by rw[g];exact d⟩;have R:i64.wrap (n-1)=n-1:=wv ω;rw[R,M];refine⟨λp=>OX o p.1 (i+1) p.2.1,⟨O,λb=>?_,λb=>?_,λb=>?_⟩,?_⟩
   . have b:=qA b;exact⟨ω,by rw[g];omega⟩
   . rw[J5]at b;simp only[qC,rR]at b;obtain⟨G,H⟩:=b;have y:0<=n-1/\n-1<(c.length:Int):=⟨ω,by rw[g];omega⟩;obtain⟨Y,Z,a0⟩:=a.add D v d G H;refine⟨y,⟨O4 (G5 Y (ω:65537*i.toNat<=2199023255552)) (qT _),O4 Z δ⟩,?_⟩;rintro⟨(q:C6),_⟩ _ A;simp only at A|-;rw[A];exact⟨y,a0⟩
   . have T:0<n->(c.getD (n-1).toNat D7).1≠(o.getD i.toNat D7).1:=λhn f=>by
      rw[J5,rB hn,rB f]at b;cases b
     rw[wv ω];exact⟨⟨ω,by rw[g];omega⟩,a.push U D v d T⟩
   rintro⟨a5,a1,_⟩ _ J;simp only;rw[wv ω];exact⟨J,ω⟩
 have d:=qB d;have a3:i=(o.length:Int):=ω
 refine⟨⟨qH _,I,by rw[g];omega⟩,λh=>absurd h w,λ_=>?_⟩;have F:List.drop (Int.toNat 0) (List.take n.toNat c)=c.take n.toNat:=rfl;rw[F];refine⟨a.ord,λW=>?_,?_,λe f=>G5 (a.szs e f).1 ω⟩
 . rw[a.cm,E6 ω];exact YB j W
 rw[rA];omega
def LK:An:= {loop:= [(5,⟨[1,6,14,15],[],[(16,false,vI)],[],[(0, .row tE 75)]⟩)]}
def Qi(x:List EE×Wf×Unit):Prop:=let h:=(0:Int);let g:=(x.2.1.length:Int);let d:=(↑x.2.1.length:Int);let e:Prop:=(∀(j:Int),A4 x.1 j≠(0:Rat)->h<=j/\j<d);List.length x.2.1<=100000/\Gh λr=>r.1=decide (G2 x.2.1 g)->(iB ((!r.1)) (G2 x.2.1 d->e->MA (fun(i:Int)=>if h<=i/\i<d then A4 x.1 (↑(List.idxOf i x.2.1):Int)else(0:Rat)) []/\false=true) (Mo x.1/\aY λn=>MA (A4 x.1) n.1->∃(I:NN->Prop),∃(μ: _->Nat),I (h,n)/\∀(p:NN),let l:Prop:=(p.1<(n.1.length:Int));let k:Prop:=(h<=p.1/\p.1<(p.2.1.length:Int));let c:=(List.getD p.2.1 p.1.toNat D7);let m:=(decide (g<=c.1));let f:=(i64.wrap (p.1+1),List.set p.2.1 p.1.toNat (gx h x.2.1 c.1,c.2),());(Ty.int i64).wf p.1/\FH p.2.1/\True->I p->(iB (decide l) (k/\(iB (F5 (decide (c.1<h)) true m) (G2 x.2.1 d->e->MA (fun(i:Int)=>if h<=i/\i<d then A4 x.1 (↑(List.idxOf i x.2.1):Int)else(0:Rat)) []/\false=true) ((h<=c.1/\c.1<g)/\k/\I f/\μ f<μ p))) (List.length p.2.1<=100000/\∀(l':List EE),tE.sl.wf l'->l'.Perm p.2.1->List.Pairwise (fun(a b:Int×(Bool×Wf)×Wf)=>¬N4 b.1 a.1<h) l'->G2 x.2.1 d->e->MA (fun(i:Int)=>if h<=i/\i<d then A4 x.1 (↑(List.idxOf i x.2.1):Int)else(0:Rat)) l'/\true=true))))
abbrev T6:=List (Int×Bool)
def keys (es:T6):Wf:=es.map λe=>e.1
def iD (k:Int) (v:Bool) (es:T6):(keys es).Nodup->(keys (Eb (.int .i64) k v es)).Nodup/\∀i,i∈keys (Eb (.int .i64) k v es)↔i=k\/i∈keys es:=by
 intro h;unfold keys at*;rw[RA];by_cases a:k∈es.map λe=>e.1
 . rw[qK a];exact⟨h,λi=>⟨.inr,λf=>f.elim (λe=>e▸a) id⟩⟩
 rw[qG a];refine⟨tL.2 ⟨h,by simp,λg c j b d=>?_⟩,λi=>?_⟩
 . rw[qO]at b;exact a (b▸d▸c)
 rw[qZ,qO];exact Or.comm
def iC (k:Int):∀(es:T6),(keys es).Nodup->(keys (Qw (.int .i64) k es)).Nodup/\∀i,i∈keys (Qw (.int .i64) k es)↔i≠k/\i∈keys es
 | [],h=>⟨h,λi=>⟨λa=>(by cases a),λa=>(by cases a.2)⟩⟩
 |x::r,h=>by
  have d:=sS.1 (show(x.1::keys r).Nodup from h);have e:Qw (.int .i64) k (x::r)=if k=x.1 then r else x::Qw (.int .i64) k r:=by
   rw[Qw,Jl];by_cases b:k=x.1
   . rw[qK b,rB b];rfl
   rw[qG b,qX b];rfl
  rw[e];by_cases b:k=x.1
  . rw[qK b];refine⟨d.2,λi=>⟨λa=>⟨λe=>d.1 (by rw[<-b, <-e];exact a),qJ _ a⟩,λa=>?_⟩⟩;exact(qV.1 (show i∈x.1::keys r from a.2)).resolve_left λe=>a.1 (by rw[e,b])
  rw[qG b];obtain⟨g,c⟩:=iC k r d.2;refine⟨sS.2 ⟨λl=>d.1 ((c _).1 l).2,g⟩,λi=>?_⟩;constructor
  . intro a;rcases qV.1 (show i∈x.1::keys (Qw (.int .i64) k r)from a)with rfl|a
    . exact⟨λe=>b e.symm,rD⟩
    exact⟨((c i).1 a).1,qJ _ ((c i).1 a).2⟩
  rintro⟨j,f⟩;rcases qV.1 (show i∈x.1::keys r from f)with rfl|f
  . exact rD
  exact qJ _ ((c i).2 ⟨j,f⟩)
def W8 (rows:List (List C8)) (i j:Nat):Rat:=A4 (rows.getD i []) (j:Int)
def C4g (n k:Nat) (p:Nat->Nat) (R:Nat->Nat->Rat) (j:Nat) (es:T6):Prop:=(keys es).Nodup/\∀i:Int,i∈keys es↔0<=i/\i<(n:Int)/\(∀a,a<k->i.toNat≠p a)/\R i.toNat j≠0
structure EI (n k:Nat) (S:Nat->Nat) (A:Nat->Nat->Rat) (rest P Q place:Wf) (rows lower:List (List C8)) (cols:List T6):Prop where
 elim:Yc n k A (ix P) (ix Q) (W8 rows) (W8 lower)
 lP:P.length=n
 lQ:Q.length=n
 lpl:place.length=n
 lrows:rows.length=n
 llow:lower.length=n
 lcols:cols.length=n
 P0:∀a,a<k->P.getD a 0=(ix P a:Int)
 Q0:∀a,a<k->Q.getD a 0=(ix Q a:Int)
 pl:∀a,a<k->place.getD (ix Q a) 0=(a:Int)
 rnd:rest.Nodup
 rmem:∀c:Int,c∈rest↔0<=c/\c<(n:Int)/\∀a,a<k->c.toNat≠ix Q a
 can:∀i,i<n->R3 (rows.getD i [])/\(∀e∈rows.getD i [],0<=e.1/\e.1<(n:Int))/\∀j,qs (S k) (A4 (rows.getD i []) j)
 lcan:∀i,i<n->R3 (lower.getD i [])/\(∀e∈lower.getD i [],0<=e.1/\e.1<(k:Int))
 lq:∀i,i<n->∀j,qs (S k) (A4 (lower.getD i []) j)
 fin:∀a,a<k->∀j,qs (S a) (A4 (rows.getD (ix P a) []) j)
 col:∀j:Int,j∈rest->C4g n k (ix P) (W8 rows) j.toNat (cols.getD j.toNat [])
def Ch {P:Wf} {k m:Nat} {v:Int} (h:m≠k):ix (P.set k v) m=ix P m:=by
 unfold ix;rw[qE,sX (Ne.symm h), <-qE]
def D8 {α:Type} {l:List α} {d v:α} {k m:Nat} (h:m≠k):(l.set k v).getD m d=l.getD m d:=by
 rw[qE,sX (Ne.symm h), <-qE]
def B9 {α:Type} {l:List α} {d v:α} {k:Nat} (h:k<l.length):(l.set k v).getD k d=v:=by
 rw[qE,sL h];rfl
def Qv {P:Wf} {k:Nat} {v:Int} (h:k<P.length):ix (P.set k v) k=v.toNat:=by
 unfold ix;rw[B9 h]
variable {n k:Nat} {S:Nat->Nat} {A:Nat->Nat->Rat} {rest P Q place:Wf} {rows lower:List (List C8)} {cols:List T6}
def Yn (k:Nat) (p:Nat->Nat) (R:Nat->Nat->Rat) (r c i:Nat):Rat:=if i=r\/∃a,a<k/\i=p a then 0 else R i c/R r c
def B5n {p:Nat->Nat} {R:Nat->Nat->Rat} {r c:Nat} :Yn k p R r c r=0:=qK (.inl rfl)
def B5m {p:Nat->Nat} {R:Nat->Nat->Rat} {r c a:Nat} (h:a<k):Yn k p R r c (p a)=0:=qK (.inr ⟨a,h,rfl⟩)
def YL {p:Nat->Nat} {R:Nat->Nat->Rat} {r c i:Nat} (b:i≠r) (d:∀a,a<k->i≠p a):Yn k p R r c i=R i c/R r c:=qG λf=>f.elim b fun⟨a,ha,e⟩=>d a ha e
def EI.step (h:EI n k S A rest P Q place rows lower cols) {r c:Int} (M:c∈rest) (Y:r∈keys (cols.getD c.toNat [])) {z:Wf} {t v:List (List C8)} {E:List T6}
 (a4:z.Nodup) (a5:∀x,x∈z↔x∈rest/\x≠c) (a0:t.length=n) (a1:v.length=n) (a2:E.length=n)
 (w:∀i,i<n->R3 (t.getD i [])/\(∀e∈t.getD i [],0<=e.1/\e.1<(n:Int))/\(∀j,qs (S (k+1)) (A4 (t.getD i []) j))/\∀j,A4 (t.getD i []) j=A4 (rows.getD i []) j-Yn k (ix P) (W8 rows) r.toNat c.toNat i*A4 (rows.getD r.toNat []) j)
 (G:∀i,i<n->v.getD i []=if Yn k (ix P) (W8 rows) r.toNat c.toNat i=0 then lower.getD i []else lower.getD i []++ [((k:Int),rc (Yn k (ix P) (W8 rows) r.toNat c.toNat i))])
 (Z:S k<=S (k+1)) (a9:∀i,i<n->qs (S (k+1)) (Yn k (ix P) (W8 rows) r.toNat c.toNat i))
 (a8:∀j:Int,j∈z->C4g n (k+1) (ix (P.set k r)) (W8 t) j.toNat (E.getD j.toNat [])):
 EI n (k+1) S A z (P.set k r) (Q.set k c) (place.set c.toNat k) t v E:=by
 obtain⟨aa,c1,D⟩:=(h.rmem c).1 M;obtain⟨ab,X⟩:=h.col c M;obtain⟨ac,ad,a6,a7⟩:=(X r).1 Y;have o:k<n:=by
  rcases sI k n with N|N
  . exact N
  obtain⟨a,l,e⟩:=M9 (n:=n) (q:=ix Q) (λa l=>h.elim.qlt a ω) (λa b l hb=>h.elim.qinj a b ω ω) (ω:c.toNat<n);exact absurd e.symm (D a ω)
 have y:∀m,m<k->m≠k:=λm s=>uE s
 have R:∀i,i<n->∀m:Nat,W8 v i m=W8 lower i m+if m=k then Yn k (ix P) (W8 rows) r.toNat c.toNat i else 0:=λi d m=>by
  show A4 (v.getD i []) (m:Int)=A4 (lower.getD i []) (m:Int)+ _;rw[G i d];by_cases u:Yn k (ix P) (W8 rows) r.toNat c.toNat i=0
  . rw[qK u,u];split<;>rw[rK]
  rw[qG u,Ga];congr 1;by_cases s:m=k
  . subst s;rw[qK rfl,qK rfl]
  rw[qG s,qG ω]
 have a3:∀i,i<n->W8 lower i k=0:=λi d=>C7 λe f W=>by
  have:=(h.lcan i d).2 e f;omega
 refine⟨h.elim.step (r:=r.toNat) (c:=c.toNat) (fac:=Yn k (ix P) (W8 rows) r.toNat c.toNat) o ω ω a6 D a7 (λm s=>Ch (y m s)) (Qv (by rw[h.lP];exact o)) (λm s=>Ch (y m s)) (Qv (by rw[h.lQ];exact o)) (λi _ U V=>YL U V) B5n (λa l=>B5m l) (λi j d _=>(w i d).2.2.2 j) (λi m d s=>?_) (λi d=>?_),?_,?_,?_,a0,a1,a2,λa l=>?_,λa l=>?_,λa l=>?_,a4,λx=>?_,λi d=>⟨(w i d).1,(w i d).2.1,(w i d).2.2.1⟩,λi d=>?_,λi d j=>?_,λa l j=>?_,a8⟩
 . rw[R i d,qG (y m s),rK]
 . rw[R i d,qK rfl,a3 i d,sR]
 . rw[qP];exact h.lP
 . rw[qP];exact h.lQ
 . rw[qP];exact h.lpl
 . by_cases g:a=k
   . subst g;rw[B9 (by rw[h.lP];exact o),Qv (by rw[h.lP];exact o)];omega
   rw[D8 g,Ch g];exact h.P0 a ω
 . by_cases g:a=k
   . subst g;rw[B9 (by rw[h.lQ];exact o),Qv (by rw[h.lQ];exact o)];omega
   rw[D8 g,Ch g];exact h.Q0 a ω
 . by_cases g:a=k
   . subst g;rw[Qv (by rw[h.lQ];exact o),B9 (by rw[h.lpl];omega)]
   rw[Ch g,D8 (λe=>D a ω e.symm)];exact h.pl a ω
 . rw[a5,h.rmem];constructor
   . rintro⟨⟨H,I,B⟩,ae⟩;refine⟨H,I,λa l=>?_⟩;by_cases g:a=k
     . subst g;rw[Qv (by rw[h.lQ];exact o)];omega
     rw[Ch g];exact B a ω
   rintro⟨H,I,B⟩;refine⟨⟨H,I,λa l=>by have:=B a ω;rwa[Ch (y a l)]at this⟩,λe=>?_⟩;have:=B k (rN _);rw[Qv (by rw[h.lQ];exact o),e]at this;exact this rfl
 . rw[G i d];obtain⟨J,F⟩:=h.lcan i d;split
   . exact⟨J,λe f=>by have:=F e f;omega⟩
   rename_i u;refine⟨Lw J u λe f=>(F e f).2,λe f=>?_⟩;rcases qZ.1 f with f|f
   . have:=F e f;omega
   rw[qO]at f;subst f;simp only;omega
 . rw[G i d];have T:=G4 (h.lq i d j) Z;split
   . exact T
   rw[Ga];by_cases O:(k:Int)=j
   . rw[qK O,C7 λe f W=>by have:=(h.lcan i d).2 e f;omega,sR];exact a9 i d
   rw[qG O,rK];exact T
 have f:∀i,i<n->Yn k (ix P) (W8 rows) r.toNat c.toNat i=0->A4 (t.getD i []) j=A4 (rows.getD i []) j:=λi d h0=>by
  rw[(w i d).2.2.2 j,h0,rV,tK,wM,rK]
 by_cases g:a=k
 . subst g;rw[Qv (by rw[h.lP];exact o),f _ ω B5n];exact(h.can r.toNat ω).2.2 j
 rw[Ch g,f _ (h.elim.plt a ω) (B5m ω)];exact h.fin a ω j
def EI.stuck (h:EI n k S A rest P Q place rows lower cols) {c:Int} (a:c∈rest) (f:cols.getD c.toNat []= []):¬nonsing n A:=by
 obtain⟨l,c1,b⟩:=(h.rmem c).1 a;obtain⟨_,g⟩:=h.col c a;refine h.elim.stuck (c:=c.toNat) ω b λi o d=>qM λj=>?_
 have:=(g (i:Int)).2 ⟨qF _,ω,d,j⟩;rw[f]at this;cases this
variable {n:Nat} {S:Nat->Nat} {A:Nat->Nat->Rat} {rest P Q place:Wf} {rows lower:List (List C8)} {cols:List T6}
def mV {P:Wf} (l:P.length=n) (f:∀a,a<n->P.getD a 0=(ix P a:Int)) (o:∀a,a<n->ix P a<n) (g:∀a b,a<n->b<n->ix P a=ix P b->a=b):G2 P (n:Int):=by
 have d:∀a (c:a<P.length),P[a]=(ix P a:Int):=λa c=>by
  rw[<-f a ω,qE,qQ c];rfl
 refine⟨by rw[l],λi r=>?_,tC.2 λi j h k s e=>?_⟩
 . obtain⟨a,c,rfl⟩:=vJ.1 r;have:=o a ω;rw[d a c];omega
 rw[d i h,d j k]at e;have:=g i j ω ω ω;omega
def EI.places (h:EI n n S A rest P Q place rows lower cols):G2 place (n:Int)/\∀b,b<n->List.idxOf (b:Int) place=ix Q b:=by
 have d:∀j,j<n->∃b,b<n/\ix Q b=j/\place.getD j 0=(b:Int):=λj a=>by
  obtain⟨b,c,e⟩:=M9 h.elim.qlt h.elim.qinj a;exact⟨b,c,e,by rw[<-e];exact h.pl b c⟩
 have l:∀j (a:j<place.length),place[j]=place.getD j 0:=λj a=>by
  rw[qE,qQ a];rfl
 refine⟨mV h.lpl (λj a=>?_) (λj a=>?_) (λi j f a e=>?_),λb c=>?_⟩
 . obtain⟨b,c,_,e⟩:=d j a;unfold ix;rw[e];omega
 . obtain⟨b,c,_,e⟩:=d j a;unfold ix;rw[e];omega
 . obtain⟨b,c,g,k⟩:=d i f;obtain⟨f,s,o,r⟩:=d j a;unfold ix at e;rw[k,r]at e;have:b=f:=ω
   rw[<-g, <-o,this]
 have o:(b:Int)∈place:=by
  have a:=h.pl b c;have j:ix Q b<place.length:=by rw[h.lpl];exact h.elim.qlt b c
  rw[<-a, <-l _ j];exact wE j
 have a:=yU o;have c:place[List.idxOf (b:Int) place]=(b:Int):=g1l a;obtain⟨f,s,g,k⟩:=d (List.idxOf (b:Int) place) (by rw[<-h.lpl];exact a);rw[l _ a,k]at c;have:f=b:=ω
 rw[<-g,this]
def EI.done (h:EI n n S A rest P Q place rows lower cols) (J:n<=16384) {L U:List (List C8)} (z:L.length=n) (B:U.length=n)
 (u:∀a,a<n->L.getD a []=lower.getD (ix P a) []++ [((a:Int),rc 1)])
 (v:∀a,a<n->MA (λi=>if 0<=i/\i<(n:Int)then A4 (rows.getD (ix P a) []) ((List.idxOf i place:Nat):Int)else 0) (U.getD a [])):
 O3 (P,Q,((n:Int),(n:Int),L),((n:Int),(n:Int),U)) (n:Int)/\∀i j,i<n->j<n->GB (P,Q,((n:Int),(n:Int),L),((n:Int),(n:Int),U)) n i j=A (ix P i) (ix Q j):=by
 obtain⟨_,x⟩:=h.places;have o:∀a m,a<n->el ((n:Int),(n:Int),L) a m=W8 lower (ix P a) m+if m=a then 1 else 0:=λa m d=>by
  show A4 (L.getD a []) (m:Int)=A4 (lower.getD (ix P a) []) (m:Int)+ _;rw[u a d,Ga];congr 1;by_cases l:m=a
  . rw[qK l,qK ω]
  rw[qG l,qG ω]
 have r:∀a g,a<n->g<n->el ((n:Int),(n:Int),U) a g=W8 rows (ix P a) (ix Q g):=λa g d hb=>by
  show A4 (U.getD a []) (g:Int)=A4 (rows.getD (ix P a) []) _;rw[(v a d).2, <-x g hb];exact qK ⟨qF _,ω⟩
 have pl:=h.elim.plt;have E:∀a,a<n->E7 (L.getD a []) (n:Int):=λa d=>by
  rw[u a d];obtain⟨k,s⟩:=h.lcan _ (pl a d);have y:∀e∈lower.getD (ix P a) [],e.1<(a:Int):=λe b=>by
   refine qM λG=>(k.2 e b).1 ?_
   have F:=s e b;have:=h.elim.low a e.1.toNat d ω ω;unfold W8 at this;rw[(ω:((e.1.toNat:Nat):Int)=e.1),H8 k.1 b]at this;exact this
  have w:=Lw (q:=1) k δ y;refine⟨w.1,λe b=>⟨?_,?_,(w.2 e b).1⟩⟩
  . rcases qZ.1 b with b|b
    . exact(s e b).1
    rw[qO]at b;subst b;exact qF _
  rcases qZ.1 b with b|b
  . exact(s e b).2
  rw[qO]at b;subst b;simp only;omega
 have vU:∀a,a<n->E7 (U.getD a []) (n:Int):=λa d=>by
  obtain⟨k,w⟩:=v a d;have s:∀e∈U.getD a [],0<=e.1/\e.1<(n:Int):=λe b=>qM λhh=>(k.2 e b).1 (by rw[<-H8 k.1 b,w];exact qG hh)
  exact⟨k.1,λe b=>⟨(s e b).1,(s e b).2,(k.2 e b).1⟩⟩
 refine⟨⟨mV h.lP h.P0 h.elim.plt h.elim.pinj,mV h.lQ h.Q0 h.elim.qlt h.elim.qinj,⟨rfl,rfl,qF _,by show(n:Int)<=16384;omega,qF _,by show(n:Int)<=16384;omega,by show(L.length:Int)=(n:Int);omega,λD t=>?_⟩,⟨rfl,rfl,qF _,by show(n:Int)<=16384;omega,qF _,by show(n:Int)<=16384;omega,by show(U.length:Int)=(n:Int);omega,λD t=>?_⟩,λi j c f=>?_⟩,λi j c f=>?_⟩
 . obtain⟨a,d,rfl⟩:=T8 [] t;exact E a (by rw[<-z];exact d)
 . obtain⟨a,d,rfl⟩:=T8 [] t;exact vU a (by rw[<-B];exact d)
 . have c:i<n:=ω
   have f:j<n:=ω
   refine⟨λH=>?_,?_,λI=>?_,?_⟩
   . show el ((n:Int),(n:Int),L) i j=0;rw[o i j c,h.elim.low i j c f ω,qG ω,rK]
   . show el ((n:Int),(n:Int),L) i i=1;rw[o i i c,h.elim.low i i c c (qT _),qK rfl,sR]
   . show el ((n:Int),(n:Int),U) i j=0;rw[r i j c f];exact h.elim.zero j (ix P i) f (pl i c) λa d e=>by have:=h.elim.pinj i a c ω e;omega
   show el ((n:Int),(n:Int),U) i i≠0;rw[r i i c c];exact h.elim.piv i c
 rw[h.elim.prod c f];unfold GB;refine A8 λm l=>?_
 show el ((n:Int),(n:Int),L) i m*el ((n:Int),(n:Int),U) m j= _;rw[o i m c,r m j l f]
def EI.sizes (h:EI n n S A rest P Q place rows lower cols) (b:∀a,1<=S a) {L U:List (List C8)}
 (d:∀a,a<n->L.getD a []=lower.getD (ix P a) []++ [((a:Int),rc 1)])
 (f:∀a,a<n->MA (λi=>if 0<=i/\i<(n:Int)then A4 (rows.getD (ix P a) []) ((List.idxOf i place:Nat):Int)else 0) (U.getD a [])) {R C:Int} {i:Nat} (hi:i<n) (j:Nat):qs (S n) (el (R,C,L) i j)/\qs (S i) (el (R,C,U) i j):=by
 constructor
 . show qs (S n) (A4 (L.getD i []) (j:Int));rw[d i hi,Ga];by_cases g:i=j
   . subst g;have c:A4 (lower.getD (ix P i) []) (i:Int)=0:=h.elim.low i i hi hi (qT _);rw[qK rfl,c,sR];exact mZ (b n)
   rw[qG ω,rK];exact h.lq _ (h.elim.plt i hi) _
 show qs (S i) (A4 (U.getD i []) (j:Int));rw[(f i hi).2];dsimp only;split
 . exact h.fin i hi _
 exact M0 (b i)
def EI.cans (h:EI n n S A rest P Q place rows lower cols) {L U:List (List C8)} (l:L.length=n) (o:U.length=n)
 (j:∀a,a<n->L.getD a []=lower.getD (ix P a) []++ [((a:Int),rc 1)])
 (k:∀a,a<n->MA (λi=>if 0<=i/\i<(n:Int)then A4 (rows.getD (ix P a) []) ((List.idxOf i place:Nat):Int)else 0) (U.getD a [])):(∀v∈L,R3 v)/\∀v∈U,R3 v:=by
 constructor
 . intro v f;obtain⟨a,b,rfl⟩:=T8 [] f;have b:a<n:=by rw[<-l];exact b
   rw[j a b];obtain⟨c,g⟩:=h.lcan _ (h.elim.plt a b);refine Lw c δ λe d=>qM λs=>(c.2 e d).1 ?_
   have r:=g e d;have:=h.elim.low a e.1.toNat b ω ω;unfold W8 at this;rw[(ω:((e.1.toNat:Nat):Int)=e.1),H8 c.1 d]at this;exact this
 intro v f;obtain⟨a,b,rfl⟩:=T8 [] f;exact(k a (by rw[<-o];exact b)).1
variable {n:Nat} {S:Nat->Nat} {rest P Q place:Wf} {rows lower:List (List C8)} {cols:List T6}
def kZ (t:Int) (F:Nat->Int->Rat) (v:List C8) (j:Int) (es:T6):Prop:=(keys es).Nodup/\∀i:Int,i∈keys es↔(0<=i/\i<t/\F i.toNat j≠0)\/(i=t/\∃e∈v,e.1=j)
def B4s {t j:Int} {F:Nat->Int->Rat} {v:List C8} {es:T6} {b:Bool} {e:C8} (h:kZ t F v j es) (d:e.1=j):kZ t F (v++ [e]) j (Eb (.int .i64) t b es):=by
 obtain⟨a,c⟩:=iD t b es h.1;refine⟨a,λi=>?_⟩;rw[c,h.2];constructor
 . rintro(hh|hh| ⟨hh,x,a,c⟩)
   . exact .inr ⟨hh,e,by simp,d⟩
   . exact .inl hh
   exact .inr ⟨hh,x,sJ _ a,c⟩
 rintro(hh| ⟨hh,x,a,c⟩)
 . exact .inr (.inl hh)
 exact .inl hh
def B0u {t j:Int} {F:Nat->Int->Rat} {v:List C8} {es:T6} {e:C8} (h:kZ t F v j es) (b:e.1≠j):kZ t F (v++ [e]) j es:=by
 refine⟨h.1,λi=>?_⟩;rw[h.2];refine g4a yA (g5r yA ⟨fun⟨x,a,hxj⟩=>⟨x,sJ _ a,hxj⟩,fun⟨x,a,hxj⟩=>?_⟩);rcases qZ.1 a with a|a
 . exact⟨x,a,hxj⟩
 rw[qO]at a;subst a;exact absurd hxj b
def B0t {t j:Int} {F:Nat->Int->Rat} {v:List C8} {es:T6} {m:Int} (h:kZ t F v j es) (l:0<=t) (f:E7 v m) (d:F t.toNat=A4 v):kZ (t+1) F [] j es:=by
 refine⟨h.1,λi=>?_⟩;rw[h.2];constructor
 . rintro(⟨c,g,a⟩ | ⟨rfl,e,b,rfl⟩)
   . exact .inl ⟨c,ω,a⟩
   refine .inl ⟨l,ω,?_⟩;rw[d,H8 f.1 b];exact(f.2 e b).2.2
 rintro(⟨c,g,a⟩ | ⟨_,e,b,_⟩)
 . by_cases k:i=t
   . subst k;rw[d]at a;exact .inr ⟨rfl,EH a⟩
   exact .inl ⟨c,ω,a⟩
 cases b
def EI.start {F:Nat->Int->Rat} {A:Nat->Nat->Rat} (E:∀i j,i<n->j<n->A i j=F i (j:Int)) (V:rest.length=n) (G:∀i,i<n->rest.getD i 0=(i:Int))
 (M:P.length=n) (N:Q.length=n) (O:place.length=n) (H:rows.length=n) (I:lower.length=n) (J:cols.length=n)
 (w:∀i,i<n->MA (F i) (rows.getD i [])) (R:∀i (j:Int),i<n->F i j≠0->0<=j/\j<(n:Int)) (D:∀i j,i<n->qs (S 0) (F i j)) (B:∀i,i<n->lower.getD i []= [])
 (T:∀j:Int,0<=j->j<(n:Int)->kZ (n:Int) F [] j (cols.getD j.toNat [])):EI n 0 S A rest P Q place rows lower cols:=by
 have d:∀a,¬a<0:=λa=>tX a
 have r:∀i (b:i<rest.length),rest[i]=(i:Int):=λi b=>by
  rw[<-G i ω,qE,qQ b];rfl
 refine⟨⟨rQ _,λa h=>absurd h (d a),λa h=>absurd h (d a),λa _ h=>absurd h (d a),λa _ h=>absurd h (d a),λi j b s=>?_,λa _ h=>absurd h (d a),λa h=>absurd h (d a),λa _ h=>absurd h (d a)⟩,M,N,O,H,I,J,λa h=>absurd h (d a),λa h=>absurd h (d a),λa h=>absurd h (d a),tC.2 λi j b s U e=>?_,λc=>⟨λv=>?_,λv=>?_⟩,λi b=>?_,λi b=>?_,λi b j=>?_,λa o=>absurd o (d a),λj s=>?_⟩
 . rw[B8,sR,E i j b s];exact((w i b).2 _).symm
 . rw[r i b,r j s]at e;omega
 . obtain⟨i,b,rfl⟩:=vJ.1 v;rw[r i b];exact⟨qF _,ω,λa o=>absurd o (d a)⟩
 . obtain⟨f,g,_⟩:=v;have z:c.toNat<rest.length:=ω
   have:=r _ z;rw[(ω:((c.toNat:Nat):Int)=c)]at this;rw[<-this];exact wE z
 . obtain⟨l,t⟩:=w i b;exact⟨l,λe k=>R i e.1 b (by rw[<-t,H8 l.1 k];exact(l.2 e k).1),λj=>by rw[t];exact D i j b⟩
 . rw[B i b];exact⟨AC,λe k=>by cases k⟩
 . rw[B i b,Sc];exact M0 (A6o (D i j b))
 have y:0<=j/\j<(n:Int):=by
  obtain⟨i,b,rfl⟩:=vJ.1 s;rw[r i b];omega
 obtain⟨l,t⟩:=T j y.1 y.2;refine⟨l,λi=>?_⟩;rw[t];have x:∀i:Int,0<=i->i<(n:Int)->W8 rows i.toNat j.toNat=F i.toNat j:=λi f g=>by
  show A4 (rows.getD i.toNat []) ((j.toNat:Nat):Int)= _;rw[(w i.toNat ω).2,(ω:((j.toNat:Nat):Int)=j)]
 constructor
 . rintro(⟨f,g,u⟩ | ⟨_,e,k,_⟩)
   . exact⟨f,g,λa o=>absurd o (d a),by rw[x i f g];exact u⟩
   cases k
 rintro⟨f,g,_,u⟩;exact .inl ⟨f,g,by rw[x i f g]at u;exact u⟩
def pL (Bs:Int->Int->Prop) (i:Int) (vs:List C8) (j:Int) (es:T6):Prop:=(keys es).Nodup/\∀x:Int,x∈keys es↔Bs j x/\¬(x=i/\∃e∈vs,e.1=j)
def pK (Bs:Int->Int->Prop) (i:Int) (vs:List C8) (j:Int) (es:T6):Prop:=(keys es).Nodup/\∀x:Int,x∈keys es↔Bs j x\/(x=i/\∃e∈vs,e.1=j)
variable {Bs:Int->Int->Prop} {i j:Int} {vs:List C8} {es:T6} {e:C8}
def pM (h:(keys es).Nodup/\∀x,x∈keys es↔Bs j x):pL Bs i [] j es:=⟨h.1,λx=>by rw[h.2];exact⟨λa=>⟨a,fun⟨_,e,he,_⟩=>by cases he⟩,λa=>a.1⟩⟩
def B4p (h:(keys es).Nodup/\∀x,x∈keys es↔Bs j x):pK Bs i [] j es:=⟨h.1,λx=>by rw[h.2];exact⟨.inl,λa=>a.elim id fun⟨_,e,he,_⟩=>by cases he⟩⟩
def Vk (a:e.1=j):∃y∈vs++ [e],y.1=j:=⟨e,by simp,a⟩
def YK (b:e.1≠j):(∃y∈vs++ [e],y.1=j)↔∃y∈vs,y.1=j:=
 ⟨fun⟨y,a,hyj⟩=>by
  rcases qZ.1 a with a|a
  . exact⟨y,a,hyj⟩
  rw[qO]at a;subst a;exact absurd hyj b,fun⟨y,a,hyj⟩=>⟨y,sJ _ a,hyj⟩⟩
def B4r (h:pL Bs i vs j es) (c:e.1=j):pL Bs i (vs++ [e]) j (Qw (.int .i64) i es):=by
 obtain⟨a,b⟩:=iC i es h.1;refine⟨a,λx=>?_⟩;rw[b,h.2];exact⟨λa=>⟨a.2.1,λb=>a.1 b.1⟩,λa=>⟨λd=>a.2 ⟨d,Vk c⟩,a.1,λb=>a.2 ⟨b.1,Vk c⟩⟩⟩
def B0s (h:pL Bs i vs j es) (a:e.1≠j):pL Bs i (vs++ [e]) j es:=⟨h.1,λx=>by rw[h.2,YK a]⟩
def B4q {b:Bool} (h:pK Bs i vs j es) (d:e.1=j):pK Bs i (vs++ [e]) j (Eb (.int .i64) i b es):=by
 obtain⟨a,c⟩:=iD i b es h.1;refine⟨a,λx=>?_⟩;rw[c,h.2];exact⟨λa=>a.elim (λc=> .inr ⟨c,Vk d⟩) λa=>a.elim .inl λc=> .inr ⟨c.1,Vk d⟩,λa=>a.elim (λa=> .inr (.inl a)) λc=> .inl c.1⟩
def B0r (h:pK Bs i vs j es) (a:e.1≠j):pK Bs i (vs++ [e]) j es:=⟨h.1,λx=>by rw[h.2,YK a]⟩
def B4t {O N:Int->Prop} {pv nw:List C8} {d:T6} (g:pK (λ_ x=>Bs j x/\¬(x=i/\∃e∈pv,e.1=j)) i nw j d)
 (l:Bs j i↔O j) (n:(∃e∈pv,e.1=j)\/(O j↔N j)) (k:(∃e∈nw,e.1=j)↔N j):(keys d).Nodup/\∀x,x∈keys d↔(x≠i/\Bs j x)\/(x=i/\N j):=by
 refine⟨g.1,λx=>?_⟩;rw[g.2,k];by_cases c:x=i
 . subst c;rcases n with f|f
   . exact⟨λb=>b.elim (λa=>absurd ⟨rfl,f⟩ a.2) .inr,λb=>b.elim (λa=>absurd rfl a.1) .inr⟩
   exact⟨λb=>b.elim (λa=> .inr ⟨rfl,f.1 (l.1 a.1)⟩) .inr,λb=>b.elim (λa=>absurd rfl a.1) .inr⟩
 exact⟨λb=>b.elim (λa=> .inl ⟨c,a.1⟩) λa=>absurd a.1 c,λb=>b.elim (λa=> .inl ⟨a.2,λh=>c h.1⟩) λa=>absurd a.1 c⟩
def C2k {s:Nat} {x f r c:Rat} (h:qs s x) (d:qs s f) (g:qs s r) (b:qs s c):qs (4*s+1) (x-f/r*c):=by
 have a:=A6p h (Kv (BH d g) b);rwa[(ω:s+(s+s+s)+1=4*s+1)]at a
def inC (cols:List T6) (j x:Int):Prop:=x∈keys (cols.getD j.toNat [])
structure CI (n k s:Nat) (rest P:Wf) (rows0 lower0:List (List C8)) (r c:Int) (D:Wf) (rows lower:List (List C8)) (cols:List T6):Prop where
 lrows:rows.length=n
 llow:lower.length=n
 lcols:cols.length=n
 rd:∀i:Nat,i<n->(i:Int)∈D->R3 (rows.getD i [])/\(∀e∈rows.getD i [],0<=e.1/\e.1<(n:Int))/\(∀j,qs (4*s+1) (A4 (rows.getD i []) j))/\∀j,A4 (rows.getD i []) j=A4 (rows0.getD i []) j-Yn k (ix P) (W8 rows0) r.toNat c.toNat i*A4 (rows0.getD r.toNat []) j
 ru:∀i:Nat,i<n->(i:Int)∉D->rows.getD i []=rows0.getD i []
 lo:∀i:Nat,i<n->lower.getD i []=if(i:Int)∈D then lower0.getD i []++ [((k:Int),rc (Yn k (ix P) (W8 rows0) r.toNat c.toNat i))]else lower0.getD i []
 col:∀j:Int,j∈rest->(keys (cols.getD j.toNat [])).Nodup/\∀x:Int,x∈keys (cols.getD j.toNat [])↔x≠r/\0<=x/\x<(n:Int)/\(∀a,a<k->x.toNat≠ix P a)/\W8 rows x.toNat j.toNat≠0
variable {n k s:Nat} {S:Nat->Nat} {A:Nat->Nat->Rat} {rest P Q place:Wf} {rows lower rows1 lower1:List (List C8)} {cols cols1 cols2:List T6} {r c:Int}
def A8g {v:List C8} (h:R3 v) (j:Int):(∃e∈v,e.1=j)↔A4 v j≠0:=
 ⟨fun⟨e,he,hj⟩=>by rw[<-hj,H8 h.1 he];exact(h.2 e he).1,EH⟩
def EI.row (h:EI n k S A rest P Q place rows lower cols) (b:c∈rest) (d:r∈keys (cols.getD c.toNat [])):0<=r/\r<(n:Int)/\(∀a,a<k->r.toNat≠ix P a)/\W8 rows r.toNat c.toNat≠0:=((h.col c b).2 r).1 d
def EI.crange (h:EI n k S A rest P Q place rows lower cols) (a:c∈rest):0<=c/\c<(n:Int):=⟨((h.rmem c).1 a).1,((h.rmem c).1 a).2.1⟩
def CI.init (h:EI n k S A rest P Q place rows lower cols) (u:c∈rest) (x:r∈keys (cols.getD c.toNat [])) (z:cols1.length=n)
 (v:∀j:Int,j∈rest->pL (inC cols) r (rows.getD r.toNat []) j (cols1.getD j.toNat [])):CI n k s rest P rows lower r c [] rows lower cols1:=by
 obtain⟨F,G,H,_⟩:=h.row u x;refine⟨h.lrows,h.llow,z,λi _ w=>(by cases w),λi _ _=>rfl,λi _=>(qG (by simp)).symm,λj hj=>?_⟩;obtain⟨D,E⟩:=h.crange hj;obtain⟨l,o⟩:=v j hj;refine⟨l,λB=>?_⟩;rw[o];have t:=(h.col j hj).2 B;unfold inC;rw[t,A8g (h.can r.toNat ω).1];constructor
 . rintro⟨⟨d,f,g,a⟩,b⟩;refine⟨λe=>b ⟨e,?_⟩,d,f,g,a⟩;subst e;unfold W8 at a;rwa[(ω:((j.toNat:Nat):Int)=j)]at a
 rintro⟨y,d,f,g,a⟩;exact⟨⟨d,f,g,a⟩,λb=>y b.1⟩
def CI.next (h:EI n k S A rest P Q place rows lower cols) (hc:c∈rest) (hr:r∈keys (cols.getD c.toNat [])) {D:Wf} (g:CI n k (S k) rest P rows lower r c D rows1 lower1 cols1) {i:Int}
 (a1:0<=i) (a2:i<(n:Int)) (W:i≠r) (B:∀a,a<k->i.toNat≠ix P a) (T:i∉D) {nw:List C8} {q:Rat}
 (Z:q=W8 rows i.toNat c.toNat/W8 rows r.toNat c.toNat)
 (u:MA (λj=>A4 (rows.getD i.toNat []) j-q*A4 (rows.getD r.toNat []) j) nw) (a7:cols2.length=n)
 (a5:∀j:Int,j∈rest->pK (λj x=>inC cols1 j x/\¬(x=i/\∃e∈rows.getD r.toNat [],e.1=j)) i nw j (cols2.getD j.toNat [])):
 CI n k (S k) rest P rows lower r c (D++ [i]) (rows1.set i.toNat nw) (lower1.set i.toNat (lower1.getD i.toNat []++ [((k:Int),rc q)])) cols2:=by
 obtain⟨ac,ad,ae,af⟩:=h.row hc hr;obtain⟨a8,c1⟩:=h.crange hc;have o:i.toNat<n:=ω
 have V:((i.toNat:Nat):Int)=i:=ω
 have U:Yn k (ix P) (W8 rows) r.toNat c.toNat i.toNat=q:=by rw[YL ω B,Z]
 have s:∀x:Nat,(x:Int)∈D++ [i]↔(x:Int)∈D\/x=i.toNat:=λx=>by
  rw[qZ,qO];exact g4a yA ω
 have w:∀j,A4 nw j=A4 (rows.getD i.toNat []) j-q*A4 (rows.getD r.toNat []) j:=u.2;have a6:∀e∈nw,0<=e.1/\e.1<(n:Int):=λe he=>qM λb=>by
  refine(u.1.2 e he).1 ?_;rw[<-H8 u.1.1 he,w,C7 (v:=rows.getD i.toNat []) λM F G=>b (by rw[<-G];exact(h.can _ o).2.1 M F),C7 (v:=rows.getD r.toNat []) λM F G=>b (by rw[<-G];exact(h.can r.toNat ω).2.1 M F),sM,tK,wM,rK]
 refine⟨by rw[qP];exact g.lrows,by rw[qP];exact g.llow,a7,λx d f=>?_,λx d f=>?_,λx d=>?_,λj E=>?_⟩
 . by_cases l:x=i.toNat
   . subst l;rw[B9 (by rw[g.lrows];exact o),U];refine⟨u.1,a6,λj=>?_,w⟩;rw[w,Z];have:=C2k ((h.can _ o).2.2 j) ((h.can _ o).2.2 (c.toNat:Int)) ((h.can r.toNat ω).2.2 (c.toNat:Int)) ((h.can r.toNat ω).2.2 j);exact this
   rw[D8 l];exact g.rd x d (((s x).1 f).resolve_right l)
 . have l:x≠i.toNat:=λe=>f ((s x).2 (.inr e))
   rw[D8 l];exact g.ru x d λb=>f ((s x).2 (.inl b))
 . by_cases l:x=i.toNat
   . subst l;rw[B9 (by rw[g.llow];exact o),qK ((s _).2 (.inr rfl)),g.lo _ o,qG (by rw[V];exact T),U]
   rw[D8 l,g.lo x d];by_cases f:(x:Int)∈D
   . rw[qK f,qK ((s x).2 (.inl f))]
   rw[qG f,qG λb=>f (((s x).1 b).resolve_right l)]
 obtain⟨aa,ab⟩:=h.crange E;obtain⟨a9,R⟩:=g.col j E;have X:((j.toNat:Nat):Int)=j:=ω
 have a4:inC cols1 j i↔A4 (rows.getD i.toNat []) j≠0:=by
  unfold inC;rw[R];have F:W8 rows1 i.toNat j.toNat=A4 (rows.getD i.toNat []) j:=by
   unfold W8;rw[g.ru _ o (by rw[V];exact T),X]
  rw[F];exact⟨λb=>b.2.2.2.2,λb=>⟨W,a1,a2,B,b⟩⟩
 have a0:=B4t (Bs:=inC cols1) (O:=λj=>A4 (rows.getD i.toNat []) j≠0) (N:=λj=>A4 nw j≠0) (pv:=rows.getD r.toNat []) (nw:=nw) (a5 j E) a4 ?_ (A8g u.1 j)
 . refine⟨a0.1,λx=>?_⟩;rw[a0.2];unfold inC;rw[R];by_cases d:x=i
   . subst d;have:W8 (rows1.set x.toNat nw) x.toNat j.toNat=A4 nw j:=by
      unfold W8;rw[B9 (by rw[g.lrows];exact o),X]
     rw[this];exact⟨λb=>b.elim (λz=>absurd rfl z.1) λz=>⟨W,a1,a2,B,z.2⟩,λb=> .inr ⟨rfl,b.2.2.2.2⟩⟩
   constructor
   . rintro(⟨_,t,H,I,J,y⟩ | ⟨t,_⟩)
     . refine⟨t,H,I,J,?_⟩;unfold W8 at y|-;rwa[D8 ω]
     exact absurd t d
   rintro⟨t,H,I,J,y⟩;refine .inl ⟨d,t,H,I,J,?_⟩;unfold W8 at y|-;rwa[D8 ω]at y
 by_cases Y:∃e∈rows.getD r.toNat [],e.1=j
 . exact .inl Y
 refine .inr ?_;have a3:A4 (rows.getD r.toNat []) j=0:=qM λb=>Y (EH b)
 show A4 _ j≠0↔A4 nw j≠0;rw[w,a3,sM,tK,wM,rK]
def CI.done (h:EI n k S A rest P Q place rows lower cols) (z:c∈rest) (O:r∈keys (cols.getD c.toNat [])) {D:Wf} (g:CI n k (S k) rest P rows lower r c D rows1 lower1 cols1)
 (I:S (k+1)=4*S k+1) (U:∀x:Int,x∈D↔x≠r/\0<=x/\x<(n:Int)/\(∀a,a<k->x.toNat≠ix P a)/\W8 rows x.toNat c.toNat≠0) {G:Wf} (X:G.Nodup) (R:∀x,x∈G↔x∈rest/\x≠c):
 EI n (k+1) S A G (P.set k r) (Q.set k c) (place.set c.toNat k) rows1 lower1 cols1:=by
 obtain⟨Z,a0,a1,W⟩:=h.row z O;have E:k<P.length:=by
  rw[h.lP];refine g4p h.elim.kn λE=>?_
  obtain⟨M,c1,F⟩:=(h.rmem c).1 z;obtain⟨a,l,e⟩:=M9 (n:=n) (q:=ix Q) (λa l=>h.elim.qlt a ω) (λa b l hb=>h.elim.qinj a b ω ω) (ω:c.toNat<n);exact absurd e.symm (F a ω)
 have B:∀i:Nat,i<n->((i:Int)∈D↔Yn k (ix P) (W8 rows) r.toNat c.toNat i≠0):=λi d=>by
  rw[U,qN];constructor
  . rintro⟨Y,_,_,t,u⟩;rw[YL ω t,tS];exact λo=>(xE.1 o).elim u λo=>by
     have:=vQ _ W;rw[o,sM]at this;exact absurd this δ
  intro M;have F:¬(i=r.toNat\/∃a,a<k/\i=ix P a):=λs=>M (qK s)
  refine⟨λe=>F (.inl ω),ω,ω,λa l e=>F (.inr ⟨a,l,e⟩),λo=>M ?_⟩;unfold Yn;rw[qG F,o,tS,rV]
 refine h.step z O X R g.lrows g.llow g.lcols (λi d=>?_) (λi d=>?_) ω (λi d=>?_) λj V=>?_
 . rw[I];by_cases f:(i:Int)∈D
   . exact g.rd i d f
   have o:Yn k (ix P) (W8 rows) r.toNat c.toNat i=0:=qM λs=>f ((B i d).2 s)
   rw[g.ru i d f,o];obtain⟨w,y,T⟩:=h.can i d;exact⟨w,y,λj=>G4 (T j) ω,λj=>by rw[rV,tK,wM,rK]⟩
 . rw[g.lo i d];by_cases f:(i:Int)∈D
   . rw[qK f,qG ((B i d).1 f)]
   rw[qG f,qK (qM λs=>f ((B i d).2 s))]
 . have N:=(h.can i d).2.2 (c.toNat:Int);rw[I];unfold Yn;split
   . exact M0 (by have:=A6o N;omega)
   exact G4 (BH N ((h.can r.toNat ω).2.2 (c.toNat:Int))) ω
 obtain⟨w,y⟩:=g.col j ((R j).1 V).1;refine⟨w,λx=>?_⟩;rw[y];constructor
 . rintro⟨Y,t,u,v,H⟩;refine⟨t,u,λa l=>?_,H⟩;by_cases J:a=k
   . subst J;rw[Qv E];omega
   rw[Ch J];exact v a ω
 rintro⟨t,u,v,H⟩;refine⟨λe=>?_,t,u,λa l=>?_,H⟩
 . have:=v k (rN _);rw[Qv E,e]at this;exact this rfl
 have:=v a ω;rwa[Ch (uE l)]at this
def EI.two (h:EI n k S A rest P Q place rows lower cols) {i j:Nat} (b:i<n) (c:j<n) (o:i≠j) (g:∀a,a<k->i≠ix P a) (l:∀a,a<k->j≠ix P a):k+2<=n:=by
 refine qM λb=>?_
 have b:=h.elim.kn;obtain⟨a,f,c,d,b⟩:=RY n (λa=>if a<k then ix P a else if a=k then i else j) λa _=>by
  split
  . rename_i c;exact h.elim.plt a c
  split<;>assumption
 by_cases c:a<k
 . rw[qK c]at b;by_cases d:f<k
   . rw[qK d]at b;have:=h.elim.pinj a f c d b;omega
   rw[qG d]at b;split at b
   . exact g a c b.symm
   exact l a c b.symm
 have d:¬f<k:=ω
 rw[qG c,qG d]at b;have:a=k:=ω
 rw[qK this,qG ω]at b;exact o b
def Yc.qsR {n k T:Nat} {A R Lo:Nat->Nat->Rat} {p q:Nat->Nat} (h:Yc n k A p q R Lo) (I:Jr n n A T) {i j:Nat} (t:i<n) (M:j<n):qs (T+T) (R i j):=by
 have H:∀a,a<=k->a<n->(∀b,b<a->i≠p b)->(∀m,a<=m->m<k->Lo i m=0)->qs (T+T) (R i j):=λa hak han hia hlo=>by
  have O:∀b,b<a->(if b=a then i else p b)=p b:=λb d=>qG ω
  have w:∀b,b<a->(if b=a then R i else R (p b))=R (p b):=λb d=>qG ω
  have z:∀b,b<a->(if b=a then j else q b)=q b:=λb d=>qG ω
  have E:∀b,b<=a->(if b=a then j else q b)<n:=λb d=>by
   by_cases e:b=a
   . rw[qK e];exact M
   rw[qG e];exact h.qlt b ω
  have:=nL (R:=n) (C:=n) (T:=T) (A:=A) (a:=a) (u:=λb=>if b=a then R i else R (p b)) (X:=λb=>if b=a then Lo i else Lo (p b)) (r:=λb=>if b=a then i else p b) (l:=λb=>if b=a then j else q b) I (λb d=>by
   by_cases e:b=a
   . simp only[qK e];exact t
   . simp only[qG e];exact h.plt b ω) E han han (λb d m F=>by
   have y:=E m F;generalize (if m=a then j else q m)=c at y;by_cases e:b=a
   . simp only[e,vZ];rw[h.dec i c t y,Eg hak λf g o=>by rw[hlo f g o,rV]];congr 1;exact A8 λf D=>by rw[w f D]
   . simp only[qG e];rw[h.dec (p b) c (h.plt b ω) y,Eg (ω:b<=k) λf g o=>by rw[h.low b f ω o g,rV]];congr 1;exact A8 λf D=>by rw[w f ω]) (λb m F d=>by
   show(if b=a then R i else R (p b)) (if m=a then j else q m)=0;rw[z m ω];by_cases e:b=a
   . rw[qK e];exact h.zero m i ω t λv J=>hia v ω
   . rw[qG e];exact h.zero m (p b) ω (h.plt b ω) λv J x=>by have:=h.pinj b v ω ω x;omega) (λb d=>by
   show(if b=a then R i else R (p b)) (if b=a then j else q b)≠0;rw[w b d,z b d];exact h.piv b ω)
  simp only[vZ]at this;exact this
 by_cases B:∃a,a<k/\i=p a
 . obtain⟨a,s,rfl⟩:=B;exact H a ω (by have:=h.kn;omega) (λb d x=>by have:=h.pinj a b s ω x;omega) λm g o=>h.low a m s o g
 have G:∀a,a<k->i≠p a:=λa s e=>B ⟨a,s,e⟩
 have N:k<n:=g4p h.kn λe=>by
  subst e;obtain⟨a,s,f⟩:=M9 h.plt h.pinj t;exact G a s f.symm
 exact H k (qT _) N G λm g o=>ω
def Yc.qsL {n k T:Nat} {A R Lo:Nat->Nat->Rat} {p q:Nat->Nat} (h:Yc n k A p q R Lo) (B:Jr n n A T) (F:1<=T) {i m:Nat} (t:i<n) (D:m<k):qs (T+T) (Lo i m):=by
 by_cases y:∃a,a<=m/\i=p a
 . obtain⟨a,d,rfl⟩:=y;rw[h.low a m ω D d];exact M0 ω
 have E:∀a,a<=m->i≠p a:=λa d e=>y ⟨a,d,e⟩
 have z:m<n:=by have:=h.kn;omega
 refine A7f (R:=n) (C:=n) (T:=T) (A:=A) (a:=m) (u:=λb=>R (p b)) (X:=λb=>Lo (p b)) (r:=p) (l:=q) (s:=i) (x:=Lo i) B (λb j=>h.plt b ω) t (λb j=>h.qlt b ω) z z (λb j c w=>?_) (λb c w j=>?_) (λb j=>h.piv b ω) (λc w=>?_)
 . rw[h.dec (p b) (q c) (h.plt b ω) (h.qlt c ω),Eg (ω:b<=k) λf v g=>by rw[h.low b f ω g v,rV]]
 . exact h.zero c (p b) ω (h.plt b ω) λa d o=>by have:=h.pinj b a ω ω o;omega
 rw[h.dec i (q c) t (h.qlt c ω),h.zero c i ω t λa d=>E a ω,rK,Eg (ω:m+1<=k) λf v g=>by rw[h.zero c (p f) ω (h.plt f g) λa d o=>by have:=h.pinj f a g ω o;omega,sM],B8]
variable {n k s T:Nat} {S S':Nat->Nat} {A:Nat->Nat->Rat} {rest P Q place:Wf} {rows lower rows1 lower1:List (List C8)} {cols cols1 cols2:List T6} {r c:Int}
def EI.resize (h:EI n k S A rest P Q place rows lower cols) (b:∀a,a<=k->S a=S' a):EI n k S' A rest P Q place rows lower cols:=
 { h with
   can:=λi c=>by rw[<-b k (qT _)];exact h.can i c
   lq:=λi c j=>by rw[<-b k (qT _)];exact h.lq i c j
   fin:=λa c j=>by rw[<-b a ω];exact h.fin a c j}
def EI.tight (h:EI n k S A rest P Q place rows lower cols) (d:1<=T) (b:Jr n n A T):EI n k (λ_=>T+T) A rest P Q place rows lower cols:=by
 have c:∀i,i<n->∀j:Int,qs (T+T) (A4 (rows.getD i []) j):=λi a j=>by
  by_cases l:0<=j/\j<(n:Int)
  . have:=h.elim.qsR b a (ω:j.toNat<n);unfold W8 at this;rwa[(ω:((j.toNat:Nat):Int)=j)]at this
  rw[C7 λe f g=>l (by rw[<-g];exact(h.can i a).2.1 e f)];exact M0 ω
 exact {h with
  can:=λi a=>⟨(h.can i a).1,(h.can i a).2.1,c i a⟩
  lq:=λi a j=>by
   by_cases f:0<=j/\j<(k:Int)
   . have:=h.elim.qsL b d a (ω:j.toNat<k);unfold W8 at this;rwa[(ω:((j.toNat:Nat):Int)=j)]at this
   rw[C7 λe b d=>f (by rw[<-d];exact(h.lcan i a).2 e b)];exact M0 ω
  fin:=λa b j=>c _ (h.elim.plt a b) j}
def CI.doneT (h:EI n k (λ_=>T+T) A rest P Q place rows lower cols) (i:1<=T) (d:Jr n n A T) (j:c∈rest) (l:r∈keys (cols.getD c.toNat [])) {D:Wf} (g:CI n k (T+T) rest P rows lower r c D rows1 lower1 cols1)
 (f:∀x:Int,x∈D↔x≠r/\0<=x/\x<(n:Int)/\(∀a,a<k->x.toNat≠ix P a)/\W8 rows x.toNat c.toNat≠0) {b:Wf} (o:b.Nodup) (s:∀x,x∈b↔x∈rest/\x≠c):
 EI n (k+1) (λ_=>T+T) A b (P.set k r) (Q.set k c) (place.set c.toNat k) rows1 lower1 cols1:=by
 have b:=h.resize (S':=λa=>if a<=k then T+T else 4*(T+T)+1) λa ha=>(qK ha).symm
 refine(CI.done b j l (D:=D) (by simp only[qK (qT k)];exact g) ?_ f o s).tight i d;simp only[qG (Nat.not_succ_le_self k),qK (qT k)]
def C1w {R C:Nat} (a:Jr R C A T) {i j:Nat} (b:i<R) (c:j<C):qs T (A i j):=by
 have:=a 1 (λ_=>i) (λ_=>j) ω ω (λ_ _=>b) (λ_ _=>c);rwa[show det 1 (λ_ _=>A i j)=A i j from by rw[det,B8,B8,det];show 0+1*A i j*1=A i j;grind]at this
def NG {α:Type} (l:List α) (i:Nat) (d:α):l.set i (l.getD i d)=l:=by
 refine g2b (by rw[qP]) λj b a=>?_
 rw[g5g];split
 . rename_i e;subst e;rw[H1 _ _ a]
 rfl
def Mc {α:Type} {d:α} {l:List α} {t:Int} (a:0<=t) (b:t<(l.length:Int)):l.take (t+1).toNat=l.take t.toNat++ [gx d l t]:=by
 rw[(ω:(t+1).toNat=t.toNat+1),rP,H0 (d:=d) a b];rfl
def RI {l:Wf} {n:Nat} (h:l.Nodup) (f:∀x∈l,0<=x/\x<(n:Int)):l.length<=n:=by
 refine qM λa=>?_
 have b:∀a,a<n+1->a<l.length:=λa ha=>ω
 obtain⟨a,c,i,g,j⟩:=RY n (λa=>(l.getD a 0).toNat) λa ha=>by
  have:=f _ (D4 (d:=0) (b a ha));omega
 have i:=f _ (D4 (d:=0) (b a ω));have i:=f _ (D4 (d:=0) (b c g));have f:l.getD a 0=l.getD c 0:=ω
 rw[H1 _ _ (b a ω),H1 _ _ (b c g)]at f;have:=(xK h).1 f;omega
def B6x (es:T6):(keys es).length=es.length:=sO ..
def A1g {es:T6} {y:Int×Bool} (h:y∈es):y.1∈keys es:=vY (f:=λe:Int×Bool=>e.1) h
def oB (n:Nat) (dd:List Nat):Prop:=∀i,i<n->i∉dd
abbrev NB:=List T6×List Nat
abbrev NR:=List (List C8)×List Nat
variable {n k:Nat} {S:Nat->Nat} {A:Nat->Nat->Rat} {rest P Q place:Wf} {rows lower:List (List C8)} {cols:List T6}
def A7j {v:List C8} {m j:Int} (h:E7 v m) (b:A4 v j≠0):0<=j/\j<m:=qM λa=>b (kA h a)
def EI.more (h:EI n k S A rest P Q place rows lower cols) (u:k<n):0<rest.length:=by
 refine qM λv=>?_
 have o:rest= []:=qR ω;have g:∀c,c<n->∃a,a<k/\c=ix Q a:=λc b=>qM λhh=>by
  have:=(h.rmem (c:Int)).2 ⟨ω,ω,λa ha e=>hh ⟨a,ha,ω⟩⟩;rw[o]at this;cases this
 obtain⟨f,d⟩:∃f:Nat->Nat,∀c,c<n->f c<k/\c=ix Q (f c):=by
  refine⟨λc=>if b:c<n then(g c b).choose else 0,λc b=>?_⟩;simp only[dif_pos b];exact(g c b).choose_spec
 obtain⟨a,i,s,t,l⟩:=RY k f λa ha=>(d a ω).1
 have j:=(d a ω).2;have r:=(d i ω).2;rw[l]at j;omega
def EI.okRow (h:EI n k S A rest P Q place rows lower cols) (d:S k<=K1) (a:n<=16384) {i:Nat} (f:i<n):Vy K1 (rows.getD i []):=by
 obtain⟨a,b,c⟩:=h.can i f;have:=Aa (n:=(n:Int)) (v:=rows.getD i []) ⟨a.1,λe he=>⟨(b e he).1,(b e he).2,(a.2 e he).1⟩⟩;exact⟨a.1,LP a λj=>G4 (c j) d,ω⟩
def EI.lowLen (h:EI n k S A rest P Q place rows lower cols) {i:Nat} (c:i<n):(lower.getD i []).length<=k:=by
 obtain⟨a,b⟩:=h.lcan i c;have:=Aa (n:=(k:Int)) (v:=lower.getD i []) ⟨a.1,λe he=>⟨(b e he).1,(b e he).2,(a.2 e he).1⟩⟩;omega
def EI.colLen (h:EI n k S A rest P Q place rows lower cols) {c:Int} (b:c∈rest):(cols.getD c.toNat []).length<=n:=by
 obtain⟨d,a⟩:=h.col c b;rw[<-B6x];exact RI d λx b=>⟨((a x).1 b).1,((a x).1 b).2.1⟩
def EI.pick (h:EI n k S A rest P Q place rows lower cols) {b:Nat} (a:b<rest.length):(rest.take b++rest.drop (b+1)).Nodup/\∀x,x∈rest.take b++rest.drop (b+1)↔x∈rest/\x≠rest.getD b 0:=by
 have j:rest=rest.take b++rest.getD b 0::rest.drop (b+1):=by
  rw[H1 _ _ a, <-vX a,uT]
 have d:=h.rnd;generalize rest.getD b 0=c at*;generalize rest.take b=u at*;generalize rest.drop (b+1)=v at*;subst j;rw[tL]at d;obtain⟨s,t,f⟩:=d;obtain⟨o,r⟩:=sS.1 t;refine⟨tL.2 ⟨s,r,λg i b a=>f g i b (qJ _ a)⟩,λx=>?_⟩;rw[qZ,qZ,qV];constructor
 . rintro(hx|hx)
   . exact⟨.inl hx,λe=>f x hx c rD e⟩
   exact⟨.inr (.inr hx),λe=>o (e▸hx)⟩
 rintro⟨hx|hx|hx,l⟩
 . exact .inl hx
 . exact absurd hx l
 exact .inr hx
def IU (n:Nat) (rest:Wf) (Bs:Int->Int->Prop) (i:Int) (v:List C8) (p:Int×NB×Unit):Prop:=0<=p.1/\p.1<=(v.length:Int)/\p.2.1.1.length=n/\oB n p.2.1.2/\∀j:Int,j∈rest->(0<=j/\j<(n:Int))/\pL Bs i (v.take p.1.toNat) j (p.2.1.1.getD j.toNat [])
def gY (n:Nat) (rest:Wf) (Bs:Int->Int->Prop) (i:Int) (v:List C8) (p:Int×NB×Unit):Prop:=0<=p.1/\p.1<=(v.length:Int)/\p.2.1.1.length=n/\oB n p.2.1.2/\∀j:Int,j∈rest->(0<=j/\j<(n:Int))/\pK Bs i (v.take p.1.toNat) j (p.2.1.1.getD j.toNat [])
def TF (n:Nat) (F:Nat->Int->Rat) (i:Int) (v:List C8) (p:Int×NB×Unit):Prop:=0<=p.1/\p.1<=(v.length:Int)/\p.2.1.1.length=n/\oB n p.2.1.2/\∀j:Int,0<=j->j<(n:Int)->kZ i F (v.take p.1.toNat) j (p.2.1.1.getD j.toNat [])
variable {Bs:Int->Int->Prop} {i t:Int} {v:List C8} {dd:List Nat} {F:Nat->Int->Rat}
def IU.rng (h:IU n rest Bs i v (t,(cols,dd),())) (c:∀e∈v,0<=e.1/\e.1<(n:Int)) (b:t<(v.length:Int)):(0<=t/\t<(v.length:Int))/\(0<=(gx D7 v t).1/\(gx D7 v t).1<((cols.length:Nat):Int))/\(gx D7 v t).1.toNat∉dd:=by
 have a:=c (gx D7 v t) (F6 (d:=D7) (i:=t) h.1 b);have c:cols.length=n:=h.2.2.1;exact⟨⟨h.1,b⟩,⟨a.1,by rw[c];exact a.2⟩,h.2.2.2.1 _ ω⟩
def IU.next (h:IU n rest Bs i v (t,(cols,dd),())) (hv:∀e∈v,0<=e.1/\e.1<(n:Int)) (ht:t<(v.length:Int)):IU n rest Bs i v (t+1,(cols.set (gx D7 v t).1.toNat (Qw (.int .i64) i (cols.getD (gx D7 v t).1.toNat [])),dd),()):=by
 obtain⟨b,_,c,f,g⟩:=h;simp only at b c f g;refine⟨by simp only;omega,by simp only;omega,by simp only;rw[qP];exact c,f,λj a=>?_⟩;obtain⟨⟨l,o⟩,k⟩:=g j a;refine⟨⟨l,o⟩,?_⟩;have r:=hv _ (F6 (d:=D7) b ht);simp only;rw[Mc (d:=D7) b ht];generalize gx D7 v t=e at*;by_cases a:e.1=j
 . subst a;rw[B9 ω];exact B4r k rfl
 rw[D8 ω];exact B0s k a
def gY.rng (h:gY n rest Bs i v (t,(cols,dd),())) (c:∀e∈v,0<=e.1/\e.1<(n:Int)) (b:t<(v.length:Int)):(0<=t/\t<(v.length:Int))/\(0<=(gx D7 v t).1/\(gx D7 v t).1<((cols.length:Nat):Int))/\(gx D7 v t).1.toNat∉dd:=by
 have a:=c (gx D7 v t) (F6 (d:=D7) (i:=t) h.1 b);have c:cols.length=n:=h.2.2.1;exact⟨⟨h.1,b⟩,⟨a.1,by rw[c];exact a.2⟩,h.2.2.2.1 _ ω⟩
def gY.next {b:Bool} (h:gY n rest Bs i v (t,(cols,dd),())) (hv:∀e∈v,0<=e.1/\e.1<(n:Int)) (ht:t<(v.length:Int)):gY n rest Bs i v (t+1,(cols.set (gx D7 v t).1.toNat (Eb (.int .i64) i b (cols.getD (gx D7 v t).1.toNat [])),dd),()):=by
 obtain⟨c,_,f,g,k⟩:=h;simp only at c f g k;refine⟨by simp only;omega,by simp only;omega,by simp only;rw[qP];exact f,g,λj a=>?_⟩;obtain⟨⟨o,r⟩,l⟩:=k j a;refine⟨⟨o,r⟩,?_⟩;have s:=hv _ (F6 (d:=D7) c ht);simp only;rw[Mc (d:=D7) c ht];generalize gx D7 v t=e at*;by_cases a:e.1=j
 . subst a;rw[B9 ω];exact B4q l rfl
 rw[D8 ω];exact B0r l a
def TF.rng (h:TF n F i v (t,(cols,dd),())) (c:∀e∈v,0<=e.1/\e.1<(n:Int)) (b:t<(v.length:Int)):(0<=t/\t<(v.length:Int))/\(0<=(gx D7 v t).1/\(gx D7 v t).1<((cols.length:Nat):Int))/\(gx D7 v t).1.toNat∉dd:=by
 have a:=c (gx D7 v t) (F6 (d:=D7) (i:=t) h.1 b);have c:cols.length=n:=h.2.2.1;exact⟨⟨h.1,b⟩,⟨a.1,by rw[c];exact a.2⟩,h.2.2.2.1 _ ω⟩
def TF.next {b:Bool} (h:TF n F i v (t,(cols,dd),())) (hv:∀e∈v,0<=e.1/\e.1<(n:Int)) (ht:t<(v.length:Int)):TF n F i v (t+1,(cols.set (gx D7 v t).1.toNat (Eb (.int .i64) i b (cols.getD (gx D7 v t).1.toNat [])),dd),()):=by
 obtain⟨a,_,c,f,g⟩:=h;simp only at a c f g;refine⟨by simp only;omega,by simp only;omega,by simp only;rw[qP];exact c,f,λj o r=>?_⟩;have s:=hv _ (F6 (d:=D7) a ht);simp only;rw[Mc (d:=D7) a ht];have k:=g j o r;generalize gx D7 v t=e at*;by_cases l:e.1=j
 . subst l;rw[B9 ω];exact B4s k rfl
 rw[D8 ω];exact B0u k l
def ME (n:Nat) (p:Int×NB×Wf×Unit):Prop:=0<=p.1/\p.1<=(n:Int)/\p.2.1.1.length=n/\(∀j,p.2.1.1.getD j []= [])/\(∀i∈p.2.1.2,p.1<=(i:Int))/\p.2.2.1.length=n/\∀i:Nat,(i:Int)<p.1->p.2.2.1.getD i 0=(i:Int)
def ME.init:ME n (0,(List.replicate n [],Qz (Ty.mp false (Ty.int i64) false Ty.bool) n),List.replicate n 0,()):=by
 refine⟨by simp only;omega,by simp only;omega,by simp only;rw[rL],λj=>?_,λi _=>qF i,by simp only;rw[rL],λi a=>?_⟩
 . simp only;rw[qE,uW];split<;>rfl
 simp only at a;omega
def ME.next {left:Wf} (h:ME n (t,(cols,dd),left,())) (ht:t<(n:Int)):ME n (t+1,(cols.set t.toNat [],SI t.toNat dd),left.set t.toNat t,()):=by
 obtain⟨o,_,c,d,f,g,k⟩:=h;simp only at o c d f g k;refine⟨by simp only;omega,by simp only;omega,by simp only;rw[qP];exact c,λj=>?_,λi b=>?_,by simp only;rw[qP];exact g,λi b=>?_⟩
 . simp only;by_cases a:j=t.toNat
   . subst a;rw[B9 ω]
   rw[D8 a];exact d j
 . simp only at b|-;obtain⟨l,r⟩:=bW.1 b;have:=f i l;omega
 simp only at b|-;by_cases a:i=t.toNat
 . subst a;rw[B9 ω];omega
 rw[D8 a];exact k i ω
def HG (n:Nat) (D:List (List C8)) (p:Int×List (List C8)×NB×Unit):Prop:=0<=p.1/\p.1<=(n:Int)/\p.2.1.length=n/\(∀i:Nat,(i:Int)<p.1->MA (A4 (D.getD i [])) (p.2.1.getD i []))/\p.2.2.1.1.length=n/\oB n p.2.2.1.2/\∀j:Int,0<=j->j<(n:Int)->kZ p.1 (λi=>A4 (D.getD i [])) [] j (p.2.2.1.1.getD j.toNat [])
def HG.init {left:Wf} {D:List (List C8)} (h:ME n (t,(cols,dd),left,())) (s:(n:Int)<=t):HG n D (0,List.replicate n [],(cols,dd),()):=by
 obtain⟨g,_,b,c,d,k,l⟩:=h;simp only at g b c d k l;refine⟨by simp only;omega,by simp only;omega,by simp only;rw[rL],λi f=>by simp only at f;omega,b,λi f r=>by have:=d i r;omega,λj u v=>?_⟩;simp only;rw[c];refine⟨yD,λx=>⟨λa=>(by cases a),λa=>?_⟩⟩;rcases a with⟨w,y,_⟩ | ⟨_,e,o,_⟩
 . omega
 cases o
def HG.row {D:List (List C8)} {rs:List (List C8)} (h:HG n D (t,rs,(cols,dd),())):TF n (λi=>A4 (D.getD i [])) t (D.getD t.toNat []) (0,(cols,dd),()):=by
 obtain⟨d,_,f,g,a,b,c⟩:=h;exact⟨qH _,qF _,a,b,λj d f=>c j d f⟩
def HG.next {D:List (List C8)} {rs:List (List C8)} {cols2:List T6} {dd2:List Nat} {u:Int} {w:List C8} (h:HG n D (t,rs,(cols,dd),())) (ht:t<(n:Int)) {m:Int} (hv:E7 (D.getD t.toNat []) m) (hw:MA (A4 (D.getD t.toNat [])) w) (hf:TF n (λi=>A4 (D.getD i [])) t (D.getD t.toNat []) (u,(cols2,dd2),())) (hu:((D.getD t.toNat []).length:Int)<=u):HG n D (t+1,rs.set t.toNat w,(cols2,dd2),()):=by
 obtain⟨d,_,f,g,r,s,v⟩:=h;obtain⟨o,_,a,b,c⟩:=hf;simp only at d f g r s v o a b c;refine⟨by simp only;omega,by simp only;omega,by simp only;rw[qP];exact f,λi x=>?_,a,b,λj y z=>?_⟩
 . simp only at x|-;by_cases l:i=t.toNat
   . subst l;rw[B9 ω];exact hw
   rw[D8 l];exact g i ω
 simp only;have k:=c j y z;rw[E6 hu]at k;exact B0t k d hv rfl
def C2d (n:Nat) (M:J6) (p:Int×Wf×Wf×Wf×Wf×List (List C8)×NR×NB×Unit):Prop:=0<=p.1/\p.1<=(n:Int)/\(∀s,1<=s->Jr n n (el M) s->EI n p.1.toNat (λ_=>s+s) (el M) p.2.1 p.2.2.1 p.2.2.2.1 p.2.2.2.2.1 p.2.2.2.2.2.1 p.2.2.2.2.2.2.1.1 p.2.2.2.2.2.2.2.1.1)/\oB n p.2.2.2.2.2.2.1.2/\oB n p.2.2.2.2.2.2.2.1.2
def C2d.init {M:J6} {left:Wf} {cols2:List T6} {B:List Nat} {rs:List (List C8)} {u:Int} (y:A3 M) (V:Hc M) (Q:M.1=(n:Int)) (P:M.2.1=(n:Int)) (h:ME n (t,(cols2,B),left,())) (X:(n:Int)<=t) (g:HG n M.2.2 (u,rs,(cols,dd),())) (A:(n:Int)<=u):C2d n M (0,left,List.replicate n 0,List.replicate n 0,List.replicate n 0,rs,(List.replicate n [],Qz (Ty.sl (.pair (.int .i64) (.pair (.pair .bool (.sl (.int .u32))) (.sl (.int .u32))))) n),(cols,dd),()):=by
 obtain⟨G,H,I,J,N,w,x⟩:=h;obtain⟨D,E,k,l,o,r,v⟩:=g;simp only at G H I J N w x D E k l o r v;have A:u=(n:Int):=ω
 subst A;refine⟨qH _,qF _,λs W O=>?_,λi a f=>(by cases f),r⟩;have U:(M.2.2.length:Int)=(n:Int):=by rw[y.2.2.2.2.1,Q]
 have b:∀i,i<n->E7 (M.2.2.getD i []) (n:Int):=λi a=>by
  have f:=D4 (d:=([]:List C8)) (ω:i<M.2.2.length);exact P▸y.2.2.2.2.2 _ f
 have T:∀(i:Nat) (j:Int),i<n->qs (s+s) (A4 (M.2.2.getD i []) j):=λi j a=>by
  by_cases c:0<=j/\j<(n:Int)
  . have:=C1w O a (ω:j.toNat<n);unfold el at this;rw[(ω:((j.toNat:Nat):Int)=j)]at this;exact G4 this ω
  rw[C7 λe z R=>c (by rw[<-R];exact⟨((b i a).2 e z).1,((b i a).2 e z).2.1⟩)];exact M0 ω
 exact EI.start (F:=λi=>A4 (M.2.2.getD i [])) (λi j _ _=>rfl) w (λi a=>x i ω) rL rL rL k rL o (λi a=>l i ω) (λi j a c=>A7j (b i a) c) (λi j a=>T i j a) (λi a=>by rw[qE,uW,qK a];rfl) v
def Rx:An:= {loop:= [(5,⟨[1,5,14,15],[],[(16,false,vI)],[],[(0, .row .bool 4)]⟩)]}
def WY:An:= {plan:= [(3,[0,1,2],[5],true, .done)]}
def Uy:An:= {}
def Gj(x:VO):Prop:=let b:=(x.1.length:Int);let a:=(0:Int);(iB (decide (b≠x.2.1)) (false=decide (G2 x.1 x.2.1)) ((a<=x.2.1/\x.2.1<=x.2.1/\(↑(1:Nat):Int)*x.2.1<=281474976710656/\x.2.1<=9223372036854775807)/\∃(I:C3s->Prop),∃(d: _->Nat),I (a,List.replicate x.2.1.toNat false,())/\∀(p:C3s),let h:=(decide (gx a x.1 p.1<a));let g:=(p.2.1.length:Int);let f:=(decide (x.2.1<=gx a x.1 p.1));let e:=(List.getD p.2.1 (gx a x.1 p.1).toNat false);let i:=(F5 h true f);let c:=(i64.wrap (p.1+1),List.set p.2.1 (gx a x.1 p.1).toNat true,());(Ty.int i64).wf p.1/\(List.length p.2.1<=9223372036854775807/\∀(x:Bool),x∈p.2.1->True)/\True->I p->(iB (decide (p.1<b)) ((a<=p.1/\p.1<b)/\(F5 h true f=false->a<=gx a x.1 p.1/\gx a x.1 p.1<g)/\(iB (F5 i true e) (false=decide (G2 x.1 x.2.1)) ((a<=gx a x.1 p.1/\gx a x.1 p.1<g)/\I c/\d c<d p))) (true=decide (G2 x.1 x.2.1)))))
def CB(x:jY):Prop:=let a:=(rv x.1-rv x.2.1*rv x.2.2.1);True/\Ci λr=>r.1=(rv x.2.2.1).num.sign->(iB (decide (r.1=0)) ((rv x.2.2.1=(0:Rat)->x.1=x.1)/\(rv x.2.2.1≠(0:Rat)->x.1=rc a)) ((H3 x.2.1/\H3 x.2.2.1)/\N6 λr=>r.1=rc (rv x.2.1*rv x.2.2.1)->(H3 x.1/\H3 r.1)/\N6 λb=>b.1=rc (rv x.1-rv r.1)->(rv x.2.2.1=(0:Rat)->b.1=x.1)/\(rv x.2.2.1≠(0:Rat)->b.1=rc a)))
def Hw(x:nQ):Prop:=let b:=(decide (x.1.1=x.2.1));let a:=(decide (x.1.2.1=x.2.1));(F5 b a false=true->True)/\∀(r:K2),(F5 b a false=true->(True/\True)/\r.1=decide (A3 x.1))->F5 (F5 b a false) r.1 false=decide (sqr x.1 x.2.1)
def PI (l:Wf) (n t:Int) (s:List Bool):Prop:=0<=t/\t<=(l.length:Int)/\(s.length:Int)=n/\(∀i∈l.take t.toNat,0<=i/\i<n)/\(l.take t.toNat).Nodup/\∀k:Nat,(k:Int)<n->(s.getD k false=true↔(k:Int)∈l.take t.toNat)
def PI0 {l:Wf} {n:Int} (b:0<=n):PI l n 0 (List.replicate n.toNat false):=by
 refine⟨qH _,qF _,by rw[rL];omega,λi a=>(by cases a),yD,λk _=>?_⟩;rw[qE,uW];constructor
 . intro h;split at h<;>cases h
 intro h;cases h
def WN {l:Wf} {t:Int} (a:0<=t) (b:t<(l.length:Int)):l.take (t+1).toNat=l.take t.toNat++ [gx 0 l t]:=by
 rw[(ω:(t+1).toNat=t.toNat+1),rP,H0 (d:=(0:Int)) a b];rfl
def B3s {l:Wf} {n t:Int} {s:List Bool} (h:PI l n t s) (b:t<(l.length:Int)) (hb:gx 0 l t<0\/n<=gx 0 l t\/s.getD (gx 0 l t).toNat false=true):¬G2 l n:=by
 rintro⟨_,f,g⟩;obtain⟨c,_,_,_,_,j⟩:=h;have i:=F6 (d:=(0:Int)) c b;obtain⟨k,o⟩:=f _ i;rcases hb with hb|hb|hb
 . omega
 . omega
 have:=(j (gx 0 l t).toNat ω).1 hb;rw[(ω:(((gx 0 l t).toNat:Nat):Int)=gx 0 l t)]at this;have a:(l.take (t+1).toNat).Nodup:=g.take;rw[WN c b,tL]at a;exact a.2.2 _ this _ (qO.2 rfl) rfl
def A7o {l:Wf} {n t:Int} {s:List Bool} (h:PI l n t s) (b:t<(l.length:Int)) (j:0<=gx 0 l t) (o:gx 0 l t<n) (A:s.getD (gx 0 l t).toNat false=false):PI l n (t+1) (s.set (gx 0 l t).toNat true):=by
 obtain⟨c,E,w,z,x,g⟩:=h;have y:gx 0 l t∉l.take t.toNat:=λhm=>by
  have:=(g (gx 0 l t).toNat ω).2 (by rw[(ω:(((gx 0 l t).toNat:Nat):Int)=gx 0 l t)];exact hm);rw[A]at this;cases this
 refine⟨ω,ω,by rw[qP];exact w,λi a=>?_,?_,λk v=>?_⟩
 . rw[WN c b,qZ,qO]at a;rcases a with a|rfl
   . exact z i a
   exact⟨j,o⟩
 . rw[WN c b,tL];refine⟨x,by simp,λB r D d u=>?_⟩;rw[qO]at d;subst d u;exact y r
 rw[WN c b,qZ,qO, <-g k v];by_cases f:(gx 0 l t).toNat=k
 . rw[f,qE,sL ω];exact⟨λ_=> .inr ω,λ_=>rfl⟩
 rw[qE,sX f, <-qE];exact⟨.inl,λh=>h.resolve_right ω⟩
def Nz:sq P3 Gj:=λx r i=>by
 obtain⟨(l:Wf),(n:Int),_⟩:=x;obtain⟨g,o⟩:0<=n/\n<=16384:=i;simp only[Gj,iB];refine⟨λh=>?_,λh=>⟨⟨g,qH _,ω,ω⟩,?_⟩⟩
 . have h:=qA h;exact(qX λa=>h a.1).symm
 have h:=tA.1 (qB h);refine⟨λp=>PI l n p.1 p.2.1,λp=>((l.length:Int)-p.1).toNat,PI0 g,?_⟩;rintro⟨(t:Int),(s:List Bool),_⟩ _ c;simp only at c|-;obtain⟨j,u,k,_⟩:=id c;refine⟨λb=>?_,λb=>?_⟩
 . have b:=qA b;rw[H7,H7];refine⟨⟨j,b⟩,λa=>?_,λa=>?_,λa=>?_⟩
   . simp only[rE,rM]at a;omega
   . simp only[uD,rR]at a;exact(qX (B3s c b (by rcases a with(a|a) |a;exact .inl a;exact .inr (.inl a);exact .inr (.inr a)))).symm
   simp only[rE,rM]at a;rw[wv ω];exact⟨ω,A7o c b ω ω a.2,ω⟩
 have b:=qB b;obtain⟨_,_,_,d,f,_⟩:=c;rw[E6 ω]at d f;exact(rB ⟨h,d,f⟩).symm
def Oo:sq P5 Gl:=λx k g=>by
 obtain⟨(l:Wf),_⟩:=x;have j:l.length<=100000:=g;simp only[Gl,iB];refine⟨⟨qF _,qH _,ω,ω⟩,λp=>PI l (l.length:Int) p.1 p.2.1,λp=>((l.length:Int)-p.1).toNat,PI0 (qF _),?_⟩;rintro⟨(t:Int),(s:List Bool),_⟩ _ c;simp only at c|-;obtain⟨h,n,i,_⟩:=id c;refine⟨λb=>?_,λb=>?_⟩
 . have b:=qA b;rw[H7,H7];refine⟨⟨h,b⟩,λa=>?_,λa=>?_,λa=>?_⟩
   . simp only[rE,rM]at a;omega
   . simp only[uD,rR]at a;exact(qX (B3s c b (by rcases a with(a|a) |a;exact .inl a;exact .inr (.inl a);exact .inr (.inr a)))).symm
   simp only[rE,rM]at a;rw[wv ω];exact⟨ω,A7o c b ω ω a.2,ω⟩
 have b:=qB b;obtain⟨_,_,_,d,f,_⟩:=c;rw[E6 ω]at d f;exact(rB ⟨rfl,d,f⟩).symm
def NP:sq Eu CB:=λx j u=>by
 obtain⟨k,l,d,_⟩:=x;obtain⟨o,i,g⟩:sz K1 k/\sz K1 l/\sz K1 d:=u;have t:=Vr j.2.1;have s:=Vr j.2.2.1;simp only[CB,iB,Ci,N6];refine⟨trivial,?_⟩;rintro⟨(r:Int),_⟩ _ b;simp only at b|-;refine⟨λh=>?_,λh=>⟨⟨O4 i δ,O4 g δ⟩,?_⟩⟩
 . have h:=qA h;rw[b,C4p]at h;exact⟨λ_=>by trivial,λa=>absurd h a⟩
 have c:rv d≠0:=λc=>qB h (by rw[b,C4p];exact c)
 rintro⟨p,_⟩ _ f;simp only at f|-;subst f;refine⟨⟨O4 o δ,N8 (Kv (Jw t i δ) (Jw s g δ)) δ⟩,?_⟩;rintro⟨q,_⟩ _ a;simp only at a|-;refine⟨λn=>absurd n c,λ_=>?_⟩;rw[a,H2]
def mvE (p:Wf) (e:C8):C8:=(p.getD e.1.toNat 0,e.2)
def mW {p:Wf} (h:G2 p (p.length:Int)) {a i:Int} (b:0<=a) (f:a<(p.length:Int)) (g:0<=i) (j:i<(p.length:Int)):p.getD a.toNat 0=i↔a=((List.idxOf i p:Nat):Int):=by
 have b:a.toNat<p.length:=ω
 constructor
 . intro g;have l:i∈p:=g▸D4 b;have j:=yU l;have k:p[List.idxOf i p]=i:=g1l j;rw[H1 _ _ b, <-k]at g;have:=(xK h.2.2).1 g;omega
 intro g;have l:i∈p:=by
  obtain⟨b,f,r⟩:=M9 (n:=p.length) (q:=λb=>(p.getD b 0).toNat) (λb f=>by have:=h.2.1 _ (D4 (d:=0) f);omega) (λb c f s o=>by
   have t:=h.2.1 _ (D4 (d:=0) f);have u:=h.2.1 _ (D4 (d:=0) s);have o:(p.getD b 0).toNat=(p.getD c 0).toNat:=o;have e:p.getD b 0=p.getD c 0:=ω
   rw[H1 _ _ f,H1 _ _ s]at e;exact(xK h.2.2).1 e) (ω:i.toNat<p.length)
  have t:=h.2.1 _ (D4 (d:=0) f);have r:(p.getD b 0).toNat=i.toNat:=r;rw[(ω:i=p.getD b 0)];exact D4 f
 have j:=yU l;have k:p[List.idxOf i p]=i:=g1l j;rw[g,qN,H1 _ _ j,k]
def A8b {p:Wf} (h:G2 p (p.length:Int)):∀ {c:List C8},(∀e∈c,0<=e.1/\e.1<(p.length:Int))->∀i,A4 (c.map (mvE p)) i=if 0<=i/\i<(p.length:Int)then A4 c ((List.idxOf i p:Nat):Int)else 0
 | [],_,i=>by split<;>rfl
 |e::c,a,i=>by
  obtain⟨f,g⟩:=a e (rD ..);have b:=A8b h (λx hx=>a x (qJ _ hx)) i;rw[rT,A4,A4,b];have k:=h.2.1 _ (D4 (d:=0) (ω:e.1.toNat<p.length));by_cases a:0<=i/\i<(p.length:Int)
  . rw[qK a,qK a];congr 1;show(if p.getD e.1.toNat 0=i then rv e.2 else 0)= _;by_cases b:p.getD e.1.toNat 0=i
    . rw[qK b,qK ((mW h f g a.1 a.2).1 b)]
    rw[qG b,qG λj=>b ((mW h f g a.1 a.2).2 j)]
  rw[qG a,qG a,rK];exact qG λb=>a (by rw[<-b];exact k)
def DR:sq R0 Qi:=λx a7 V=>by
 obtain⟨(v:List C8),(p:Wf),_⟩:=x;have B:Vy K1 v/\p.length<=100000:=V;obtain⟨B,W⟩:=B;simp only[Qi,iB,Gh,aY];refine⟨W,?_⟩;rintro⟨(r:Bool),_⟩ _ E;simp only at E|-;refine⟨λn w=>?_,λn=>⟨.inl B,?_⟩⟩
 . rw[E,rB w]at n;cases n
 have w:G2 p (p.length:Int):=by
  refine qM λO=>?_
  rw[E,qX O]at n;cases n
 rintro⟨(c:List C8),_⟩ ⟨⟨y,_⟩,_⟩ b;simp only at b y|-;have y:c.length<=9223372036854775807:=y;refine⟨λq=>0<=q.1/\q.1<=(c.length:Int)/\q.2.1=(c.take q.1.toNat).map (mvE p)++c.drop q.1.toNat/\∀e∈c.take q.1.toNat,0<=e.1/\e.1<(p.length:Int),λq=>((c.length:Int)-q.1).toNat,⟨qH _,qF _,rfl,λe a=>(by cases a)⟩,?_⟩;rintro⟨(i:Int),(u:List C8),_⟩ _ ⟨N,Z,g,d⟩;simp only at N Z g d|-;refine⟨λk=>?_,λk=>?_⟩
 . have k:=qA k;have o:i.toNat<c.length:=ω
   have U:u.length=c.length:=by rw[g,rS,sO,rA,sW];omega
   have J:((c.take i.toNat).map (mvE p)).length=i.toNat:=by rw[sO,rA];omega
   have H:c.drop i.toNat=c.getD i.toNat D7::c.drop (i.toNat+1):=by rw[H1 _ _ o];exact vX o
   have T:u.getD i.toNat D7=c.getD i.toNat D7:=by
    rw[g,H,qE,tW ω,J,yJ];rfl
   have F:c.getD i.toNat D7∈c:=D4 o;have G:0<=i/\i<(u.length:Int):=⟨N,by rw[U];exact k⟩;rw[T];refine⟨G,λh _ l=>?_,λh=>?_⟩
   . exfalso;rw[H7]at h;simp only[uD,rR]at h;have:=l (c.getD i.toNat D7).1 (by rw[<-b.2,H8 b.1.1 F];exact(b.1.2 _ F).1);omega
   rw[H7]at h;simp only[rE,rM]at h;have l:0<=(c.getD i.toNat D7).1/\(c.getD i.toNat D7).1<(p.length:Int):=⟨ω,ω⟩;rw[wv ω,O8 l.1 l.2];have I:c.take (i+1).toNat=c.take i.toNat++ [c.getD i.toNat D7]:=by
    rw[(ω:(i+1).toNat=i.toNat+1)];rw[rP,qQ o,H1 _ _ o];rfl
   refine⟨l,G,⟨ω,ω,?_,λe a=>?_⟩,ω⟩
   . rw[I,g,H,uZ,uP,g3h _ _ ω,J,yJ,(ω:(i+1).toNat=i.toNat+1)];rfl
   rw[I]at a;rcases qZ.1 a with a|a
   . exact d e a
   rw[qO]at a;subst a;exact l
 have k:=qB k;rw[E6 ω]at g d;rw[sF ω,wB]at g;subst g;have R:E7 c (p.length:Int):=⟨b.1.1,λe a=>⟨(d e a).1,(d e a).2,(b.1.2 e a).1⟩⟩;refine⟨?_,λa0 _ D X _ _=>⟨⟨⟨?_,λe a=>?_⟩,λj=>?_⟩,by trivial⟩⟩
 . have:=Aa R;have M:∀z:Nat,z=c.length->z<=100000:=λz M=>ω
   exact M _ (sO ..)
 . have A:(a0.map λe:C8=>e.1).Nodup:=by
    rw[(D.map λe:C8=>e.1).nodup_iff,g4z];have f:(c.map λe:C8=>e.1).Nodup:=by
     unfold List.Nodup;rw[wK];exact b.1.1.imp λh=>ω
    unfold List.Nodup at f|-;rw[wK]at f|-;refine List.Pairwise.imp_of_mem (λ{s t} O Q P a=>P ?_) f;obtain⟨a2,a3⟩:=d s O;obtain⟨a4,a5⟩:=d t Q;have a:p.getD s.1.toNat 0=p.getD t.1.toNat 0:=a;rw[H1 _ _ ω,H1 _ _ ω]at a;have:=(xK w.2.2).1 a;omega
   unfold List.Nodup at A;rw[wK]at A;refine g1i ?_ X A;intro s t f a6;have:s.1<=t.1:=by
    unfold N4 at f;split at f
    . omega
    split at f<;>omega
   omega
 . obtain⟨a1,Y,rfl⟩:=sV.1 (D.mem_iff.1 a);exact b.1.2 a1 Y
 rw[YB D,A8b w d];simp only[b.2]
def Zv:An:= {loop:= [(8,⟨[2,6,36],[0,2],[(37,false,vI)],[],[]⟩)],plan:= [(10,[2,5,8,11],[],true, .done),(11,[10,21,22],[],true, .done)]}
abbrev B9i:=(Wf×Wf×MM×Int×Int×List (List EE))×Int×Unit
def Kj(x:B9i):Prop:=let q:=(1:Int);let j:=(0:Int);let g:Prop:=(j<=x.2.1/\x.2.1<=16384);let e:Prop:=(false=true↔O3 x.1 x.2.1);g/\Gh λr=>r.1=decide (G2 x.1.1 x.2.1)->((!r.1)=false->g)/\∀(v:K2),((!r.1)=false->(True/\True)/\v.1=decide (G2 x.1.2.1 x.2.1))->(iB ((F5 (!r.1) true !v.1)) (e) (True/\Gh λt=>t.1=decide (sqr x.1.2.2.1 x.2.1)->((!t.1)=false->True)/\∀(w:K2),((!t.1)=false->(True/\True)/\w.1=decide (sqr x.1.2.2.2 x.2.1))->(iB ((F5 (!t.1) true !w.1)) (e) (True/\N6 λr=>r.1=ri q->∃(I:D3->Prop),∃(a: _->Nat),I (j,())/\∀(p:D3),let m:=(i64.wrap (p.1+q),());let k:=(gx [] x.1.2.2.2.2.2 p.1);let h:=(gx [] x.1.2.2.1.2.2 p.1);let l:=(↑h.length:Int);let i:=(gx D7 h (i64.wrap (l-q)));let g:Prop:=((gx D7 k j).1≠p.1);let d:Prop:=((↑k.length:Int)=j);let c:Prop:=(j<=i64.wrap (l-q)/\i64.wrap (l-q)<l);let b:Prop:=(l=j);let n:=(decide b);let f:Prop:=(i.1≠p.1);let o:=(decide f);(Ty.int i64).wf p.1/\True->I p->(iB (decide (p.1<x.2.1)) ((j<=p.1/\p.1<(x.1.2.2.1.2.2.length:Int))/\(j<=p.1/\p.1<(x.1.2.2.2.2.2.length:Int))/\(decide b=false->c)/\(F5 n true o=false->c)/\(F5 n true o=false->H3 i.2/\H3 r.1)/\∀(u:D3),let s:=(decide (u.1≠j));(F5 n true o=false->(R8 u.1/\True)/\u.1=Lk (rv i.2) (rv r.1))->(iB (F5 (F5 n true o) true s) (e) ((decide d=false->j<=j/\j<(↑k.length:Int))/\(iB (F5 (decide d) true (decide g)) (e) (I m/\a m<a p))))) ((true=true↔O3 x.1 x.2.1)))))))
def Pa:sq Q4 Hw:=λx d _=>by
 obtain⟨(m:J6),(n:Int),_⟩:=x;simp only[Hw,J5];refine⟨λ_=>trivial,?_⟩;rintro⟨(r:Bool),_⟩ c;simp only at c|-;by_cases a:m.1=n
 . by_cases b:m.2.1=n
   . rw[(c (by rw[rB a,rB b];rfl)).2,rB a,rB b,wI,wI];exact wH.2 ⟨λh=>⟨a,b,h⟩,λh=>h.2.2⟩
   rw[qX b,Bool.and_false,yW];exact(qX λh=>b h.2.1).symm
 rw[qX a,yW,yW];exact(qX λh=>a h.1).symm
def A1h {v:List C8} (h:asc v) (g:v≠ []):gx D7 v ((v.length:Int)-1)∈v/\∀x∈v,x.1<=(gx D7 v ((v.length:Int)-1)).1:=by
 have n:0<v.length:=uX.2 g;have a:=H0 (d:=D7) (l:=v) (i:=(v.length:Int)-1) ω ω;refine⟨F6 ω ω,λx j=>?_⟩;obtain⟨k,c,rfl⟩:=vJ.1 j;rw[(ω:((v.length:Int)-1).toNat=v.length-1)]at a;have b:v[v.length-1]' ω=gx D7 v ((v.length:Int)-1):=by
  rw[qQ ω]at a;exact xD a
 rw[<-b];by_cases f:k=v.length-1
 . subst f;exact qH _
 exact xF (tC.1 h k (v.length-1) c ω ω)
def A8w {v:List C8} {n:Int} (h:E7 v n) {i:Nat} (u:(i:Int)<n):(v≠ []/\(gx D7 v ((v.length:Int)-1)).1=(i:Int)/\rv (gx D7 v ((v.length:Int)-1)).2=1)↔(∀j:Nat,(j:Int)<n->i<j->A4 v (j:Int)=0)/\A4 v (i:Int)=1:=by
 constructor
 . rintro⟨c,f,a⟩;obtain⟨b,g⟩:=A1h h.1 c;refine⟨λj _ w=>C7 λe d t=>?_,?_⟩
   . have:=g e d;omega
   rw[<-f,H8 h.1 b,a]
 rintro⟨f,a⟩;have c:v≠ []:=λe=>by subst e;rw[Sc]at a;exact absurd a δ
 obtain⟨b,g⟩:=A1h h.1 c;obtain⟨x,l,z⟩:=EH (show A4 v (i:Int)≠0 from by rw[a];decide);have s:=g x l;obtain⟨o,r,k⟩:=h.2 _ b;have d:(gx D7 v ((v.length:Int)-1)).1=(i:Int):=by
  refine qM λy=>k ?_
  have:=f (gx D7 v ((v.length:Int)-1)).1.toNat ω ω;rw[(ω:(((gx D7 v ((v.length:Int)-1)).1.toNat:Nat):Int)=(gx D7 v ((v.length:Int)-1)).1),H8 h.1 b]at this;exact this
 refine⟨c,d,?_⟩;rw[<-H8 h.1 b,d,a]
def B9o {v:List C8} {n:Int} (h:E7 v n) {i:Nat} :(v≠ []/\(gx D7 v 0).1=(i:Int))↔(∀j:Nat,j<i->A4 v (j:Int)=0)/\A4 v (i:Int)≠0:=by
 cases v with
 |nil=>exact⟨λa=>absurd rfl a.1,λa=>absurd (Sc _) a.2⟩
 |cons e r=>
  have g:gx D7 (e::r) 0=e:=rfl;rw[g];have c:=(h.2 e rD);constructor
  . rintro⟨_,a⟩;exact⟨λj k=>EG h.1 ω,by rw[<-a,P7 h.1];exact c.2.2⟩
  rintro⟨a,d⟩;refine⟨by simp,qM λf=>?_⟩;rcases g4n f with b|b
  . refine c.2.2 ?_;rw[<-P7 h.1];have:=a e.1.toNat ω;rwa[(ω:((e.1.toNat:Nat):Int)=e.1)]at this
  exact d (EG h.1 b)
def A2i (L U:J6) (n:Int) (i:Nat):Prop:=(∀j:Nat,(j:Int)<n->i<j->el L i j=0)/\el L i i=1/\(∀j:Nat,j<i->el U i j=0)/\el U i i≠0
def B1p {P Q:Wf} {L U:J6} {n:Int} (d:G2 P n) (f:G2 Q n) (g:sqr L n) (k:sqr U n):O3 (P,Q,L,U) n↔∀i:Nat,(i:Int)<n->A2i L U n i:=by
 constructor
 . rintro⟨_,_,_,_,h⟩ i a;exact⟨λj b c=>(h i j a b).1 c,(h i i a a).2.1,λj b=>(h i j a ω).2.2.1 b,(h i i a a).2.2.2⟩
 intro h;exact⟨d,f,g,k,λi j a b=>⟨λc=>(h i a).1 j b c,(h i a).2.1,λb=>(h i a).2.2.1 j b,(h i a).2.2.2⟩⟩
def Vd {p q:Rat} :Lk p q=0↔p=q:=by
 unfold Lk;by_cases a:p<q
 . rw[qK a];exact⟨λh=>ω,λh=>by subst h;exact absurd a (Rat.lt_irrefl)⟩
 rw[qG a];by_cases b:q<p
 . rw[qK b];exact⟨λh=>ω,λh=>by subst h;exact absurd b (Rat.lt_irrefl)⟩
 rw[qG b];exact⟨λ_=>Rat.le_antisymm (Rat.not_lt.1 b) (Rat.not_lt.1 a),λ_=>rfl⟩
def RH {p:Prop} (h:¬p):(false=true↔p):=⟨λa=>(by cases a),λhp=>absurd hp h⟩
def Ud:sq U3 Kj:=λx ar a9=>by
 obtain⟨⟨P,Q,(L:J6),(U:J6)⟩,(n:Int),_⟩:=x;obtain⟨M,W,a7,am⟩:0<=n/\n<=16384/\J1 K1 L/\J1 K1 U:=a9;simp only[Kj,iB,N6,Gh,H7];refine⟨⟨M,W⟩,?_⟩;rintro⟨(af:Bool),_⟩ _ E;simp only at E|-;refine⟨λ_=>⟨M,W⟩,?_⟩;rintro⟨(ag:Bool),_⟩ l;simp only at l|-;by_cases y:G2 P n
 case neg=>
  rw[E,qX y];exact⟨λ_=>RH λh=>y h.1,λh=>by simp at h⟩
 have l:=(l (by rw[E,rB y];rfl)).2;by_cases H:G2 Q n
 case neg=>
  rw[l,qX H];exact⟨λ_=>RH λh=>H h.2.1,λh=>by simp at h⟩
 rw[E,l,rB y,rB H];refine⟨λh=>by simp at h,λ_=>⟨trivial,?_⟩⟩;rintro⟨(ah:Bool),_⟩ _ F;simp only at F|-;refine⟨λ_=>trivial,?_⟩;rintro⟨(ai:Bool),_⟩ o;simp only at o|-;by_cases k:sqr L n
 case neg=>
  rw[F,qX k];exact⟨λ_=>RH λh=>k h.2.2.1,λh=>by simp at h⟩
 have o:=(o (by rw[F,rB k];rfl)).2;by_cases z:sqr U n
 case neg=>
  rw[o,qX z];exact⟨λ_=>RH λh=>z h.2.2.2.1,λh=>by simp at h⟩
 rw[F,o,rB k,rB z];refine⟨λh=>by simp at h,λ_=>⟨trivial,?_⟩⟩;rintro⟨(one:C6),_⟩ _ N;simp only at N|-;have V:=B1p y H k z;obtain⟨ad,ae,Z⟩:=k;obtain⟨aj,ak,a1⟩:=z;have ao:(L.2.2.length:Int)=n:=Z.2.2.2.2.1.trans ad;have aq:(U.2.2.length:Int)=n:=a1.2.2.2.2.1.trans aj;have X:rv one=1:=by rw[N];exact NF 1
 have aa:H3 one:=by rw[N, <-nA];exact N8 (Mx δ) δ
 refine⟨λp=>0<=p.1/\p.1<=n/\∀i:Nat,(i:Int)<p.1->A2i L U n i,λp=>(n-p.1).toNat,⟨qH _,M,λi T=>ω⟩,?_⟩;rintro⟨(t:Int),_⟩ _ r;simp only at r|-;obtain⟨A,au,r⟩:=r;refine⟨λu=>?_,λu=>?_⟩
 . have u:=qA u;have Y:E7 (gx [] L.2.2 t) n:=by have:=Z.2.2.2.2.2 _ (F6 (d:= []) A (ω:t<(L.2.2.length:Int)));rwa[ae]at this
   have ac:E7 (gx [] U.2.2 t) n:=by have:=a1.2.2.2.2.2 _ (F6 (d:= []) A (ω:t<(U.2.2.length:Int)));rwa[ak]at this
   have ab:=a7 _ (F6 (d:= []) A (ω:t<(L.2.2.length:Int)));have R:((t.toNat:Nat):Int)=t:=ω
   have a0:=A8w Y (i:=t.toNat) ω;have a2:=B9o ac (i:=t.toNat);rw[R]at a0 a2;have G:A2i L U n t.toNat↔((∀j:Nat,(j:Int)<n->t.toNat<j->A4 (gx [] L.2.2 t) (j:Int)=0)/\A4 (gx [] L.2.2 t) t=1)/\(∀j:Nat,j<t.toNat->A4 (gx [] U.2.2 t) (j:Int)=0)/\A4 (gx [] U.2.2 t) t≠0:=by
    unfold A2i el;rw[R];exact(and_assoc (a:=∀j:Nat,(j:Int)<n->t.toNat<j->A4 (L.2.2.getD t.toNat []) (j:Int)=0)).symm
   rw[<-a0, <-a2]at G;have O:¬A2i L U n t.toNat->¬O3 (P,Q,L,U) n:=λh hh=>h (V.1 hh t.toNat ω)
   have f:∀ {v:List C8},((v.length:Int)=0)↔v= []:=λ{v} =>⟨λh=>qR ω,λh=>by rw[h];rfl⟩
   have an:=Aa Y;have w:(gx [] L.2.2 t)≠ []->i64.wrap (((gx [] L.2.2 t).length:Int)-1)=((gx [] L.2.2 t).length:Int)-1:=λh=>by
    have:=uX.2 h;exact wv ω
   refine⟨⟨A,ω⟩,⟨A,ω⟩,λh=>?_,λh=>?_,λh=>?_,?_⟩
   . have h:=mt f.2 (qB h);have:=uX.2 h;rw[w h];omega
   . simp only[rE]at h;have h:=mt f.2 (qB h.1);have:=uX.2 h;rw[w h];omega
   . simp only[rE]at h;have h:=mt f.2 (qB h.1);have ap:=uX.2 h;rw[w h];exact⟨O4 (ab _ (F6 ω ω)) δ,aa⟩
   rintro⟨(c:Int),_⟩ b;simp only at b|-;refine⟨λh=>RH (O λs=>?_),λh=>⟨λg=>⟨qH _,?_⟩,λg=>RH (O λs=>?_),λg=>?_⟩⟩
   . obtain⟨⟨D,J,a6⟩,_⟩:=G.1 s;rw[w D]at b h;have B:decide (((gx [] L.2.2 t).length:Int)=0)=false:=qX (mt f.1 D);have I:decide ((gx D7 (gx [] L.2.2 t) (((gx [] L.2.2 t).length:Int)-1)).1≠t)=false:=qX (by rw[tA];exact J);rw[B,I]at b h;have b:=(b rfl).2;rw[X,a6]at b;rw[b,Vd.2 rfl]at h;simp at h
   . have:=mt f.2 (qB g);have:=uX.2 this;omega
   . obtain⟨_,D,J⟩:=G.1 s;rw[qX (mt f.1 D),qX (by rw[tA];exact J)]at g;simp at g
   simp only[rE]at h g;have B:=mt f.2 (qB h.1.1);rw[w B]at b h;have I:=tA.1 (qB h.1.2);have a3:=tA.1 (qB h.2);have b:=(b (by rw[h.1.1,h.1.2];rfl)).2;rw[a3,X]at b;have a4:=mt f.2 (qB g.1);have a5:=tA.1 (qB g.2);have s:=G.2 ⟨⟨B,I,Vd.1 b.symm⟩,a4,a5⟩;rw[wv ω];refine⟨⟨ω,ω,λi T=>?_⟩,ω⟩;by_cases a8:i=t.toNat
   . subst a8;exact s
   exact r i ω
 have u:=qB u;exact⟨λ_=>V.2 λi T=>r i ω,λ_=>trivial⟩
end Go.Proofs.YtcbjamefalhfgaaGreat
