/- Part. -/
import Derived.Shelf.SlSortCmp.NoneTotal
import Derived.Lib.QuietBelow
import Derived.Shelf.SlGeneric
import Derived.Shelf.SlicesG.Cmp
import Derived.Ground.SlsfProg
import Derived.Ground.SlgcProg
import Derived.Test.YtljgpjhcieidbaaGreatProg
import Derived.Test.YtljgpjhcieidbaaGreatKKI
set_option linter.all false
namespace Go.Proofs.YtljgpjhcieidbaaGreat
open Go.Proofs.Tryz
open Go.Vc Go.Gw
open Go.IntKind (i64)
set_option maxHeartbeats 4000000 in
def DG (x:A4 Au.args) (dp:awf Au.args x) (de:Au.pre x):Sa x:=by
 obtain⟨⟨R,C,D⟩,_⟩:=x;change Int at R C;change List (List C8)at D;have hK:K1=549755813888:=rfl;obtain⟨T,T1,df,ea,dc⟩:∃T:Nat,1<=T/\Q8 T (R,C,D)/\8*T+8<=K1/\(A7 (R,C,D)->Di R.toNat C.toNat (el (R,C,D)) T):=de;simp only[Sa,iB,K7,Mj,aG];refine⟨trivial, ?_⟩;rintro⟨eh,_⟩ _ ae;simp only at ae⊢;by_cases M:A7 (R,C,D)
 case neg=>
  rw[rC M]at ae;subst ae;exact⟨fun _=>⟨fun _=>⟨by trivial,by trivial⟩,fun h=>absurd h M⟩,fun h=>(by cases h)⟩
 rw[rE M]at ae;subst ae;refine⟨fun h=>(by cases h),fun _=> ?_⟩;have aq:=dc M;have z:Q8 K1 (R,C,D):=fun v M e c=>F8 (df v M e c) (by omega)
 obtain⟨a3,e5,ah,cl,_,_⟩:=id M;have ei:(D.length:Int)=R:=M.2.2.2.2.1;have cm:∀A∈D,F1 A C:=M.2.2.2.2.2;simp only at a3 e5 ah cl;have d8:Yb (R,C,D):=Jx dp.1.2.2.2
 let ln:Nat->Nat:=fun k=>(D.getD k []).length
 have bl:∀k:Nat,(k:Int)<R->(ln k:Int)<=C:=fun k H=>by
  have:=S3 (cm _ (D2 (l:=D) (i:=k) (d:= []) (by omega)));show((D.getD k []).length:Int)<=C;omega
 have dr:i64.wrap (C+2)=C+2:=wv (by omega);have dq:i64.wrap (C+1)=C+1:=wv (by omega);have ak:∀(i:Nat) (q:Nat->Bool),cN i q<=i:=fun i q=>fH
 simp only[dr,dq];refine⟨⟨by omega,qG _,by omega,by omega⟩,fun p=>0<=p.1/\p.1<=R/\p.2.1.length=C.toNat+2/\∀s,s<C.toNat+2->p.2.1.getD s 0=((cN p.1.toNat fun k=>decide (ln k+1=s):Nat):Int),fun p=>(R-p.1).toNat,⟨qG _,a3,by rw[rK];omega,fun s z=> ?_⟩, ?_⟩
 . show(List.replicate (C+2).toNat (0:Int)).getD s 0= _;rw[qE,uB,qJ (by omega)];rfl
 rintro⟨i,F,_⟩ _ ⟨aa,bt,V,o⟩;change Int at i;change Wf at F;simp only at aa bt V o⊢;refine⟨fun h=> ?_,fun h=> ?_⟩
 . have h:=qA h;rw[Hi aa h];have g:=bl i.toNat (by omega);have dt:i64.wrap (((D.getD i.toNat []).length:Int)+1)=((ln i.toNat:Nat):Int)+1:=wr (by show _ <=((ln i.toNat:Nat):Int)+1;omega) (by show((ln i.toNat:Nat):Int)+1<= _;omega);rw[dt,show(((ln i.toNat:Nat):Int)+1).toNat=ln i.toNat+1 from by omega,o _ (by omega)];have:=ak i.toNat fun k=>decide (ln k+1=ln i.toNat+1)
   rw[wv (a:=i+1) (by omega),wv (a:=(_:Int)+1) (by omega)];refine⟨⟨aa,h⟩,⟨by omega,by omega⟩,⟨by omega,by omega⟩,⟨by omega,by omega,by rw[qN];exact V,fun s z=> ?_⟩,by omega⟩;rw[show(i+1).toNat=i.toNat+1 from by omega];show _=((cN i.toNat _ +(if decide (ln i.toNat+1=s)=true then 1 else 0):Nat):Int);by_cases ax:s=ln i.toNat+1
   . subst ax;rw[B8 (by omega),qJ (by simp)];omega
   . rw[D7 ax,o s z,qH (by simp;omega),sU]
 have h:=qB h;have d1:i.toNat=R.toNat:=by omega
 rw[d1]at o;refine⟨fun p=>0<=p.1/\p.1<=C+1/\p.2.1.length=C.toNat+2/\∀s,s<C.toNat+2->p.2.1.getD s 0=((cN R.toNat fun k=>if s<=p.1.toNat then decide (ln k+1<=s)else decide (ln k+1=s):Nat):Int),fun p=>(C+1-p.1).toNat,⟨qG _,by omega,V,fun s z=> ?_⟩, ?_⟩
 . show F.getD s 0= _;rw[o s z];refine tA Int.ofNat (Ia fun k _=> ?_);by_cases bf:s<=(0:Int).toNat
   . rw[qJ bf];have:s=0:=by simpa using bf
     subst this;rfl
   . rw[qH bf]
 rintro⟨t,F,_⟩ _ ⟨U,b3,V,o⟩;change Int at t;change Wf at F;simp only at U b3 V o⊢;refine⟨fun h=> ?_,fun h=> ?_⟩
 . have h:=qA h;have dv:i64.wrap (t+1)=t+1:=wv (by omega);rw[dv,show(t+1).toNat=t.toNat+1 from by omega,o _ (by omega),o _ (by omega)];have c1:=ak R.toNat fun k=>if t.toNat+1<=t.toNat then decide (ln k+1<=t.toNat+1)else decide (ln k+1=t.toNat+1)
   have cs:=ak R.toNat fun k=>if t.toNat<=t.toNat then decide (ln k+1<=t.toNat)else decide (ln k+1=t.toNat)
   rw[wv (a:=(_:Int)+ _) (by omega)];refine⟨⟨by omega,by omega⟩,⟨U,by omega⟩,⟨by omega,by omega⟩,⟨by omega,by omega,by rw[qN];exact V,fun s z=> ?_⟩,by omega⟩;by_cases az:s=t.toNat+1
   . subst az;rw[B8 (by omega), <-vW];refine tA Int.ofNat (fG fun k _=> ?_).symm;rw[qJ (qT (t.toNat+1)),qH (show¬t.toNat+1<=t.toNat by omega),qJ (qT t.toNat)];simp only[rP];split<;>split<;>split<;>omega
   . rw[D7 az,o s z];refine tA Int.ofNat (Ia fun k _=> ?_);by_cases u:s<=t.toNat
     . rw[qJ u,qJ (by omega)]
     . rw[qH u,qH (by omega)]
 have h:=qB h;have o:∀s,s<C.toNat+2->F.getD s 0=((cN R.toNat fun k=>decide (ln k<s):Nat):Int):=fun s z=>by
  rw[o s z];refine tA Int.ofNat (Ia fun k _=> ?_);rw[qJ (by omega)];exact wC.2 (by omega)
 refine⟨⟨a3,qG _,by omega,by omega⟩,fun p=>0<=p.1/\p.1<=R/\p.2.1.length=C.toNat+2/\p.2.2.1.length=R.toNat/\(∀s,s<C.toNat+2->p.2.1.getD s 0=((cN R.toNat (fun k=>decide (ln k<s))+cN p.1.toNat fun k=>decide (ln k=s):Nat):Int))/\∀b,b<p.1.toNat->p.2.2.1.getD b 0=((rkN R.toNat ln b:Nat):Int),fun p=>(R-p.1).toNat,⟨qG _,a3,V,rK,fun s z=>o s z,fun b y=>by simp at y⟩, ?_⟩;rintro⟨i,F,af,_⟩ _ ⟨aa,bt,V,av,o,a2⟩;change Int at i;change Wf at F af;simp only at aa bt V av o a2⊢;refine⟨fun h=> ?_,fun h=> ?_⟩
 . have h:=qA h;rw[Hi aa h];have g:=bl i.toNat (by omega);have d6:(D.getD i.toNat []).length=ln i.toNat:=rfl;rw[d6,qV,o _ (by omega)];have c1:=ak R.toNat fun k=>decide (ln k<ln i.toNat)
   have cs:=ak i.toNat fun k=>decide (ln k=ln i.toNat)
   rw[wv (a:=i+1) (by omega),wv (a:=(_:Int)+1) (by omega)];refine⟨⟨aa,h⟩,⟨by omega,by omega⟩,⟨aa,by omega⟩,⟨by omega,by omega⟩,⟨by omega,by omega⟩,⟨by omega,by omega,by rw[qN];exact V,by rw[qN];exact av,fun s z=> ?_,fun b y=> ?_⟩,by omega⟩
   . rw[show(i+1).toNat=i.toNat+1 from by omega];show _=((_ +(cN i.toNat _ +(if decide (ln i.toNat=s)=true then 1 else 0)):Nat):Int);by_cases ax:s=ln i.toNat
     . subst ax;rw[B8 (by omega),qJ (by simp)];omega
     . rw[D7 ax,o s z,qH (by simp;omega),sU]
   . by_cases c5:b=i.toNat
     . subst c5;rw[B8 (by omega),dH (by omega)]
     . rw[D7 c5];exact a2 b (by omega)
 have h:=qB h;have a2:∀b,b<R.toNat->af.getD b 0=((rkN R.toNat ln b:Nat):Int):=fun b y=>a2 b (by omega)
 have au:∀b,b<R.toNat->ix af b=rkN R.toNat ln b:=fun b y=>by unfold ix;rw[a2 b y,qV]
 have ba:G1 af R:=by
  have:=WW av (fun a E=>by rw[au a E];exact a2 a E) (fun a E=>by rw[au a E];exact iJ E) fun a b E y a5=>A4f E y (by rw[<-au a E, <-au b y,a5])
  rwa[show((R.toNat:Nat):Int)=R from by omega]at this
 refine⟨trivial, ?_⟩;rintro⟨b2,_⟩ _ ad;simp only at ad⊢;have ad:b2=true:=by rw[ad];exact rE M
 rw[ad];refine⟨fun h=>(by cases h),fun _=>⟨⟨ah,qG _,by omega,by omega⟩, ?_⟩⟩;refine⟨fun p=>0<=p.1/\p.1<=R/\p.2.1.2= []/\p.2.1.1.length=C.toNat/\∀j,j<C.toNat->VD p.1.toNat (fun i=>el (R,C,D) i j) (p.2.1.1.getD j []),fun p=>(R-p.1).toNat,⟨qG _,a3,rfl,rK,fun j J=> ?_⟩, ?_⟩
 . have e:(List.replicate C.toNat ([]:List C8)).getD j []= []:=by
    rw[qE,uB,qJ J];rfl
   show VD _ _ ((List.replicate C.toNat ([]:List C8)).getD j []);rw[e];exact⟨Xl,fun _ h=>(by cases h),fun i G=>by simp at G⟩
 rintro⟨k,⟨rows,ac⟩,_⟩ _ ⟨b0,b1,Q,g,W⟩;change Int at k;change List (List C8)at rows;change List Nat at ac;simp only at b0 b1 Q g W⊢;subst Q;refine⟨fun H=> ?_,fun H=> ?_⟩
 . have H:=qA H;have b7:=G5 (d:=([]:List C8)) b0 H;rw[Hi b0 H]at b7⊢;have ch:=cm _ b7;have bp:=XF M z b7;have cw:∀j:Nat,A3 (D.getD k.toNat []) (j:Int)=el (R,C,D) k.toNat j:=fun j=>rfl
   generalize D.getD k.toNat []=row at*;have av:=bp.2.2;refine⟨⟨b0,H⟩,fun p=>0<=p.1/\p.1<=(row.length:Int)/\p.2.1.2= []/\p.2.1.1.length=C.toNat/\∀j,j<C.toNat->VD (k+1).toNat (fun i=>if i<k.toNat then el (R,C,D) i j else A3 (row.take p.1.toNat) (j:Int)) (p.2.1.1.getD j []),fun p=>((row.length:Int)-p.1).toNat,⟨qG _,qF _,rfl,g,fun j J=> ?_⟩, ?_⟩
   . obtain⟨a0,a6,aj⟩:=W j J;refine⟨a0,fun e c=>by have:=a6 e c;omega,fun i G=> ?_⟩;dsimp only;by_cases Y:i<k.toNat
     . rw[qJ Y];exact aj i Y
     . rw[qH Y,D1 fun e c eb=>by have:=(a6 e c).2;omega];rfl
   rintro⟨t,⟨w,ac⟩,_⟩ _ ⟨U,b3,Q,ab,of⟩;change Int at t;change List (List C8)at w;change List Nat at ac;simp only at U b3 Q ab of⊢;subst Q;refine⟨fun I=> ?_,fun I=> ?_⟩
   . have I:=qA I;have c7:=G5 (d:=D5) U I;obtain⟨c0,e8,ct⟩:=ch.2 _ c7;have dh:=bp.2.1 _ c7;have bi:=bN (d:=D5) U I;have c4:A3 (row.take t.toNat) (gx D5 row t).1=0:=by
      refine D1 fun x a5 ai=> ?_
      have f:(row.take (t+1).toNat).Pairwise (fun a b=>a.1<b.1):=bp.1.take;rw[show(t+1).toNat=t.toNat+1 from by omega,rS,H5 (d:=D5) U I,sY]at f;have:=f.2.2 x a5 (gx D5 row t) (by simp);omega
     generalize gx D5 row t=e at*;have dj:G3 e.2:=R5 dh (by decide);have A1:t<(row.length:Int):=I;have B1:e.1<(w.length:Int):=by rw[ab];omega
     have bn:=of e.1.toNat (by omega);have d7:=SO bn;have L1:((w.getD e.1.toNat []).length+ [(k,rc (rv e.2))].length)*64<=140737488355328:=by simp only[rA];omega
     have L2:(w.getD e.1.toNat []).length+ [(k,rc (rv e.2))].length<=9223372036854775807:=by simp only[rA];omega
     have du:i64.wrap (t+1)=t+1:=wv (by omega);rw[du];have I1:0<=t+1:=by omega
     have I2:t+1<=(row.length:Int):=by omega
     have I3:(w.set e.1.toNat (w.getD e.1.toNat []++ [(k,rc (rv e.2))])).length=C.toNat:=by rw[qN];exact ab
     have I4:∀j,j<C.toNat->VD (k+1).toNat (fun i=>if i<k.toNat then el (R,C,D) i j else A3 (row.take (t+1).toNat) (j:Int)) ((w.set e.1.toNat (w.getD e.1.toNat []++ [(k,rc (rv e.2))])).getD j []):=fun j J=>by
      rw[qE,yL];by_cases ai:e.1.toNat=j
      . rw[qJ ai,qJ (by omega)];subst ai;obtain⟨a0,a6,aj⟩:=bn;have am:∀x∈w.getD e.1.toNat [],x.1<k:=fun x a5=>by
         have f:=a6 x a5;have u:=(a0.2 x a5).1;rw[<-F9 a0.1 a5]at u;refine qK fun b8=>u ?_
         have ap:x.1=((k.toNat:Nat):Int):=by omega
         rw[ap,aj k.toNat (by omega)];dsimp only;rw[qH (by omega),show((e.1.toNat:Nat):Int)=e.1 from by omega];exact c4
        refine⟨Hh a0 ct am,fun x a5=> ?_,fun i G=> ?_⟩
        . rcases qZ.1 a5 with a5|a5
          . exact a6 x a5
          . rw[qX.1 a5];show 0<=k/\k< _;omega
        . show A3 (w.getD e.1.toNat []++ [(k,rc (rv e.2))]) (i:Int)= _;rw[Ev,aj i G];dsimp only;rw[bi,qJ (show e.1=((e.1.toNat:Nat):Int)by omega)];by_cases Y:i<k.toNat
          . rw[qJ Y,qJ Y,qH (by omega),rG]
          . rw[qH Y,qH Y,qJ (by omega)]
      . rw[qH ai, <-qE];refine Py (of j J) fun i _=> ?_
        rw[bi,qH (show¬e.1=(j:Int)by omega),rG]
     have M1:((row.length:Int)-(t+1)).toNat<((row.length:Int)-t).toNat:=by omega
     have dd:¬e.1.toNat∈([]:List Nat):=vO;clear bn d7 bi c4 of W ch
     repeat' first
      |exact⟨⟨c0,B1⟩,by trivial,⟨I1,I2,rfl,I3,I4⟩,M1⟩
      |exact dd
      |exact True.intro
      |exact⟨I1,I2,rfl,I3,I4⟩
      |exact⟨I1,I2,True.intro,I3,I4⟩
      |exact I1
      |exact I2
      |exact I3
      |exact I4
      |exact M1
      |rfl
      |exact⟨L1,L2⟩
      |exact⟨c0,B1⟩
      |exact⟨U,A1⟩
      |exact dj
      |apply And.intro
      | (rintro⟨q,_⟩ _ a8;simp only at a8⊢;subst a8)
   . have I:=qB I;rw[wv (by omega)];rw[H1 (l:=row) (i:=t) (by omega)]at of;refine⟨⟨by omega,by omega,rfl,ab,fun j J=>Py (of j J) fun i G=> ?_⟩,by omega⟩;by_cases Y:i<k.toNat
     . rw[qJ Y]
     . rw[qH Y,cw,show i=k.toNat from by omega]
 . have H:=qB H;rw[show k.toNat=R.toNat from by omega]at W;have cu:((R.toNat:Nat):Int)=R:=by omega
   have cf:(af.length:Int)=R:=by omega
   refine⟨fun p=>p.2.2.1.2= []/\p.1=af/\0<=p.2.1/\p.2.1<=C/\p.2.2.1.1.length=C.toNat/\(∀b,p.2.1.toNat<=b->b<C.toNat->VD R.toNat (fun i=>el (R,C,D) i b) (p.2.2.1.1.getD b []))/\∀b,b<p.2.1.toNat->O9 (p.2.2.1.1.getD b [])/\(∀e∈p.2.2.1.1.getD b [],0<=e.1/\e.1<R)/\∀i:Nat,i<R.toNat->A3 (p.2.2.1.1.getD b []) (af.getD i 0)=el (R,C,D) i b,fun p=>(C-p.2.1).toNat,⟨rfl,rfl,qG _,ah,g,fun b _ y=>W b y,fun b y=>by simp at y⟩, ?_⟩;rintro⟨ao,j,⟨w,ac⟩,_⟩ _ ⟨Q,ce,bu,dw,ab,bc,an⟩;change Wf at ao;change Int at j;change List (List C8)at w;change List Nat at ac;simp only at Q ce bu dw ab bc an⊢;subst Q;subst ce;refine⟨fun J=> ?_,fun J=> ?_⟩
   . have J:=qA J;have d4:j.toNat<C.toNat:=by omega
     have a9:=bc j.toNat (qT _) d4;have dk:DX K1 (w.getD j.toNat []):=by
      refine⟨a9.1.1,fun e c=> ?_,by have:=SO a9;omega⟩;have f:=F9 a9.1.1 c;have u:=a9.2.1 e c;have a5:=a9.2.2 e.1.toNat (by omega);rw[show((e.1.toNat:Nat):Int)=e.1 from by omega,f]at a5;rw[(a9.1.2 e c).2,a5];exact Iu (lD M d8 z (by decide) _ _)
     have cx:∀i:Int,A3 (w.getD j.toNat []) i≠0->0<=i/\i<R:=fun i G=>by
      rw[VE a9 i,cu]at G;exact qK fun b8=>G (qH b8)
     refine⟨⟨bu,by omega⟩,vO,⟨dk,by omega⟩, ?_⟩;rintro⟨ck,b,_⟩ _ bg;change List C8 at ck;simp only at bg⊢;rw[cf]at bg;obtain⟨⟨bh,b5⟩,_⟩:=bg ba cx;have b5:∀i:Int,A3 ck i=if 0<=i/\i<R then A3 (w.getD j.toNat []) ((List.idxOf i ao:Nat):Int)else 0:=b5
     rw[wv (by omega)];refine⟨⟨bu,by omega⟩,by trivial,⟨by trivial,by trivial,by omega,by omega,by rw[qN];exact ab,fun b y cv=> ?_,fun b y=> ?_⟩,by omega⟩
     . rw[D7 (by omega)];exact bc b (by omega) cv
     . by_cases c6:b=j.toNat
       . subst c6;rw[B8 (by omega)];refine⟨bh,fun e c=> ?_,fun i G=> ?_⟩
         . have f:=F9 bh.1 c;rw[b5]at f;exact qK fun b8=>(bh.2 e c).1 (by rw[<-f,qH b8])
         . have am:=iJ (ln:=ln) G;have d2:((List.idxOf (ao.getD i 0) ao:Nat):Int)=(i:Int):=((SU (by rw[cf];exact ba) (a:=(i:Int)) (i:=ao.getD i 0) (by omega) (by omega) (by rw[a2 i G];omega) (by rw[a2 i G];omega)).1 (by rw[qV])).symm;rw[b5,qJ (by rw[a2 i G];omega),d2];exact a9.2.2 i G
       . rw[D7 c6];exact an b (by omega)
   . have J:=qB J;have ay:spF (R,C,D) w:=⟨ao,ba,ab,fun b y=>an b (by omega)⟩;have b6:∀b,b<C.toNat->O9 (w.getD b [])/\∀e∈w.getD b [],0<=e.1/\e.1<R:=fun b y=>⟨(an b (by omega)).1,(an b (by omega)).2.1⟩
     clear bc an J g W o a2 au ba V av bl ak;refine⟨fun q=>0<=q.1/\q.1<=C/\q.2.2.1.1=w/\(∀a∈q.2.2.1.2,a<q.1.toNat)/\(∀k A,F5 (.int .i64) k q.2.1=some A->k<R)/\∃P,∀T:Nat,1<=T->Di R.toNat C.toNat (el (R,C,D)) T->Xc (Ju R w) (R+C) T q.1.toNat (fun k=>F5 (.int .i64) k q.2.1) P,fun q=>(C-q.1).toNat,⟨qG _,ah,rfl,fun a h=>(by cases h),fun k A h=>(by cases h),[],fun T _ _=>Xc.start⟩, ?_⟩;rintro⟨B,O,⟨be,ac⟩,_⟩ _ ⟨bz,c1,cb,Q,bm,P,ar⟩;change Int at B;change List (Int×List C8)at O;change List (List C8)at be;change List Nat at ac;simp only at bz c1 cb Q bm ar⊢;subst cb;refine⟨fun o=> ?_,fun o=> ?_⟩
     . have o:=qA o;have N:B.toNat<C.toNat:=by omega
       refine⟨⟨bz,o⟩,fun a7=>absurd (Q _ a7) (tR _),trivial, ?_⟩;rintro⟨one,_⟩ _ b9;simp only at b9⊢;have b9:one=rc 1:=b9.trans (Yo 1);subst b9;have ds:i64.wrap (R+B)=R+((B.toNat:Nat):Int):=by rw[wv (by omega)];omega
       rw[ds];have ec:=S3 (v:=be.getD B.toNat []) (n:=R) ⟨(b6 _ N).1.1,fun e c=>⟨((b6 _ N).2 e c).1,((b6 _ N).2 e c).2,((b6 _ N).1.2 e c).1⟩⟩;refine⟨⟨by simp only[rA];omega,by simp only[rA];omega⟩, ?_⟩;refine⟨fun v=>(∀T:Nat,1<=T->Di R.toNat C.toNat (el (R,C,D)) T->HS (Ju R be) (R+C) T B.toNat (fun k=>F5 (.int .i64) k O) v.1)/\v.1≠ []/\F5 (.int .i64) (Eg v.1) O=none,⟨fun v=>∀T:Nat,1<=T->Di R.toNat C.toNat (el (R,C,D)) T->HS (Ju R be) (R+C) T B.toNat (fun k=>F5 (.int .i64) k O) v.1,fun v=>B6g (R+C) v.1,fun T f u=>A5q ay a3 ah f u N _, ?_⟩, ?_⟩
       . rintro⟨v,_⟩ _ a1;change List C8 at v;simp only at a1⊢;have r:=a1 T T1 aq;refine⟨fun g=> ?_,fun g=> ?_⟩
         . have g:=qA g;have a4:v≠ []:=fun e=>by rw[e]at g;simp at g
           obtain⟨a0,a6,aj,bw,bx⟩:=Dj r.can a4;have ae:0<=Eg v/\Eg v<R+C:=r.rng _ a0;show(0<=0/\ _)/\((!(F5 (.int .i64) (Eg v) O).isSome)=true-> _)/\((!(F5 (.int .i64) (Eg v) O).isSome)=false-> _);refine⟨⟨qG _,g⟩,fun h=>⟨a1,a4, ?_⟩,fun h=> ?_⟩
           . cases a7:F5 (.int .i64) (Eg v) O with
             |none=>rfl
             |some A=>rw[a7]at h;cases h
           . cases a7:F5 (.int .i64) (Eg v) O with
             |none=>rw[a7]at h;cases h
             |some A=>
              have db:F5 (.int .i64) (v.getD (Int.toNat 0) D5).1 O=some A:=a7;rw[db];simp only[vJ];obtain⟨b0,b1,ai,cn,ej,co,bv,ek⟩:=(ar T T1 aq).key _ _ a7;obtain⟨cp,cq,cr,e6,e7⟩:=Dj ai cn;have c3:1<=T+T:=by omega
              have e2:=r.sz _ a0;have e3:=bv _ cp;have e0:qs (T+T) (rv (gx D5 v 0).2):=by rw[<-a6];exact cqs c3 r.can r.sz _
              have e1:qs (T+T) (rv (gx D5 A 0).2):=by rw[<-cq];exact cqs c3 ai bv _
              have cj:=Tx e0 e1;have d9:v.length<=100000:=by
               have:=S3 (v:=v) (n:=R+C) ⟨r.can.1,fun e c=>⟨(r.rng e c).1,(r.rng e c).2,(r.can.2 e c).1⟩⟩;omega
              have da:A.length<=100000:=by
               have:=S3 (v:=A) (n:=R+C) ⟨ai.1,fun e c=>⟨(co e c).1,(co e c).2,(ai.2 e c).1⟩⟩;omega
              refine(fun z=>⟨⟨qG _,g⟩,⟨qG _,by have:=tO.2 cn;omega⟩,z,z⟩) ?_;refine⟨⟨R5 e2 (by omega),R5 e3 (by omega)⟩, ?_⟩;rintro⟨e9,b,_⟩ _ ⟨_,W⟩;simp only at W⊢;obtain⟨W,_⟩:=W cr;rw[W];refine⟨O1 cj (by omega), ?_⟩;rintro⟨ap,_⟩ _ bj;simp only at bj⊢;have di:sz K1 ap:=by rw[bj,H8];exact Iu (G9 (NL cj) (by omega))
              have cz:rv ap= -(rv (gx D5 v 0).2/rv (gx D5 A 0).2):=by rw[bj,H8,H8];rfl
              refine⟨.inl r.can.1, ?_⟩;rintro⟨ef,_⟩ _ ⟨cc,_⟩;simp only at cc⊢;rw[cc r.can.1];refine⟨.inl ai.1, ?_⟩;rintro⟨eg,_⟩ _ ⟨cd,_⟩;simp only at cd⊢;rw[cd ai.1];refine⟨fun a5=>sz K1 a5.1/\sz K1 a5.2.1,fun a5=>rc (rv a5.1+rv ap*rv a5.2.1), ?_,⟨d9,da,fun ag e4 Z bq=>⟨XE (k:=K1) (fun e c=>F8 (r.sz e c) (by omega)) Z,XE (k:=K1) (fun e c=>F8 (bv e c) (by omega)) bq⟩⟩, ?_⟩
              . rintro⟨ag,e4,_⟩ _ ⟨Z,bq⟩;exact⟨⟨Z,bq,di⟩,fun em _ bs=>⟨by trivial,bs⟩⟩
              rintro⟨b2,_⟩ _ ad;change List C8 at b2;simp only at ad⊢;obtain⟨dy,_,dz⟩:=Yc (fun a5=>rc (rv a5.1+rv ap*rv a5.2.1)) (fun p q=>p+rv ap*q) (by rw[sE,rG]) _ _ (fun _ _ _ _=>rfl) r.can.1 ai.1;have d3:HP (fun i=>A3 v i+ -(rv (gx D5 v 0).2/rv (gx D5 A 0).2)*A3 A i) b2:=by rw[ad, <-cz];exact⟨dy,dz⟩
              have az:=fun T' f u=>(a1 T' f u).step (B4v ay a3 ah f u) f N (ar T' f u) a4 a7 d3
              refine⟨fun T' f u=>(az T' f u).1, ?_⟩;have d0:=(az T T1 aq).2;unfold B6g;rw[qH a4];by_cases bo:b2= []
              . rw[qJ bo];omega
              . rw[qH bo];have:=d0 bo;omega
         . have g:=qB g;have dn:v= []:=qO (by omega);subst dn;have f:=(cD ay a3 N r.sp fun i _=>rfl).2.1;exact absurd (show(0:Rat)=1 from f) (by decide+kernel)
       . rintro⟨v,_⟩ _ ⟨a1,a4,ca⟩;change List C8 at v;simp only at a1 a4 ca⊢;have r:=a1 T T1 aq;obtain⟨a0,a6,aj,bw,bx⟩:=Dj r.can a4;have ae:0<=Eg v/\Eg v<R+C:=r.rng _ a0;have g:0<(v.length:Int):=by have:=tO.2 a4;omega
         refine⟨⟨qG _,g⟩,fun am=> ?_,fun c8=> ?_⟩
         . have am:Eg v<R:=qA am;rw[wv (by omega)];refine⟨⟨qG _,g⟩,⟨by omega,by omega,by trivial,fun a E=> ?_,fun k A H=> ?_,P++ [((B.toNat:Nat):Int)],fun T' f u=> ?_⟩,by omega⟩
           . rcases qS.1 E with E|E
             . omega
             . have:=Q a E;omega
           . have H:F5 (.int .i64) k (Df (.int .i64) (Eg v) v O)=some A:=H;rw[Qb]at H;split at H
             . rename_i d5;rw[d5];exact am
             . exact bm k A H
           . have:=(ar T' f u).add (a1 T' f u) a4 ca (G':=fun k=>F5 (.int .i64) k (Df (.int .i64) (Eg v) v O)) fun i=>Qb (Eg v) i v O
             rw[show(B+1).toNat=B.toNat+1 from by omega];exact this
         . have c8:¬Eg v<R:=qB c8;have bs:∀i:Int,i<R->A3 v i=0:=fun i G=>bw i (by omega)
           obtain⟨b1,ci,dx⟩:=cD ay a3 N r.sp bs;have aw:∀e∈v,R<=e.1/\e.1<R+C:=fun e c=>⟨by have:=bx e c;omega,(r.rng e c).2⟩
           have ee:=S3 (iL r.can aw);have cg:(shK R v).length=v.length:=sS _;refine⟨fun q=>0<=q.1/\q.1<=(v.length:Int)/\q.2.1=(shK R v).take q.1.toNat++v.drop q.1.toNat,fun q=>((v.length:Int)-q.1).toNat,⟨qG _,qF _,by simp⟩, ?_⟩;rintro⟨t,ag,_⟩ _ ⟨U,b3,Z⟩;change Int at t;change List C8 at ag;simp only at U b3 Z⊢;have ed:ag.length=v.length:=by rw[Z,rR,qU,sQ,cg];omega
           refine⟨fun I=> ?_,fun I=> ?_⟩
           . have I:=qA I;have bb:t.toNat<v.length:=by omega
             have dm:ag.getD t.toNat D5=v[t.toNat]:=by
              rw[Z,qE,tF (by rw[qU];omega),qU,wM,show t.toNat+(t.toNat-min t.toNat (shK R v).length)=t.toNat from by omega,qP bb];rfl
             have b7:=aw _ (vN bb);rw[dm,wv (a:=t+1) (by omega),wv (a:= _-R) (by omega)];refine⟨⟨U,by omega⟩,⟨U,by omega⟩,⟨by omega,by omega, ?_⟩,by omega⟩;show ag.set t.toNat (v[t.toNat].1-R,v[t.toNat].2)= _;rw[Z,show(t+1).toNat=t.toNat+1 from by omega,zX _ _ (by rw[qU];omega),qU,show t.toNat-min t.toNat (shK R v).length=0 from by omega,wJ bb,List.set_cons_zero,rS,uJ];congr 1;have:(shK R v)[t.toNat]? =some (v[t.toNat].1-R,v[t.toNat].2):=by
              unfold shK;rw[uV,qP bb];rfl
             rw[this];rfl
           . have I:=qB I;have Z:ag=shK R v:=by
              rw[Z,show t.toNat=v.length from by omega,List.drop_length,vX, <-cg,uS]
             subst Z;refine⟨⟨⟨(iL r.can aw).1,C0m fun e c=>F8 (r.sz e c) (by omega),by omega⟩,iL r.can aw,ah,cl⟩, ?_⟩;rintro⟨X,b,_⟩ _ ⟨b4,_⟩;change List C6 at X;simp only at b4⊢;have bk:∀l:Nat,l<C.toNat->X.getD l zr=rc (A3 v (R+(l:Int))):=fun l g=>by
              rw[b4,SJ _ (by omega),nZ]
             have c9:∀q∈X,∃l:Nat,l<C.toNat/\q=rc (A3 v (R+(l:Int))):=fun q a8=>by
              obtain⟨l,g,rfl⟩:=X4 zr a8;have a5:l<C.toNat:=by rw[b4,MF]at g;exact g
              exact⟨l,a5,bk l a5⟩
             have cy:Pw R.toNat C.toNat (el (R,C,D)) B.toNat:=⟨fun l=>A3 v (R+(l:Int)),b1,by show A3 v (R+((B.toNat:Nat):Int))≠0;rw[ci];decide+kernel,fun l g=>by
              rcases sD l C.toNat with f|f
              . exact dx l g f
              . exact D1 fun e c a5=>by have:=(aw e c).2;omega⟩
             refine⟨fun h=>absurd M h,fun _=>⟨fun h=>absurd cy (h B.toNat N),fun _=>⟨rfl,by rw[b4,MF],fun q a8=> ?_,⟨B.toNat,N, ?_⟩,fun a E=> ?_,fun T' f u q a8=> ?_⟩⟩⟩
             . obtain⟨l,_,rfl⟩:=c9 q a8;rw[H8]
             . rw[bk _ N,H8,ci];decide+kernel
             . rw[<-b1 a E];exact B6 fun l g=>by
                show el (R,C,D) a l*rv (X.getD l zr)=el (R,C,D) a l*A3 v (R+(l:Int));rw[bk l g,H8]
             . obtain⟨l,_,rfl⟩:=c9 q a8;exact Iu (cqs (by omega) (a1 T' f u).can (a1 T' f u).sz _)
     . have o:=qB o;have N:B.toNat=C.toNat:=by omega
       refine⟨fun h=>absurd M h,fun _=>⟨fun _=>⟨rfl,rfl⟩,fun⟨b,y,hd⟩=>absurd hd ?_⟩⟩;have c2:=ar T T1 aq;rw[N]at c2;exact B0t ay a3 c2 bm y
def QG:An:= {}
def Vx:An:= {join:= [(15,⟨[21,22,23],[2],[],[],[]⟩)],loop:= [(3,⟨[21,22],[2],[(23,false,vI)],[],[]⟩)],plan:= [(2,[],[3,5,6],false,(.p 1 (.p 2 (.p 4 (.p 7 (.p 11 (.or 0 (.e 3 (.e 5 (.e 6 (.e 8 (.e 9 (.p 10 .done)))))) (.e 3 (.or 0 (.e 5 (.e 6 (.e 8 (.e 9 (.p 10 .done))))) (.e 5 (.or 0 (.e 6 (.e 8 (.e 9 (.p 10 .done)))) (.e 6 (.or 0 (.e 8 (.e 9 (.p 10 .done))) (.e 8 (.e 0 (.e 9 (.p 10 .done))))))))))))))))),(10,[0,3],[],true,(.q 0 (.p 2 (.q 3 (.e 1 (.p 4 (.p 5 .done)))))))]}
def Vj:A4 Cj.args->Prop:=fun(x:MM×List QQ×Unit)=>let f:=(0:Int);let e:=(1:Nat);let d:=x.2.1.length;(∃(A:Nat),∃(T:Nat),∃(c:Nat),e<=A/\e<=T/\Q8 A x.1/\Mq T x.2.1/\x.1.2.1<=(↑c:Int)/\(A+T+e)*(c+e)<=(2199023255552:Nat)/\A<=K1)/\∀(r:iS),let b:Prop:=(r.2.1=f);jM r.1/\O4 r.2.1/\True->(¬A7 x.1->r.1= []/\r.2.1=1)/\(A7 x.1->((↑d:Int)≠x.1.2.1->r.1= []/\r.2.1=4)/\((↑d:Int)=x.1.2.1->r.1=List.map (fun(i:Nat)=>rc (C0 d fun(j:Nat)=>el x.1 i j*rv (List.getD x.2.1 j zr))) (List.range x.1.1.toNat)/\r.2.1=f))->(decide b=true->List.length x.2.1<=100000/\Mq K1 x.2.1)/\∀(g:Gj),let a:=(decide (f<(g.1.length:Int)));(decide b=true->(Mk g.1/\True)/\VD d (fun(j:Nat)=>rv (List.getD x.2.1 j zr)) g.1)->(I5 (decide b) a false=true->List.length r.1<=100000/\Mq K1 r.1)/\∀(h:Gj),(I5 (decide b) a false=true->(Mk h.1/\True)/\VD r.1.length (fun(j:Nat)=>rv (List.getD r.1 j zr)) h.1)->(I5 (I5 (decide b) a false) (decide ((h.1.length:Int)=f)) false=true↔A7 x.1/\(↑x.2.1.length:Int)=x.1.2.1/\(∃(j:Nat),j<x.2.1.length/\rv (x.2.1.getD j zr)≠(0:Rat))/\ker x.1.1.toNat x.2.1.length (el x.1) fun(j:Nat)=>rv (x.2.1.getD j zr))
def Hb:A4 E3.args->Prop:=fun(x:MM×Wf×Unit)=>let Q:=(8:Nat);let P:=(1:Int);let D:=(1:Nat);let z:=(7:Int);let y:=(20:Int);let n:=(0:Int);let g:Prop:=(P<=(5:Int)/\(5:Int)<=y);True/\∀(r:Wr),let u:=(r.1.1.length:Int);let h:Prop:=(n<z/\n<=r.1.2/\r.1.2<=u);let a:(U5)->(U5)->Prop:=(fun R S=>let B:=(↑[x.1,R.1,S.1].length:Int);WfM S.1/\True->sqG (5:Int) S.1->∃(I:D6->Prop),∃(d: _->Nat),I (n,())/\∀(p:D6),let C:=(i64.wrap (p.1+P),());let q:=p.1.toNat;let w:=(([x.1,R.1,S.1].getD q (n,n,[])).2.1.toNat);let t:=(([x.1,R.1,S.1].getD q (n,n,[])).1.toNat);let k:Prop:=(p.1<B);(Ty.int i64).wf p.1/\True->I p->(iB (decide k) (∃(J:Unit->Prop),((n<=p.1/\p.1<B)/\True/\Mj fun b=>b.1=decide (List.length ([x.1,R.1,S.1].getD q (n,n,[])).2.2<=(12:Nat)/\([x.1,R.1,S.1].getD q (n,n,[])).2.1<=(12:Int)/\∀(v:List EE),v∈([x.1,R.1,S.1].getD q (n,n,[])).2.2->v.length<=(30:Nat))->(iB ((!b.1)) (J ()) ((∃(T:Nat),D<=T/\Q8 T ([x.1,R.1,S.1].getD q (n,n,[]))/\Q*T+Q<=K1/\(A7 ([x.1,R.1,S.1].getD q (n,n,[]))->Di t w (el ([x.1,R.1,S.1].getD q (n,n,[]))) T))/\∀(U:iS),let O:=(decide (U.2.1≠y));let M:Prop:=(U.2.1≠n);let F:=(decide (U.2.1≠P));let E:=U.1.length;let s:=(decide M);let m:Prop:=(∀(e:QQ),e∈U.1->G3 e);let f:Prop:=((↑E:Int)≠n);let N:=(decide f);jM U.1/\O4 U.2.1/\True->(¬A7 ([x.1,R.1,S.1].getD q (n,n,[]))->U.1= []/\U.2.1=P)/\(A7 ([x.1,R.1,S.1].getD q (n,n,[]))->A5y ([x.1,R.1,S.1].getD q (n,n,[])) U.1 U.2.1)->Q8 K1 ([x.1,R.1,S.1].getD q (n,n,[]))/\Mj fun b=>b.1=decide (A7 ([x.1,R.1,S.1].getD q (n,n,[])))->(iB ((!b.1)) ((iB (I5 F true N) (false=true) (J ()))) ((Q8 K1 ([x.1,R.1,S.1].getD q (n,n,[]))/\A7 ([x.1,R.1,S.1].getD q (n,n,[]))/\∃(T:Nat),D<=T/\Q*T+Q<=K1/\Di t w (el ([x.1,R.1,S.1].getD q (n,n,[]))) T)/\∀(r:D6),let i:Prop:=(r.1=([x.1,R.1,S.1].getD q (n,n,[])).2.1);O4 r.1/\True->(∃(l:Wf),MP ([x.1,R.1,S.1].getD q (n,n,[])) l/\r.1=(↑l.length:Int))->(iB (decide i) ((iB (I5 O true N) (false=true) (J ()))) ((decide M=false->∃(A:Nat),∃(T:Nat),∃(c:Nat),D<=A/\D<=T/\Q8 A ([x.1,R.1,S.1].getD q (n,n,[]))/\Mq T U.1/\([x.1,R.1,S.1].getD q (n,n,[])).2.1<=(↑c:Int)/\(A+T+D)*(c+D)<=K1/\A<=K1/\T<=K1/\List.length U.1<=100000)/\∀(r:Aj),(decide M=false->(True/\True)/\(r.1=true↔A7 ([x.1,R.1,S.1].getD q (n,n,[]))/\(↑E:Int)=([x.1,R.1,S.1].getD q (n,n,[])).2.1/\(∃(j:Nat),j<List.length U.1/\rv (List.getD U.1 j zr)≠(0:Rat))/\ker t E (el ([x.1,R.1,S.1].getD q (n,n,[]))) fun(j:Nat)=>rv (List.getD U.1 j zr)))->((I5 s true !r.1)=false->m/\List.length U.1<=100000)/\∀(Z:List QQ×Unit),((I5 s true !r.1)=false->(jM Z.1/\True)/\Z.1=List.map (fun(e:C6)=>rc (rv e)) U.1)->((I5 s true !r.1)=false->m/\∀(e:QQ),e∈Z.1->G3 e)/\∀(b:Aj),((I5 s true !r.1)=false->(True/\True)/\b.1=decide (U.1=Z.1/\∀(e:QQ),e∈U.1->e=rc (rv e)))->(iB ((I5 (I5 s true !r.1) true !b.1)) (false=true) (J ())))))))))/\∀(c:Unit),True->J c->I C/\d C<d p) (True/\Mj fun r=>r.1=true->r.1=true)));let b:(Wr)->(D6)->(D6)->Prop:=(fun V W X=>let G:=(V.1.1.length:Int);(n<=W.1/\W.1<=y/\n<=X.1/\X.1<=y/\n<=V.1.2/\V.1.2<=G)/\∀(R:U5) (Y:Wr),WfM R.1/\True->((Ty.int i64).sl.pair (Ty.int i64)).wf Y.1/\True->A5r W.1.toNat X.1.toNat R.1->Y.1.1=V.1.1/\n<=Y.1.2/\Y.1.2<=G->g/\∀(S:U5),a R S);let d:(Wr)->(D6)->Prop:=(fun o W=>let K:=(o.1.1.length:Int);(n<z/\n<=o.1.2/\o.1.2<=K)/\∀(X:D6) (V:Wr),O4 X.1/\True->((Ty.int i64).sl.pair (Ty.int i64)).wf V.1/\True->n<=X.1/\X.1<z->V.1.1=o.1.1/\n<=V.1.2/\V.1.2<=K->b V W X);(PW r.1.1/\O4 r.1.2)/\True->r.1=(x.2.1,n)->(h/\∀(W:D6) (o:Wr),O4 W.1/\True->((Ty.int i64).sl.pair (Ty.int i64)).wf o.1/\True->n<=W.1/\W.1<z->o.1.1=r.1.1/\n<=o.1.2/\o.1.2<=u->d o W)/\h/\∀(W:D6) (o:Wr),let L:=(o.1.1.length:Int);O4 W.1/\True->((Ty.int i64).sl.pair (Ty.int i64)).wf o.1/\True->n<=W.1/\W.1<z->o.1.1=r.1.1/\n<=o.1.2/\o.1.2<=u->(d o W)/\(n<z/\n<=o.1.2/\o.1.2<=L)/\∀(X:D6) (V:Wr),let H:=(V.1.1.length:Int);O4 X.1/\True->((Ty.int i64).sl.pair (Ty.int i64)).wf V.1/\True->n<=X.1/\X.1<z->V.1.1=o.1.1/\n<=V.1.2/\V.1.2<=L->(b V W X)/\(n<=W.1/\W.1<=y/\n<=X.1/\X.1<=y/\n<=V.1.2/\V.1.2<=H)/\∀(R:U5) (Y:Wr),WfM R.1/\True->((Ty.int i64).sl.pair (Ty.int i64)).wf Y.1/\True->A5r W.1.toNat X.1.toNat R.1->Y.1.1=V.1.1/\n<=Y.1.2/\Y.1.2<=H->(g/\∀(S:U5),a R S)/\g/\∀(S:U5),a R S
def B5e {n:Nat} {Q:Nat->Prop} {l:Wf} (f:l.Pairwise (· < ·)) (d:∀b:Int,b∈l↔0<=b/\b<(n:Int)/\Q b.toNat):l.length=n↔∀b,b<n->Q b:=by
 have s:((List.range n).map Int.ofNat).Pairwise (· < ·):=wD.2 (List.pairwise_lt_range.imp fun h=>uA.2 h);have g:∀b:Int,b∈(List.range n).map Int.ofNat↔0<=b/\b<(n:Int):=fun b=>⟨fun h=>by
  obtain⟨r,j,rfl⟩:=sW.1 h;have:=xX.1 j;exact⟨qF _,by show((r:Nat):Int)<n;omega⟩,fun h=>sW.2 ⟨b.toNat,xX.2 (by omega),by show((b.toNat:Nat):Int)=b;omega⟩⟩
 have i:((List.range n).map Int.ofNat).length=n:=by simp
 constructor
 . intro u b t;have k:(b:Int)∈l:=qK fun hn=>by
    have:=A0r (a:=(b:Int)::l) (b:=(List.range n).map Int.ofNat) (sI.2 ⟨hn,f.imp fun h=>Int.ne_of_lt h⟩) fun c hc=>(g c).2 (by
     rcases qS.1 hc with e|e
     . subst e;omega
     . exact⟨((d c).1 e).1,((d c).1 e).2.1⟩)
    rw[i,rF]at this;omega
   exact((d _).1 k).2.2
 . intro o;have:l=(List.range n).map Int.ofNat:=UB f s fun b=>by
    rw[d b,g b];exact⟨fun h=>⟨h.1,h.2.1⟩,fun h=>⟨h.1,h.2,o _ (by omega)⟩⟩
   rw[this,i]
def A3m {n:Nat} {f:Nat->Rat} {d:List C8} (h:VD n f d):0<d.length↔∃j,j<n/\f j≠0:=by
 constructor
 . intro b;have a:=vN b;obtain⟨b,c⟩:=h.2.1 _ a;refine⟨d[0].1.toNat,by omega, ?_⟩;rw[<-h.2.2 _ (by omega),show((d[0].1.toNat:Nat):Int)=d[0].1 from by omega,F9 h.1.1 a];exact(h.1.2 _ a).1
 . rintro⟨j,b,a⟩;refine tO.2 fun e=>a ?_
   rw[<-h.2.2 j b,e];rfl
def HE (x:A4 Cj.args) (I:awf Cj.args x) (Y:Cj.pre x):Vj x:=by
 obtain⟨⟨R,C,D⟩,X,_⟩:=x;have V:Yb (R,C,D):=Jx I.1.2.2.2;have W:∀q∈X,Qa q:=fun q d=>Mz (I.2.1.2 q d)
 change Int at R C;change List (List C8)at D;change List C6 at X;have a2:K1=549755813888:=rfl;obtain⟨A,T,f,z,B,H,r,P,hK,O,U,Q⟩:∃A T f:Nat,1<=A/\1<=T/\Q8 A (R,C,D)/\Mq T X/\C<=(f:Int)/\(A+T+1)*(f+1)<=K1/\A<=K1/\T<=K1/\X.length<=100000:=Y;simp only[Vj];refine⟨⟨A,T,f,z,B,H,r,P,by omega,O⟩, ?_⟩;rintro⟨y,e,_⟩ _ ⟨w,i⟩;change List C6 at y;change Int at e;simp only at w i⊢;refine⟨fun _=>⟨Q,fun q d=>F8 (r q d) U⟩, ?_⟩;rintro⟨v,_⟩ j;change List C8 at v;simp only[H0]at j⊢;by_cases l:e=0
 case neg=>
  rw[rC l];simp only[yO];exact⟨fun h=>(by cases h),fun _ _=>⟨fun h=>(by cases h),fun h=>absurd ((i h.1).2 h.2.1).2 l⟩⟩
 have c:A7 (R,C,D):=qK fun c=>by have:=(w c).2;omega
 have o:(X.length:Int)=C:=qK fun o=>by have:=((i c).1 o).2;omega
 obtain⟨s,_⟩:=(i c).2 o;have j:=(j (rE l)).2;have a3:R<=16384:=c.2.1;have Z:y.length=R.toNat:=by rw[s];simp
 have J:∀a,a<R.toNat->y.getD a zr=rc (C0 X.length fun u=>el (R,C,D) a u*rv (X.getD u zr)):=fun a b=>by
  rw[s,qE,uV,wG b];rfl
 have a0:Mq K1 y:=fun q d=>by
  rw[s]at d;obtain⟨a,_,rfl⟩:=sW.1 d;refine Iu (G9 (A4j (k:=A+T) fun u n=>Ot (lD c V H z _ _) (Gy (W _ (D2 n)) (r _ (D2 n)) B)) ?_);have N:=rW (A+T+1) (show X.length+1<=f+1 by omega);rw[g4g,sL]at N;omega
 rw[rE l];simp only[wQ];refine⟨fun _=>⟨by omega,a0⟩, ?_⟩;rintro⟨M,_⟩ g;change List C8 at M;simp only at g⊢;have G:=A3m j;by_cases t:0<(v.length:Int)
 . have g:=A3m (g (rE t)).2;rw[rE t,wQ,rP];refine⟨fun a1=>⟨c,o,G.1 (by omega),fun a b=>qK fun E=> ?_⟩,fun⟨_,_,_,hk⟩=>qK fun E=> ?_⟩
   . have:=g.2 ⟨a,by omega,by rw[J a b,H8];exact E⟩;omega
   . obtain⟨a,b,F⟩:=g.1 (by omega);rw[Z]at b;rw[J a b,H8]at F;exact F (hk a b)
 . rw[rC t,yO];exact⟨fun h=>(by cases h),fun⟨_,_,n,_⟩=>absurd (G.2 n) (by omega)⟩
abbrev eL (l:List N0) (i:Int):N0:=l.getD (Int.toNat i) (0,0,[])
def B9p (b:List N0):Prop:=∃(I:Int×Unit->Prop),∃(g:Int×Unit->Nat),I ((0:Int),())/\∀(p:Int×Unit),(Ty.int i64).wf p.1/\True->I p->(decide (p.1<(b.length:Int))=true->∃(J:Unit->Prop),(((0:Int)<=p.1/\p.1<(b.length:Int))/\True/\∀(c:Bool×Unit),True/\True->c.1=decide (List.length (eL b p.1).2.2<=(12:Nat)/\(eL b p.1).2.1<=(12:Int)/\∀(v:List EE),v∈(eL b p.1).2.2->v.length<=(30:Nat))->((!c.1)=true->J ())/\((!c.1)=false->(∃(T:Nat),(1:Nat)<=T/\Q8 T (eL b p.1)/\(8:Nat)*T+(8:Nat)<=K1/\(A7 (eL b p.1)->Di (Int.toNat (eL b p.1).1) (Int.toNat (eL b p.1).2.1) (el (eL b p.1)) T))/\∀(a:List QQ×Int×Unit),jM a.1/\O4 a.2.1/\True->(¬A7 (eL b p.1)->a.1= []/\a.2.1=(1:Int))/\(A7 (eL b p.1)->A5y (eL b p.1) a.1 a.2.1)->Q8 K1 (eL b p.1)/\∀(d:Bool×Unit),True/\True->d.1=decide (A7 (eL b p.1))->((!d.1)=true->(I5 (decide (a.2.1≠(1:Int))) true (decide ((List.length a.1:Int)≠(0:Int)))=true->false=true)/\(I5 (decide (a.2.1≠(1:Int))) true (decide ((List.length a.1:Int)≠(0:Int)))=false->J ()))/\((!d.1)=false->(Q8 K1 (eL b p.1)/\A7 (eL b p.1)/\∃(T:Nat),(1:Nat)<=T/\(8:Nat)*T+(8:Nat)<=K1/\Di (Int.toNat (eL b p.1).1) (Int.toNat (eL b p.1).2.1) (el (eL b p.1)) T)/\∀(r:Int×Unit),O4 r.1/\True->(∃(l:Wf),MP (eL b p.1) l/\r.1=(↑l.length:Int))->(decide (r.1=(eL b p.1).2.1)=true->(I5 (decide (a.2.1≠(20:Int))) true (decide ((List.length a.1:Int)≠(0:Int)))=true->false=true)/\(I5 (decide (a.2.1≠(20:Int))) true (decide ((List.length a.1:Int)≠(0:Int)))=false->J ()))/\(decide (r.1=(eL b p.1).2.1)=false->(decide (a.2.1≠(0:Int))=false->∃(A:Nat),∃(T:Nat),∃(f:Nat),(1:Nat)<=A/\(1:Nat)<=T/\Q8 A (eL b p.1)/\Mq T a.1/\(eL b p.1).2.1<=(↑f:Int)/\(A+T+(1:Nat))*(f+(1:Nat))<=K1/\A<=K1/\T<=K1/\List.length a.1<=(100000:Nat))/\∀(r:Bool×Unit),(decide (a.2.1≠(0:Int))=false->(True/\True)/\(r.1=true↔A7 (eL b p.1)/\(List.length a.1:Int)=(eL b p.1).2.1/\(∃(j:Nat),j<List.length a.1/\rv (List.getD a.1 j zr)≠(0:Rat))/\ker (Int.toNat (eL b p.1).1) (List.length a.1) (el (eL b p.1)) fun(j:Nat)=>rv (List.getD a.1 j zr)))->((I5 (decide (a.2.1≠(0:Int))) true !r.1)=false->(∀(e:QQ),e∈a.1->G3 e)/\List.length a.1<=(100000:Nat))/\∀(c:List QQ×Unit),((I5 (decide (a.2.1≠(0:Int))) true !r.1)=false->(jM c.1/\True)/\c.1=List.map (fun(e:C6)=>rc (rv e)) a.1)->((I5 (decide (a.2.1≠(0:Int))) true !r.1)=false->(∀(e:QQ),e∈a.1->G3 e)/\∀(e:QQ),e∈c.1->G3 e)/\∀(d:Bool×Unit),((I5 (decide (a.2.1≠(0:Int))) true !r.1)=false->(True/\True)/\d.1=decide (a.1=c.1/\∀(e:QQ),e∈a.1->e=rc (rv e)))->((I5 (I5 (decide (a.2.1≠(0:Int))) true !r.1) true !d.1)=true->false=true)/\((I5 (I5 (decide (a.2.1≠(0:Int))) true !r.1) true !d.1)=false->J ())))))/\∀(f:Unit),True->J f->I (i64.wrap (p.1+(1:Int)),())/\g (i64.wrap (p.1+(1:Int)),())<g p)/\(decide (p.1<(b.length:Int))=false->True/\∀(r:Bool×Unit),True/\True->r.1=true->r.1=true)
def B5j {l:List N0} (h:∀m∈l,Q8 1048576 m/\Yb m) (ae:l.length<=1000):B9p l:=by
 have ad:K1=549755813888:=rfl;unfold B9p;refine⟨fun p=>0<=p.1/\p.1<=(l.length:Int),fun p=>((l.length:Int)-p.1).toNat,⟨qG _,qF _⟩, ?_⟩;rintro⟨A,_⟩ _ ⟨V,aa⟩;change Int at A;simp only at V aa⊢;refine⟨fun u=> ?_,fun _=>⟨trivial,fun ag _ a7=>a7⟩⟩;have u:=qA u;refine⟨fun _=>True,⟨⟨V,u⟩,trivial, ?_⟩,fun _ _ _=>by rw[wv (by omega)];exact⟨⟨by omega,by omega⟩,by omega⟩⟩;have a6:eL l A∈l:=D2 (by omega);obtain⟨j,P⟩:=h _ a6;generalize eL l A=m at j P⊢;obtain⟨R,C,D⟩:=m;change Int at R C;change List (List C8)at D;rintro⟨B,_⟩ _ y;change Bool at B;simp only at y⊢;refine⟨fun _=>trivial,fun a9=> ?_⟩;have a8:B=true:=by cases B with
  |true=>rfl
  |false=>cases a9
 rw[a8]at y;obtain⟨a1,H,_⟩:=qA y.symm;have w:A7 (R,C,D)->Di R.toNat C.toNat (el (R,C,D)) 1824522253:=fun a=>C0f a P j a1 H
 have U:Q8 K1 (R,C,D):=fun E a e c=>F8 (j E a e c) (by decide)
 refine⟨⟨1824522253,by decide,fun E a e c=>F8 (j E a e c) (by decide),by decide,w⟩, ?_⟩;rintro⟨X,e,_⟩ _ ⟨F,G⟩;change List C6 at X;change Int at e;simp only at F G⊢;refine⟨U, ?_⟩;rintro⟨ab,_⟩ _ z;change Bool at ab;simp only at z⊢;refine⟨fun d=> ?_,fun d=> ?_⟩
 . have a:¬A7 (R,C,D):=fun a=>by rw[z,rE a]at d;cases d
   obtain⟨s,c⟩:=F a;rw[s,c,J1];exact⟨fun h=>by simp at h,fun _=>trivial⟩
 have a:A7 (R,C,D):=qK fun a=>by rw[z,rC a]at d;cases d
 obtain⟨M,r⟩:=G a;simp only at M r;refine⟨⟨U,a,1824522253,by decide,by decide,w a⟩, ?_⟩;rintro⟨W,_⟩ _ ⟨af,O,T⟩;change Int at W;simp only at T⊢;have ac:0<=C:=a.2.2.1;have N:W=C↔∀b,b<C.toNat->¬Pw R.toNat C.toNat (el (R,C,D)) b:=by
  have:=B5e (n:=C.toNat) (Q:=fun b=>¬Pw R.toNat C.toNat (el (R,C,D)) b) O.1 fun b=>by rw[show((C.toNat:Nat):Int)=C from by omega];exact O.2 b
  rw[<-this,T];exact⟨fun h=>by omega,fun h=>by omega⟩
 refine⟨fun t=> ?_,fun t=> ?_⟩
 . obtain⟨s,c⟩:=M (N.1 (qA t));rw[s,c,J1];exact⟨fun h=>by simp at h,fun _=>trivial⟩
 have a5:∃b,b<C.toNat/\Pw R.toNat C.toNat (el (R,C,D)) b:=Classical.byContradiction fun d=>qB t (N.2 fun b r hd=>d ⟨b,r,hd⟩)
 obtain⟨c,J,I,a3,a2,k⟩:=r a5;subst c;have k:=k 1824522253 (by decide) (w a);refine⟨fun _=>⟨1048576,1824522253+1824522253,12,by decide,by decide,j,k,H,by decide,by decide,by decide,by omega⟩, ?_⟩;rintro⟨a0,_⟩ i;change Bool at a0;have i:=(i (rC fun h=>h rfl)).2;simp only at i⊢;have i:a0=true:=i.2 ⟨a,by omega,by rw[J];exact a3,by rw[J];exact a2⟩;rw[i];have x:∀q∈X,G3 q:=fun q v=>R5 (k q v) (by decide)
 refine⟨fun _=>⟨x,by omega⟩, ?_⟩;rintro⟨Y,_⟩ o;change List C6 at Y;have o:=(o (by rw[J1];simp)).2;simp only at o⊢;have a4:Y=X:=by
  rw[o];exact(g3o (g:=id) fun q v=>(I q v).symm).trans (List.map_id X)
 rw[a4];refine⟨fun _=>⟨x,x⟩, ?_⟩;rintro⟨Z,_⟩ f;change Bool at Z;have f:=(f (by rw[J1];simp)).2;simp only at f⊢;have f:Z=true:=by rw[f];exact rE ⟨by trivial,I⟩
 rw[f];simp only[J1];exact⟨fun h=>by simp at h,fun _=>trivial⟩
def Pa (x:A4 E3.args) (Q:awf E3.args x) (N:E3.pre x):Hb x:=by
 obtain⟨m,U,_⟩:=x;have M:Yb m:=Jx Q.1.2.2.2;have O:Q8 1048576 m:=N;simp only[Hb,iB,Mj];refine⟨trivial, ?_⟩;rintro⟨⟨tl,ti⟩,_⟩ _ G;simp only at G⊢;have P:ti=0:=tA Prod.snd G;subst P;have y:∀(r c:Nat) (o k:N0),A5r r c o->sqG 5 k->B9p [m,o,k]:=fun r c o k ⟨f,hf,h2⟩ ⟨n,_,_,g,hg,h3⟩=>B5j (fun a l=>by
  rcases qS.1 l with rfl|l
  . exact⟨O,M⟩
  . rcases qS.1 l with rfl|l
    . exact⟨MR h2 (by decide) fun i D _ _=>G9 (hf i D) (by decide),A3l h2⟩
    . rcases qS.1 l with rfl|l
      . exact⟨MR h3 (by decide) fun i D _ _=>G9 (hg i D) (by decide),A3l h3⟩
      . cases l) (by simp)
 have I:(0:Int)<7/\(0:Int)<=0/\(0:Int)<=(tl.length:Int):=⟨by decide,qG _,qF _⟩;have z:(1:Int)<=5/\(5:Int)<=20:=by decide
 have F:∀ {a b:Wf} {i:Int},a=b/\0<=i/\i<=(b.length:Int)->(0:Int)<7/\0<=i/\i<=(a.length:Int):=fun h=>⟨by decide,h.2.1,by rw[h.1];exact h.2.2⟩
 have B:∀ {a b:Wf} {i u v:Int},0<=u/\u<7->0<=v/\v<7->a=b/\0<=i/\i<=(b.length:Int)->0<=u/\u<=20/\0<=v/\v<=20/\0<=i/\i<=(a.length:Int):=fun hu hv h=>⟨hu.1,by omega,hv.1,by omega,h.2.1,by rw[h.1];exact h.2.2⟩
 refine⟨⟨I,fun T R _ _ w A=>⟨F A,fun J H _ _ s t=>⟨B w s t,fun o E _ _ j _=>⟨z,fun k _ d=>y _ _ _ _ j d⟩⟩⟩⟩,I,fun T R _ _ w A=> ?_⟩;refine⟨⟨F A,fun J H _ _ s t=>⟨B w s t,fun o E _ _ j _=>⟨z,fun k _ d=>y _ _ _ _ j d⟩⟩⟩,F A,fun J H _ _ s t=> ?_⟩;refine⟨⟨B w s t,fun o E _ _ j _=>⟨z,fun k _ d=>y _ _ _ _ j d⟩⟩,B w s t,fun o E _ _ j _=> ?_⟩;exact⟨⟨z,fun k _ d=>y _ _ _ _ j d⟩,z,fun k _ d=>y _ _ _ _ j d⟩
def SA (x:A4 Ik.args) (n:awf Ik.args x) (g:Ik.pre x):KW x:=by
 obtain⟨l,_⟩:=x;change List C6 at l;obtain⟨h,k⟩:(∀e∈l,G3 e)/\l.length<=100000:=g;simp only[KW,iB,K7];refine⟨fun p=>0<=p.2.1/\p.2.1<=(l.length:Int)/\p.1=(l.take p.2.1.toNat).map fun e=>rc (rv e),fun p=>((l.length:Int)-p.2.1).toNat,⟨qG _,qF _,rfl⟩, ?_⟩;rintro⟨z,i,_⟩ _ ⟨c,j,b⟩;change List C6 at z;change Int at i;simp only at c j b⊢;refine⟨fun a=> ?_,fun a=> ?_⟩
 . have a:=qA a;refine⟨⟨c,a⟩,h _ (G5 c a), ?_⟩;rintro⟨r,_⟩ _ f;change C6 at r;simp only at f⊢;have o:z.length<=100000:=by rw[b,sS,qU];omega
   rw[wv (by omega)];refine⟨⟨by rw[rA];omega,by rw[rA];omega⟩,⟨by omega,by omega, ?_⟩,by omega⟩;show z++ [r]= _;rw[show(i+1).toNat=i.toNat+1 from by omega,rS,vH, <-b,f,H5 (d:=dQ) c a];rfl
 . have a:=qB a;show z= _;rw[b,qR (show l.length<=i.toNat by omega)]
end Go.Proofs.YtljgpjhcieidbaaGreat
namespace Go.Vc
open Go Go.RowKit Go.Gw Go.Shelf
open Go.IntKind (i64)
structure El (t:Ty) (w:World) (Z:Nat->Prop) where
 c:List Value
 v:t.den
 h:C7 t w Z c v
def lC {t:Ty} {w:World} {Z:Nat->Prop} :∀ {l:List t.den} {xs:List Value},G2 (C7 t w Z) xs l->∃L:List (El t w Z),L.flatMap El.c=xs/\L.map El.v=l
 | [],_,h=>⟨[],h.symm,rfl⟩
 |x::l,_,⟨c1,g,e,a,b⟩=>by
  obtain⟨L,d,f⟩:=lC b;exact⟨⟨c1,x,a⟩::L,by rw[yK,d,e],by rw[rV,f]⟩
def lE {t:Ty} {w w':World} {Z Z':Nat->Prop} (a:∀c x,C7 t w Z c x->C7 t w' Z' c x):∀L:List (El t w Z),G2 (C7 t w' Z') (L.flatMap El.c) (L.map El.v)
 | []=>rfl
 |p::L=>⟨p.c,L.flatMap El.c,rfl,a _ _ p.h,lE a L⟩
def lR {α:Type} {enc:α->List Value} {k:Nat} (a:∀x,(enc x).length=k):∀(L:List α) (i r:Nat) {x:α},L[i]? =some x->r<k->(L.flatMap enc)[i*k+r]? =(enc x)[r]?
 | [],_,_,_,h,_=>by cases h
 |y::L,0,r,x,h,b=>by
  simp only[List.getElem?_cons_zero,rB]at h;subst h;rw[yK,xP,sB,vD (by rw[a];exact b)]
 |y::L,i+1,r,x,h,b=>by
  rw[uQ]at h;have e:(i+1)*k+r-k=i*k+r:=by rw[uO];omega
  rw[yK,tF (by rw[a,uO];omega),a,e];exact lR a L i r h b
def lS {α:Type} {enc:α->List Value} {k:Nat} (a:∀x,(enc x).length=k):∀L:List α,(L.flatMap enc).length=L.length*k
 | []=>by simp
 |x::L=>by rw[yK,rR,lS a L,a,rF,uO];omega
def lO {α:Type} [Inhabited α] {enc:α->List Value} {k:Nat} (c:∀x,(enc x).length=k) (d:Array α) {j:Nat} (a:j<d.size*k):(d.toList.flatMap enc)[j]? =some (Go.Sort.flatK enc k d)[j]!:=by
 have f:0<k:=by
  rcases vE k with h|h
  . rw[h,wR]at a;omega
  . exact h
 have b:j/k<d.size:=(tS f).2 a;have g:j%k<k:=wE _ f;have e:j=j/k*k+j%k:=by rw[sL];exact(wW j k).symm
 rw[Go.Sort.get_flatK enc k d j a];have a:d.toList[j/k]? =some d[j/k]!:=by
  rw[wL,vC b,g0s d _ b]
 have:=lR c d.toList (j/k) (j%k) a g;rw[<-e]at this;have a:j%k<(enc d[j/k]!).length:=by rw[c];exact g
 rw[this,qP a,g0s (enc d[j/k]!) (j%k) a]
def A6u {F cur:Array Value} {n:Nat} {xs:List Value} (c:xs.length=n) (a:F.size=n) (b:n<=cur.size) (h:∀j,j<n->xs[j]? =some F[j]!):(Go.Sort.putCells id 0 F cur).size=cur.size/\(Go.Sort.putCells id 0 F cur).toList.take n=xs:=by
 refine⟨by simp[Go.Sort.putCells], ?_⟩;apply xL;intro j;by_cases a:j<n
 . rw[rY a,h j a,wL];unfold Go.Sort.putCells;rw[Array.getElem?_mapIdx,vC (by omega)];simp only[wI];rw[qJ ⟨rL _,by omega⟩];rfl
 . rw[rT (by simp;omega),rT (by omega)]
def B2f {α:Type} [Inhabited α] {d a:Array α} (h:Go.Sort.PermIn 0 d.size d a):a.toList.Perm d.toList:=by
 obtain⟨b,_,a⟩:=h;rw[g2t,g2t]at a;simpa[List.extract_eq_take_drop,qR,b]using a
def A1u {α:Type} [Inhabited α] {lt:α->α->Bool} {c:Array α} {n:Nat} (d:c.size=n) (h:Go.Sort.SortedIn lt 0 n c):c.toList.Pairwise fun a b=>lt b a=false:=by
 rw[uD];intro i j d k g;have f:i<c.size:=by simpa using d
 have d:j<c.size:=by simpa using k
 have:=h i j (rL _) g (by omega);rw[g0s c i f,g0s c j d]at this;simpa using this
def B6x {w:World} {b m:Nat} {f:Array Value->Array Value} {a:Array Obj} :w.heap.size<=(Go.Sort.grow (Go.Sort.mapBlock (Go.Sort.ahead w m) b f) a).heap.size:=by
 simp[Go.Sort.grow,Go.Sort.mapBlock,Go.Sort.ahead]
def oF {w:World} {b m j:Nat} {f:Array Value->Array Value} {d:Array Obj} (a:j<w.heap.size) (c:j≠b):(Go.Sort.grow (Go.Sort.mapBlock (Go.Sort.ahead w m) b f) d).heap[j]? =w.heap[j]?:=by
 rw[Go.Sort.heap_grow_old _ _ (by simpa[Go.Sort.mapBlock,Go.Sort.ahead]using a)];unfold Go.Sort.mapBlock;simp only;rw[g2q,qH (Ne.symm c)];rfl
def B6w {w:World} {b m:Nat} {f:Array Value->Array Value} {c:Array Obj} {cur:Array Value} {e:TypeId} (a:w.heap[b]? =some (.cells cur e (0,0))):(Go.Sort.grow (Go.Sort.mapBlock (Go.Sort.ahead w m) b f) c).heap[b]? =some (.cells (f cur) e (0,0)):=by
 have c:b<w.heap.size:=(rU.1 a).1;rw[Go.Sort.heap_grow_old _ _ (by simpa[Go.Sort.mapBlock,Go.Sort.ahead]using c)];unfold Go.Sort.mapBlock;simp only;rw[g2q,qJ rfl];have:(Go.Sort.ahead w m).heap[b]? =some (.cells cur e (0,0)):=a;rw[this];rfl
def US {P:Program} {f:FuncId} (a:Fl P f=true) (args:Array Value) (w:World):(callFunc f args).run P w= .ok (.enter f args) w:=by
 unfold Fl at a;split at a
 . rename_i fn d;simp only[qC,rQ]at a;have c:¬fn.body=none:=by intro hb;rw[hb]at a;simp at a
   have b:¬fn.name= "runtime.NumGoroutine" :=by simpa using a.1
   simp[callFunc,d,b,c,go_sem]
 . cases a
def B6y {α d:Type} {φ:α->α->Int} (v:d->α) (f:∀a,¬φ a a<0) (g:∀a b c,φ a b<0->φ b c<0->φ a c<0) (i:∀a b c,¬φ a b<0->¬φ b c<0->¬φ a c<0):
 Go.Sort.SWO (Go.Proofs.ltOf fun x y:d=>φ (v x) (v y)):=by
 refine⟨fun x=> ?_,fun x y z h d=> ?_,fun x y z h d=> ?_⟩
 . exact rC (f _)
 . exact rE (g _ _ _ (qA h) (qA d))
 . exact rC (i _ _ _ (qB h) (qB d))
def A7g {t:Ty} {φ:t.den->t.den->Int} {e:TypeId} {w w':World} {Z:Nat->Prop} {fv:Value} {g c:Nat} {cur F:Array Value} {k:Nat} {x:List t.den} {L L':List (El t w Z)}
 (E:∀b,Z b->b<w.heap.size) (I:¬Z g) (i:t.size=k)
 (a0:w.heap[g]? =some (.cells cur e (0,0))) (n:L.length<=c) (N:c<=maxLen) (s:cur.size=c*k) (D:L.map El.v=x)
 (u:L'.Perm L) (Q:L'.Pairwise fun a b=>¬φ b.v a.v<0)
 (A:F.size=L.length*k) (B:∀j,j<L.length*k->(L'.flatMap El.c)[j]? =some F[j]!)
 (O:w'.os=w.os) (U:w'.tape=w.tape) (P:w'.output=w.output) (T:w.heap.size<=w'.heap.size)
 (l:∀j,j<w.heap.size->j≠g->w'.heap[j]? =w.heap[j]?) (H:w'.heap[g]? =some (.cells (Go.Sort.putCells id 0 F cur) e (0,0))):
 Hg (mW w (Ba t e φ).args [.slice (some ⟨g,0,none⟩) L.length c,fv]) w w'/\∃(r:Aq (Ba t e φ).res) (o:Mn (Ba t e φ).args) (us:List Value) (Zn:Nat->Prop),(Ba t e φ).post (x,()) r/\(P7 (Ba t e φ).args=true->(Ba t e φ).mpost (x,()) r o)/\Value.tuple #[]=Yy us/\(∀b,Zn b->(w.heap.size<=b/\b<w'.heap.size)\/((Ba t e φ).shared=true/\Z b))/\Mu w.heap.size w' Zn (Ba t e φ).res us r/\Vu w w' Zn (Ba t e φ).args [.slice (some ⟨g,0,none⟩) L.length c,fv] o:=by
 have f:L'.length=L.length:=u.length_eq;have G:∀p:El t w Z,p.c.length=k:=fun p=>by rw[<-i];exact C7.length p.h
 have y:(L'.flatMap El.c).length=L.length*k:=by rw[lS G,f]
 obtain⟨W,X⟩:=A6u y A (by rw[s];exact rM _ n) B;have R:N2 Z w w':=fun b d=>l b (E b d) (fun e=>I (e▸d))
 refine⟨⟨O,U,P,T,fun j J M=>l j J (fun z=>M ?_),trivial⟩,(),(L'.map El.v,()),[],Z,trivial,fun _=>⟨?_, ?_⟩,rfl,fun b d=> .inr ⟨rfl,d⟩,rfl, ?_⟩
 . subst z;refine⟨(.row t e, .slice (some ⟨j,0,none⟩) L.length c),rI, ?_⟩;rfl
 . rw[<-D];exact u.map _
 . exact wD.2 Q
 . refine⟨⟨L'.flatMap El.c,⟨?_, .inr ⟨g,c,Go.Sort.putCells id 0 F cur, ?_,rL _,H, ?_,N, ?_, ?_⟩⟩, ?_⟩,trivial⟩
   . simp only[sS];rw[y,f,i]
   . simp only[sS,f]
   . simp only[sS,f];exact n
   . rw[W,s,i]
   . simp only[sS,f,i];exact X
   . refine lE (fun Y a1 V=> ?_) L';exact C7.mono (fun b d=>d) R V
def B7n (P:Program) (g:FuncId) (t:Ty) (φ:t.den->t.den->Int):Prop:=
 ∀(w:World) (Z:Nat->Prop) (c1 a:List Value) (x y:t.den),C7 t w Z c1 x->C7 t w Z a y->Calls P g #[.agg c1.toArray, .agg a.toArray] w fun e b=>e= .returned (.int .i64 (φ x y))/\∃q a,b=Go.Sort.grow (w.drewN q) a
def B2t {P:Program} {ρ:Ren} (LL:Go.Proofs.SlLaysF0.n6 P ρ) {t:Ty} {e:TypeId} {g:FuncId} {φ:t.den->t.den->Int} (R:∀w,(isAgg (ρ.t 24)).run P w= .ok true w) (ah:∀w,(Go.sizeOf (ρ.t 24)).run P w= .ok t.size w)
 (U:∀a,¬φ a a<0) (V:∀a b c,φ a b<0->φ b c<0->φ a c<0) (W:∀a b c,¬φ a b<0->¬φ b c<0->¬φ a c<0) (a6:Fl P g=true) (a3:B7n P g t φ):A2n P (ρ.f 6) g t e φ:=by
 rintro w Z am aj D ⟨an,M,a5,a0⟩ a8;obtain⟨L,rfl,rfl⟩:=lC a5;have Y:(L.map El.v).length=L.length:=sS ..;rw[Y]at M a8;obtain⟨ai,af⟩:=M;have z:∀(p:Option Addr) (d:Nat),L= []->Gw.pA P (ρ.f 6) [.slice p 0 d, .func (.func g) #[] #[]] w fun u Q=>u= .tuple #[]/\Q=w:=fun p d _=>
  Calls.mono (Go.Proofs.AnyF.slices_SortFunc_none LL p d (.func (.func g) #[] #[]) w) fun _ _ ⟨N,hw⟩=>⟨_,N,rfl,hw⟩
 rcases af with⟨rfl,a9⟩ | ⟨b,d,cur,rfl,_,h,G,J,H,ae⟩
 . have n:L= []:=qO a9;subst n;refine(z none 0 rfl).mono ?_;rintro _ _ ⟨rfl,rfl⟩;refine⟨Hg.of (Q7.refl _),(),([],()),[],(fun _=>False),trivial,fun _=>⟨wT _,List.Pairwise.nil⟩,rfl,fun _ s=>s.elim,rfl,⟨⟨[],World.ownsRow_nil _ _ _ _,rfl⟩,trivial⟩⟩
 . have E:¬Z b:=a0 b rfl;have v:∀p:El t w Z,p.c.length=t.size:=fun p=>C7.length p.h
   have a1:b<w.heap.size:=(rU.1 h).1;rcases n:L with _ | ⟨ag,L0⟩
   . subst n;refine(z _ d rfl).mono ?_;rintro _ _ ⟨rfl,rfl⟩;refine⟨Hg.of (Q7.refl _),(),([],()),[],(fun _=>False),trivial,fun _=>⟨wT _,List.Pairwise.nil⟩,rfl,fun _ s=>s.elim,rfl,⟨⟨[],⟨by simp, .inr ⟨b,d,cur,rfl,rL _,h,G,J,H,by simp⟩⟩,rfl⟩,trivial⟩⟩
   . rw[<-n];clear z
     haveI:Inhabited (El t w Z):=⟨ag⟩
     have X:Go.Sort.HoldsK El.c t.size w b 0 L.toArray:=by
      intro r j;rw[Go.Sort.size_flatK]at j;have a7:r<L.length*t.size:=by simpa using j
      have N:=lO v L.toArray j;rw[sB];refine⟨?_, ?_⟩
      . have T:cur[r]? =some (Go.Sort.flatK El.c t.size L.toArray)[r]!:=by
         rw[<-N];simp only;rw[<-ae,rY a7,wL]
        simp only[World.cell?,h];exact T
      . simp[World.frozen?,h]
     have a4:Go.Proofs.CmpLays P g #[] El.c t.size (fun x y:El t w Z=>φ x.v y.v) b 0 L.toArray.size w:=by
      intro m O T a7 x y;have N:N2 Z w (Go.Proofs.sortWorldK El.c t.size w b 0 m T O):=by
       intro B o;have:B≠b:=fun e=>E (e▸o)
       exact oF (D B o) this
      exact a3 _ Z x.c y.c x.v y.v (C7.mono (fun _ i=>i) N x.h) (C7.mono (fun _ i=>i) N y.h)
     have a2:=Go.Proofs.AnyQ.slices_SortFunc LL t.size R ah El.c v (fun x=>C7.oneCell x.h) (fun x y:El t w Z=>φ x.v y.v) (B6y El.v U V W) g #[] b 0 d L.toArray w (US a6) a4 X a1 (by simp;omega);refine Calls.mono a2 ?_;rintro _ Q ⟨rfl,l,ak,O,A,ad,rfl⟩;refine⟨_,rfl, ?_⟩;have ab:=B2f A;have ac:=A1u A.1 ad;have I:l.size=L.length:=by rw[A.1];simp
     refine A7g (k:=t.size) (F:=Go.Sort.flatK El.c t.size l) (L:=L) (L':=l.toList) (cur:=cur) (x:=L.map El.v) D E rfl h G J H rfl ab ?_ ?_ ?_ rfl rfl rfl ?_ ?_ ?_
     . exact ac.imp fun i=>qB i
     . rw[Go.Sort.size_flatK,I]
     . intro r j;exact lO v l (by rw[I];exact j)
     . exact B6x
     . intro B o aa;exact oF o aa
     . exact B6w h
end Go.Vc
namespace Go.Proofs
open Go.Proofs.Tryz
open Go.Shelf
open Go.IntKind (i64)
def Tryz.sortEnt_ren:Go.Shelf.Ren:=⟨fun|6=>103|15=>144|14=>143|28=>181|29=>182|20=>173|21=>174|22=>175|23=>176|24=>177|25=>178|26=>179|27=>180|46=>199|47=>200|48=>201|49=>202|50=>203|57=>210|n=>n,fun|22=>67|24=>70|25=>139|3=>3|39=>154|0=>0|53=>116|55=>133|4=>4|46=>181|45=>180|50=>185|5=>5|9=>9|66=>202|70=>206|76=>211|77=>212|n=>n,fun|n=>n⟩
def Tryz.sortEnt:Go.Proofs.SlLaysF0.n6 prog sortEnt_ren:= {
 mixed:=by kernel_rfl
 f6:=⟨f103.name,by decide,func103.trans (tA some (by kernel_rfl))⟩
 f14:=⟨f143.name,by decide,func143.trans (tA some (by kernel_rfl))⟩
 f15:=func144.trans (tA some (by kernel_rfl))
 f20:=⟨f173.name,by decide,func173.trans (tA some (by kernel_rfl))⟩
 f21:=⟨f174.name,by decide,func174.trans (tA some (by kernel_rfl))⟩
 f22:=⟨f175.name,by decide,func175.trans (tA some (by kernel_rfl))⟩
 f23:=⟨f176.name,by decide,func176.trans (tA some (by kernel_rfl))⟩
 f24:=⟨f177.name,by decide,func177.trans (tA some (by kernel_rfl))⟩
 f25:=⟨f178.name,by decide,func178.trans (tA some (by kernel_rfl))⟩
 f26:=⟨f179.name,by decide,func179.trans (tA some (by kernel_rfl))⟩
 f27:=⟨f180.name,by decide,func180.trans (tA some (by kernel_rfl))⟩
 f28:=func181.trans (tA some (by kernel_rfl))
 f29:=func182.trans (tA some (by kernel_rfl))
 f46:=⟨f199.name,by decide,func199.trans (tA some (by kernel_rfl))⟩
 f47:=func200.trans (tA some (by kernel_rfl))
 f48:=func201.trans (tA some (by kernel_rfl))
 f49:=⟨f202.name,by decide,func202.trans (tA some (by kernel_rfl))⟩
 f50:=⟨f203.name,by decide,func203.trans (tA some (by kernel_rfl))⟩
 f57:=⟨f210.name,by decide,func210.trans (tA some (by kernel_rfl))⟩
 t0:=underlying0
 a0:=isAgg0
 z0:=sizeOf0
 v0:=zeroValue0
 t3:=underlying3
 a3:=isAgg3
 z3:=sizeOf3
 v3:=zeroValue3
 t4:=underlying4
 a4:=isAgg4
 z4:=sizeOf4
 v4:=zeroValue4
 t5:=underlying5
 a5:=isAgg5
 z5:=sizeOf5
 v5:=zeroValue5
 t9:=underlying9
 a9:=isAgg9
 z9:=sizeOf9
 v9:=zeroValue9
 t22:=underlying67
 a22:=isAgg67
 z22:=sizeOf67
 v22:=zeroValue67
 t25:=underlying139
 a25:=isAgg139
 z25:=sizeOf139
 v25:=zeroValue139
 t39:=underlying154
 a39:=isAgg154
 z39:=sizeOf154
 v39:=zeroValue154
 t45:=underlying180
 a45:=isAgg180
 z45:=sizeOf180
 v45:=zeroValue180
 t46:=underlying181
 a46:=isAgg181
 z46:=sizeOf181
 v46:=zeroValue181
 t50:=underlying185
 a50:=isAgg185
 z50:=sizeOf185
 v50:=zeroValue185
 t53:=underlying116
 a53:=isAgg116
 z53:=sizeOf116
 v53:=zeroValue116
 t55:=underlying133
 a55:=isAgg133
 z55:=sizeOf133
 v55:=zeroValue133
 t66:=underlying202
 a66:=isAgg202
 z66:=sizeOf202
 v66:=zeroValue202
 t70:=underlying206
 a70:=isAgg206
 z70:=sizeOf206
 v70:=zeroValue206
 t76:=underlying211
 a76:=isAgg211
 z76:=sizeOf211
 v76:=zeroValue211
 t77:=underlying212
 a77:=isAgg212
 z77:=sizeOf212
 v77:=zeroValue212}
def Tryz.cmpInt_ren:Go.Shelf.Ren:=⟨fun|5=>145|7=>183|n=>n,fun|22=>3|3=>3|4=>4|n=>n,fun|n=>n⟩
def Tryz.cmpInt:Go.Proofs.SlLaysC2.n5 prog cmpInt_ren:= {
 mixed:=by kernel_rfl
 f5:=⟨f145.name,by decide,func145.trans (tA some (by kernel_rfl))⟩
 f7:=⟨f183.name,by decide,func183.trans (tA some (by kernel_rfl))⟩
 t3:=underlying3
 a3:=isAgg3
 z3:=sizeOf3
 v3:=zeroValue3
 t4:=underlying4
 a4:=isAgg4
 z4:=sizeOf4
 v4:=zeroValue4
 t22:=underlying3
 a22:=isAgg3
 z22:=sizeOf3
 v22:=zeroValue3}
end Go.Proofs
namespace Go.Proofs.YtljgpjhcieidbaaGreat
open Go.Proofs.Tryz
open Go.Vc Go.Gw Go.Lib Go.Shelf
open Go.IntKind (i64)
def jP (w:World) (o:Obj):w.alloc o= {w with heap:=w.heap.push o} :=rfl
def B8s (a b:Int):Lib.compareInt a b=O6 a b:=by
 unfold Lib.compareInt O6
 (repeat' split)<;>first|rfl|omega
def A5g (a b:Int) (c d:List Value) (w:World):Calls prog 104 #[.agg (.int .i64 a::c).toArray, .agg (.int .i64 b::d).toArray] w fun e w'=>e= .returned (.int .i64 (Lib.compareInt a b))/\∃q h,w'=Go.Sort.grow (w.drewN q) h:=by
 have i:∀args w,(callFunc 145 args).run prog w= .ok (.enter 145 args) w:=Go.Vc.US (by kernel_rfl);have f:=fun(w:World)=>AnyG.cmp_Compare_int cmpInt a b w
 go_enter func104,ntmps104
 go_wp2_with (go_at_fn (145);refine(f _).mono ?_;rintro e w' ⟨rfl,g⟩;rw[g])
 go_ret
 refine⟨rfl,0, #[.cells (Value.int .i64 a::c).toArray 70, .cells (Value.int .i64 b::d).toArray 70], ?_⟩;rw[jP,jP];simp[Go.Sort.grow,World.drewN];apply g1m.1;simp
def B4i:B7n prog 104 tE (fun a b:C8=>O6 a.1 b.1):=by
 rintro w Z c1 f x y ⟨g,c,rfl,⟨rfl,_⟩,_⟩ ⟨h,d,rfl,⟨rfl,_⟩,_⟩;have:=A5g x.1 y.1 c d w;rw[B8s]at this;exact this
def B2s:jI prog 103 (A4n 104 tE 70 (fun a b=>O6 a.1 b.1)):=by
 refine A1t (tys:= []) (B2t (ρ:=sortEnt_ren) sortEnt (t:=tE) (e:=70) (g:=104) (φ:=fun a b:C8=>O6 a.1 b.1) isAgg70 sizeOf70 (fun a=> ?_) (fun a b c=> ?_) (fun a b c=> ?_) (by kernel_rfl) B4i);all_goals (simp only[O6];(repeat' split)<;>omega)
open Go.Vc Go.Gw
def I8 {P:Program} {tys:List (Nat×TI)} {sp:G4} {f:FuncId} {fn:Func} {s:A9} {a:A4 s.args->Prop} (an:An) (c:P.funcs[f]? =some fn) (j:∀x,awf s.args x->s.pre x->a x) (i:G6 P tys=true) (h:Sl P sp) (b:∀x,C0l P tys sp an s fn x=a x:=by intro x;kernel_rfl) (a:fn.body.isSome=true:=by kernel_rfl) (d:Nat.ble s.args.length fn.ntmps=true:=by kernel_rfl) (g:Bg fn.ntmps (fn.body.getD .skip)=true:=by kernel_rfl):B7 P f s:=
 B1f c a d g i h b j
def WF:B7 prog 8 Dt:=I8 TN func8 KL A6 (A2)
def OU:B7 prog 12 Hr:=I8 jR func12 YC A6 (A2)
def nE:B7 prog 55 Lc:=I8 jQ func55 YB A6 (A2)
def Bm:B7 prog 22 S9:=I8 HY func22 Zk A6 (A0 nE (A2))
def Ni:B7 prog 41 Lq:=I8 kC func41 ZE A6 (A2)
def Tp:B7 prog 44 Ii:=I8 eO func44 RY A6 (A2)
def S5:B7 prog 135 Le:=I8 jT func135 YI A6 (A2)
def Ab:B7 prog 91 Lf:=I8 jU func91 YN A6 (A0 S5 (A2))
def OV:B7 prog 87 Lg:=I8 jV func87 YQ A6 (A0 Ab (A2))
def OW:B7 prog 56 Lh:=I8 jW func56 YR A6 (A0 OV (A2))
def WJ:B7 prog 105 Qv:=I8 pB func105 aJ A6 (A0 S5 (A2))
def WK:B7 prog 146 Dz:=I8 TU func146 KS A6 (A0 S5 (A2))
def WL:B7 prog 106 Qy:=I8 pE func106 aM A6 (A0 S5 (A0 WK (A2)))
def Ng:B7 prog 130 Y4:=I8 ID func130 Zw A6 (A0 S5 (A2))
def aB:B7 prog 168 Gf:=I8 ZS func168 OC A6 (A0 S5 (A2))
def nF:B7 prog 169 Ld:=I8 jS func169 YE A6 (A0 S5 (A2))
def A1b:B7 prog 170 Qz:=I8 pF func170 aN A6 (A2)
def DY:B7 prog 132 Ge:=I8 ZR func132 OB A6 (A0 WJ (A0 WL (A0 Ng (A0 S5 (A0 aB (A0 nF (A0 A1b (A2))))))))
def A0z:B7 prog 131 Qw:=I8 pC func131 aK A6 (A0 DY (A0 S5 (A2)))
def A1d:B7 prog 88 Rc:=I8 pI func88 aQ A6 (A0 Ab (A0 A0z (A2)))
def GF:B7 prog 61 Rb:=I8 pH func61 aP A6 (A0 Ab (A0 WJ (A0 WL (A2))))
def Ks:B7 prog 85 Ea:=I8 TV func85 KV A6 (A0 Ab (A0 Ng (A2)))
def A1c:B7 prog 133 Ra:=I8 pG func133 aO A6 (A0 Ab (A2))
def GH:B7 prog 90 Rf:=I8 pK func90 aS A6 (A0 Ab (A2))
def A1e:B7 prog 134 Rh:=I8 pL func134 aT A6 (A0 GF (A0 GH (A2)))
def aC:B7 prog 89 Gg:=I8 ZT func89 OD A6 (A0 GF (A0 Ks (A0 Ab (A0 DY (A0 A1c (A0 A1e (A2)))))))
def Bw:B7 prog 48 Li:=I8 jX func48 YW A6 (A0 Ni (A0 Tp (A0 OW (A0 OV (A0 A1d (A0 aC (A0 GH (A2))))))))
def Ac:B7 prog 50 Lj:=I8 jY func50 YZ A6 (A0 Bw (A2))
def Nh:B7 prog 23 Lp:=I8 kB func23 ZC A6 (A0 Ac (A0 OW (A2)))
def A1a:B7 prog 92 Qx:=I8 pD func92 aL A6 (A0 S5 (A2))
def GG:B7 prog 49 Re:=I8 pJ func49 aR A6 (A0 Ab (A0 A1a (A2)))
def Ts:B7 prog 51 Ro:=I8 pS func51 bA A6 (A0 Ac (A2))
def Tq:B7 prog 26 Ke:=I8 pM func26 aU A6 (A0 Bw (A0 GG (A0 Ac (A0 Ts (A0 GF (A2))))))
def WN:B7 prog 129 Rp:=I8 pT func129 bB A6 (A0 Tq (A0 Ni (A2)))
def WO:B7 prog 151 Eb:=I8 TX func151 LA A6 (A2)
def OY:B7 prog 111 Lr:=I8 kD func111 ZH A6 (A0 Nh (A0 WN (A0 WO (A2))))
def Ql:B7 prog 68 Ax:=I8 LU func68 DK A6 (A0 OY (A2))
def Yj:B7 prog 45 Hs:=I8 kE func45 ZI A6 (A0 Ql (A2))
def A6o:B7 prog 86 Yr:=I8 A4x func86 iV A6 (A0 Bw (A0 Ks (A2)))
def NH:B7 prog 46 Av:=I8 LR func46 DI A6 (A0 Bm (A0 A6o (A2)))
def Jh:B7 prog 14 O8:=I8 CE func14 Uo A6 (A0 Bm (A0 Ni (A0 Yj (A0 NH (A2)))))
def Kt:B7 prog 42 Bd:=I8 TW func42 KY A6 (A0 Bw (A0 Ks (A2)))
def JJ:B7 prog 66 Im:=I8 eW func66 SD A6 (A0 Nh (A2))
def JI:B7 prog 84 Ez:=I8 eV func84 SC A6 (A0 JJ (A0 OY (A0 WN (A2))))
def WG:B7 prog 13 Du:=I8 (sp:=XO) TO func13 KM BS (A0 OU (A0 Jh (A0 Bm (A0 Tq (A0 Kt (A0 Yj (S1 (Eo (cx:=⟨prog,A2f⟩) (fn:=f40) (c:=f40.body.getD .skip) func40 (by kernel_rfl) (by kernel_rfl) BS (H4 (A0 JI (A2)) (O5))) (A2))))))))
def V6:B7 prog 118 X9:=I8 HW func118 Zg A6 (A2)
def H7:B7 prog 126 Bc:=I8 TT func126 KR A6 (A2)
def K0:B7 prog 119 Q3:=I8 Vy func119 Pb A6 (A0 H7 (A2))
def GB:B7 prog 73 W2:=I8 EX func73 Wv A6 (A0 V6 (A0 K0 (A2)))
def N9:B7 prog 35 L3:=I8 CH func35 Us A6 (A0 GB (A2))
def Jc:B7 prog 163 Ch:=I8 QE func163 HC A6 (A2)
def JG:B7 prog 120 Y2:=I8 IB func120 Zs A6 (A0 H7 (A0 Jc (A2)))
def Bn:B7 prog 74 Y8:=I8 IF func74 AC A6 (A0 JG (A2))
def Bz:B7 prog 75 S0:=I8 Xh func75 Si A6 (A0 K0 (A2))
def K9:B7 prog 121 W3:=I8 EY func121 Ww A6 (A0 H7 (A2))
def V7:B7 prog 76 Y7:=I8 IE func76 AB A6 (A0 K9 (A2))
def Am:B7 prog 123 Cg:=I8 QD func123 HB A6 (A0 H7 (A2))
def RH:B7 prog 122 Ce:=I8 QA func122 GY A6 (A0 V6 (A0 Am (A2)))
def Qk:B7 prog 166 N5:=I8 Pq func166 Mc A6 (A0 K0 (A0 H7 (A2)))
def ZY:B7 prog 181 Gb:=I8 ZO func181 NX A6 (A2)
def Fu:B7 prog 191 K2:=I8 Sm func191 Mr A6 (A0 ZY (A2))
def GE:B7 prog 194 R0:=I8 FB func194 Wz A6 (A2)
def Wi:B7 prog 196 M5:=I8 Vz func196 Pd A6 (A0 H7 (A2))
def Wj:B7 prog 167 Q4:=I8 (sp:=Wn) Wa func167 Pe A6 (A0 H7 (A0 Fu (A0 GE (A0 Wi (S1 (Eo (cx:=⟨prog,tys⟩) (fn:=f195) (c:=f195.body.getD .skip) func195 (by kernel_rfl) (by kernel_rfl) A6 (H4 (A2) (O5))) (A2))))))
def Nf:B7 prog 125 Y1:=I8 IA func125 Zo A6 (A0 K0 (A0 K9 (A0 Am (A0 H7 (A0 Jc (A0 Qk (A0 Wj (A2))))))))
def CR:B7 prog 208 T8:=I8 CF func208 Uq A6 (A2)
def JH:B7 prog 192 Y3:=I8 IC func192 Zu A6 (A0 CR (A2))
def GD:B7 prog 164 W5:=I8 FA func164 Wy A6 (A0 Fu (A0 JH (A2)))
def Fv:B7 prog 79 Dx:=I8 TR func79 KP A6 (A0 H7 (A2))
def Yi:B7 prog 193 Dy:=I8 TS func193 KQ A6 (A0 K9 (A0 H7 (A2)))
def GC:B7 prog 165 W4:=I8 EZ func165 Wx A6 (A0 Fv (A0 K0 (A0 Yi (A2))))
def WI:B7 prog 124 Dw:=I8 TQ func124 KO A6 (A0 K0 (A0 K9 (A0 Am (A0 Nf (A0 H7 (A0 Jc (A0 GD (A0 GC (A2)))))))))
def Es:B7 prog 77 W7:=I8 FD func77 Xb A6 (A0 RH (A0 Am (A0 WI (A0 Nf (A2)))))
def Kr:B7 prog 78 Dq:=I8 TK func78 KH A6 (A0 Fv (A0 V6 (A2)))
def Ao:B7 prog 36 Y6:=I8 QK func36 HI A6 (A0 Bn (A0 Bz (A0 V7 (A0 Es (A0 Kr (A0 Fv (A2)))))))
def O7:B7 prog 80 R4:=I8 LV func80 DL A6 (A0 Bn (A0 Bz (A0 V7 (A0 Es (A2)))))
def WC:B7 prog 81 Dr:=I8 TL func81 KI A6 (A0 V6 (A0 Am (A2)))
def Ek:B7 prog 38 Q5:=I8 QL func38 HJ A6 (A0 O7 (A0 WC (A2)))
def JF:B7 prog 93 Y0:=I8 HZ func93 Zl A6 (A2)
def Ux:B7 prog 150 Cf:=I8 QB func150 GZ A6 (A0 K9 (A2))
def L8:B7 prog 108 Ay:=I8 LW func108 DN A6 (A0 V7 (A0 Ux (A2)))
def Jj:B7 prog 136 U3:=I8 CK func136 Uu A6 (A2)
def RP:B7 prog 94 Cm:=I8 QO func94 HM A6 (A0 L8 (A0 Jj (A2)))
def U9:B7 prog 52 K4:=I8 QC func52 HA A6 (A0 JF (A0 RP (A2)))
def Je:B7 prog 138 Z6:=I8 QP func138 HN A6 (A0 L8 (A2))
def NF:B7 prog 183 Ar:=I8 LP func183 DC A6 (A2)
def Kq:B7 prog 145 V9:=I8 EU func145 Ws A6 (A0 NF (A2))
def JK:B7 prog 104 Z4:=I8 IJ func104 AG A6 (A0 Kq (A2))
def WH:B7 prog 198 Dv:=I8 TP func198 KN A6 (A0 H7 (A2))
def WB:B7 prog 172 Dp:=I8 TJ func172 KG A6 (A0 V6 (A0 Yi (A0 WH (A2))))
def Ej:B7 prog 141 Ck:=I8 QH func141 HF A6 (A0 Bn (A0 Bz (A0 V7 (A0 Es (A0 Kr (A0 Fv (A0 O7 (A0 L8 (A0 K9 (A0 WB (A2)))))))))))
def Dg:B7 prog 173 F6:=I8 Dd func173 Br A6 (A2)
def Gt:B7 prog 209 Ht:=mU fun _ h=>h
def Ig:B7 prog 197 H9:=I8 Hz func197 Gm A6 (A0 Dg (A0 Gt (A2)))
def Cu:B7 prog 171 F3:=I8 Cp func171 Bi A6 (A0 Ig (A2))
def Fx:B7 prog 139 T2:=I8 II func139 AF A6 (A0 JK (A0 Jj (A0 Ej (A0 Cu (A2)))))
def NJ:B7 prog 142 Az:=I8 LX func142 DO A6 (A0 O7 (A2))
def Ku:B7 prog 97 Be:=I8 TZ func97 LG A6 (A0 Je (A0 Fx (A0 NJ (A2))))
def Qm:B7 prog 102 N6:=I8 Pr func102 Mh A6 (A2)
def Fw:B7 prog 60 M7:=I8 IG func60 AE A6 (A0 Ku (A0 Qm (S1 B2s (A2))))
def Gx:B7 prog 140 M6:=I8 Wb func140 Pf A6 (A0 Ao (A0 O7 (A0 L8 (A0 Ej (A2)))))
def Ji:B7 prog 96 L5:=I8 CJ func96 Ut A6 (A0 Je (A0 Fx (A0 Gx (A2))))
def RJ:B7 prog 100 Y5:=I8 QJ func100 HH A6 (A0 O7 (A0 L8 (A2)))
def aD:B7 prog 101 Cy:=I8 ZU func101 OE A6 (A0 N9 (A0 Ej (A2)))
def Qi:B7 prog 24 R3:=I8 (sp:=Rr) Pn func24 DF BR (A0 N9 (A0 U9 (A0 Fw (S1 (Eo (cx:=⟨prog,RX⟩) (fn:=f57) (c:=f57.body.getD .skip) func57 (by kernel_rfl) (by kernel_rfl) BR (H4 (A0 Ku (A2)) (O5))) (S1 (Eo (cx:=⟨prog,RX⟩) (fn:=f58) (c:=f58.body.getD .skip) func58 (by kernel_rfl) (by kernel_rfl) BR (H4 (S1 (Eo (cx:=⟨prog,RX⟩) (fn:=f98) (c:=f98.body.getD .skip) func98 (by kernel_rfl) (by kernel_rfl) BR (H4 (A2) (H4 (A2) (H4 (A2) (H4 (A2) (O5)))))) (A2)) (O5))) (S1 (Eo (cx:=⟨prog,RX⟩) (fn:=f59) (c:=f59.body.getD .skip) func59 (by kernel_rfl) (by kernel_rfl) BR (H4 (A0 Ao (A0 Ek (A0 Ji (A0 RJ (A0 aD (S1 (Eo (cx:=⟨prog,RX⟩) (fn:=f99) (c:=f99.body.getD .skip) func99 (by kernel_rfl) (by kernel_rfl) BR (H4 (A2) (H4 (A2) (O5)))) (A2))))))) (O5))) (A2))))))) DD
def RG:B7 prog 37 Cd:=I8 PZ func37 GX A6 (A2)
def ZZ:B7 prog 9 Gc:=I8 ZP func9 NZ A6 (A0 Qi (A0 N9 (A0 Ao (A0 RG (A0 Ek (A2))))))
def gY:B7 prog 43 Ij:=I8 eP func43 RZ A6 (A0 Tp (A2))
def Tr:B7 prog 11 Il:=I8 eU func11 SB A6 (A0 gY (A0 Tp (A2)))
def Wg:B7 prog 53 M0:=I8 (sp:=Wm) Vw func53 Oz BS (A0 Fw (S1 (Eo (cx:=⟨prog,A2f⟩) (fn:=f95) (c:=f95.body.getD .skip) func95 (by kernel_rfl) (by kernel_rfl) BS (H4 (A0 U9 (A0 O7 (S1 (Eo (cx:=⟨prog,A2f⟩) (fn:=f137) (c:=f137.body.getD .skip) func137 (by kernel_rfl) (by kernel_rfl) BS (H4 (A2) (O5))) (A2)))) (O5))) (A2)))
def Jd:B7 prog 64 U2:=I8 QI func64 HG A6 (A0 Ao (A0 L8 (A2)))
def We:B7 prog 19 P9:=I8 (sp:=Wl) Vv func19 Oy A6 (A0 U9 (A0 Wg (S1 (Eo (cx:=⟨prog,tys⟩) (fn:=f54) (c:=f54.body.getD .skip) func54 (by kernel_rfl) (by kernel_rfl) A6 (H4 (A0 Ek (A0 Jd (A0 Ji (A2)))) (O5))) (A2))))
def JE:B7 prog 21 X8:=I8 HV func21 Zb A6 (A2)
def Qj:B7 prog 147 N4:=I8 Pp func147 Lx A6 (A2)
def Tn:B7 prog 148 O2:=I8 Sv func148 Ms A6 (A0 U9 (A2))
def FZ:B7 prog 204 W0:=I8 EV func204 Wt A6 (A2)
def Yg:B7 prog 184 R8:=I8 Xf func184 Rz A6 (A0 FZ (A2))
def GA:B7 prog 185 W1:=I8 EW func185 Wu A6 (A0 K9 (A0 Ux (A2)))
def CS:B7 prog 149 T9:=I8 CG func149 Ur A6 (A0 Bn (A0 V7 (A0 Kr (A0 L8 (A0 Kq (A0 Yg (A0 GA (A2))))))))
def Yh:B7 prog 107 R9:=I8 Xg func107 Sb A6 (A0 N9 (A0 Qj (A0 Tn (A0 CS (A2)))))
def JD:B7 prog 62 X7:=I8 HU func62 Yz A6 (A0 Yh (A2))
def RN:B7 prog 109 Cl:=I8 QM func109 HK A6 (A0 Ej (A2))
def WA:B7 prog 63 Dn:=I8 TH func63 KF A6 (A0 Ao (A0 L8 (A0 RN (A2))))
def RE:B7 prog 27 Cc:=I8 PY func27 GW A6 (A0 JD (A0 WA (A0 Jd (A2))))
def NI:B7 prog 69 Aw:=I8 LS func69 DJ A6 (A0 Tr (A0 Ac (A2)))
def OX:B7 prog 32 Ll:=I8 kA func32 ZB A6 (A0 Tr (A0 NI (A2)))
def aA:B7 prog 47 Gd:=I8 ZQ func47 OA A6 (A0 Kt (A0 Yj (A2)))
def WE:B7 prog 17 Ds:=I8 TM func17 KJ A6 (A0 ZZ (A0 Tr (A0 We (A0 JE (A0 Qi (A0 RE (A0 OX (A0 Kt (A0 aA (A2))))))))))
def RO:B7 prog 65 Y9:=I8 QN func65 HL A6 (A0 N9 (A0 Ku (A2)))
def NG:B7 prog 28 Au:=I8 (sp:=NS) LQ func28 DG BQ (A0 N9 (A0 U9 (A0 RO (S1 (Eo (cx:=⟨prog,XX⟩) (fn:=f53) (c:=f53.body.getD .skip) func53 (by kernel_rfl) (by kernel_rfl) BQ (H4 (A0 Fw (S1 (Eo (cx:=⟨prog,XX⟩) (fn:=f95) (c:=f95.body.getD .skip) func95 (by kernel_rfl) (by kernel_rfl) BQ (H4 (A0 U9 (A0 O7 (S1 (Eo (cx:=⟨prog,XX⟩) (fn:=f137) (c:=f137.body.getD .skip) func137 (by kernel_rfl) (by kernel_rfl) BQ (H4 (A2) (O5))) (A2)))) (O5))) (A2))) (O5))) (S1 (Eo (cx:=⟨prog,XX⟩) (fn:=f54) (c:=f54.body.getD .skip) func54 (by kernel_rfl) (by kernel_rfl) BQ (H4 (A0 Ek (A0 Jd (S1 (Eo (cx:=⟨prog,XX⟩) (fn:=f96) (c:=f96.body.getD .skip) func96 (by kernel_rfl) (by kernel_rfl) BQ (H4 (A0 Je (A0 Fx (A0 Gx (A2)))) (O5))) (A2)))) (O5))) (A2))))))
def Tt:B7 prog 29 Ip:=I8 eY func29 SF A6 (A0 JJ (A2))
def WM:B7 prog 18 Rl:=I8 pP func18 aX A6 (A0 Bw (A0 GG (A0 Ac (A0 Ts (A2)))))
def A1f:B7 prog 127 Ri:=I8 pN func127 aV A6 (A0 Nh (A0 Bw (A0 GG (A0 Ac (A0 Ts (A2))))))
def nG:B7 prog 82 Lk:=I8 jZ func82 ZA A6 (A0 A1f (A2))
def A1h:B7 prog 128 Rm:=I8 pQ func128 aY A6 (A0 Bw (A0 Ac (A0 Ts (A0 GH (A2)))))
def A1i:B7 prog 83 Rn:=I8 pR func83 aZ A6 (A0 Tq (A0 A1h (A2)))
def WP:B7 prog 39 Ed:=I8 TY func39 LF BS (A0 WM (A0 Nh (A0 nG (A0 A1i (A2)))))
def Uy:B7 prog 40 Ci:=I8 QF func40 HD A6 (A0 JI (A2))
def GI:B7 prog 20 W6:=I8 FC func20 Xa A6 (A0 Tt (A0 WP (A0 Uy (A2))))
def nH:B7 prog 30 Ls:=I8 kF func30 ZJ A6 (A0 GI (A2))
def A1g:B7 prog 110 Rj:=I8 pO func110 aW A6 (A0 WM (A0 Tq (A0 Ni (A2))))
def iC:B7 prog 67 Io:=I8 eX func67 SE A6 (A0 Tt (A0 Uy (A0 A1g (A2))))
def RI:B7 prog 31 Cj:=I8 QG func31 HE A6 (A0 iC (A0 Ql (A2)))
def gZ:B7 prog 33 Ik:=I8 eQ func33 SA A6 (A0 Ac (A2))
def Wh:B7 prog 6 E3:=I8 Vx func6 Pa A6 (A0 WF (A0 OU (A0 WG (A0 Jh (A0 WE (A0 Bm (A0 NG (A0 Tt (A0 nH (A0 RI (A0 OX (A0 gZ (A2)))))))))))))
def A2t {t:Ty} {l:List t.den} {x:t.den} (h:x∈l):FF t x+1<=FF (.sl t) l:=by
 simp only[FF]
 induction l with
 |nil=>cases h
 |cons y r a=>
  simp only[rV,g3r];cases qS.1 h with
  |inl e=>subst e;omega
  |inr e=>have:=a e;omega
def A2s {t:Ty} (a:∀x,1<=FF t x) (l:List t.den):l.length+1<=FF (.sl t) l:=by
 simp only[FF]
 induction l with
 |nil=>simp
 |cons y r b=>simp only[rV,g3r,rF];have:=a y;omega
def B8o {k:Nat} {x:C6} (h:FF tQ x<=k):sz k x:=by
 have a:=A2s (t:= .int .u32) (fun _=>qT _) x.1.2;have a:=A2s (t:= .int .u32) (fun _=>qT _) x.2;have h:FF .bool x.1.1+FF (.sl (.int .u32)) x.1.2+FF (.sl (.int .u32)) x.2<=k:=h;exact⟨by omega,by omega⟩
def B4h {k:Nat} {m:N0} (h:FF tM m<=k):Q8 k m:=fun v b e a=>B8o (by
 have h:1+(1+FF (.sl (.sl tE)) m.2.2)<=k:=h;have c:=A2t (t:= .sl tE) b;have b:=A2t (t:=tE) a;have a:FF tE e=1+FF tQ e.2:=rfl;omega)
def NK (x:A4 E3.args) (h:A2r E3.args x<=1048576):E3.pre x:=by
 obtain⟨m,a,u⟩:=x;have h:FF tM m+(FF (.sl (.int .i64)) a+0)<=1048576:=h;have b:Q8 1048576 m:=B4h (by omega);exact b
end Go.Proofs.YtljgpjhcieidbaaGreat
